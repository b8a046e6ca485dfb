/- Contract of rect.Tiles, where all is right. -/
import Derived.Test.YtnlojbkjhlhogaaN
import Derived.Test.YtnlojbkjhlhogaaI
namespace Go.Proofs.Ytnlojbkjhlhogaa
open Go Go.RowKit Go.Shelf IV
attribute [local go_sem] Oper.semAt_some
set_option linter.unusedVariables false

theorem keepsOthers_below {W W' : World} (h : Below W.heap.size W W') : KeepsOthers W W' := ⟨h.size, fun k o ho _ => (h.block k (Array.getElem?_eq_some_iff.1 ho).1).trans ho⟩
theorem below_own {W0 X Y : World} {row : Option Nat} (h : Below W0.heap.size W0 X) (hg : X.grownBy Y row) (hr : ∀ r, row = some r → W0.heap.size ≤ r ∧ ∃ o : Obj, X.heap[r]? = some o ∧ o.isCells = false) : Below W0.heap.size W0 Y :=
  h.trans ⟨hg.os, hg.tape, hg.output, hg.size, fun k hk => hg.block k (Nat.lt_of_lt_of_le hk h.size) (fun e => by have := (hr k e.symm).1; omega)⟩
theorem frame138 (tmps : Array Value) (hs : tmps.size = 138) {ds : List Deferred} : Ending.returned (Value.tuple #[(({ tmps := (tmps.setIfInBounds 4 (Value.bool false)).setIfInBounds 5 (Value.int IntKind.i64 0), defers := ds } : Act).tmps.getD 4 undef), (({ tmps := (tmps.setIfInBounds 4 (Value.bool false)).setIfInBounds 5 (Value.int IntKind.i64 0), defers := ds } : Act).tmps.getD 5 undef)]) = Ending.returned (Value.tuple #[.bool false, .int .i64 0]) := by
  simp [Array.getD_eq_getD_getElem?, hs]

/-- how the run stands where it comes to the label: with the range's mark, or without -/
def AtNo (w : World) (a : Act) (W : World) : Prop :=
  a.tmps.size = 138 ∧ Below w.heap.size w W ∧ (a.defers = [] ∨ ∃ D, w.heap.size ≤ D ∧ a.defers = [{ target := .collected D, args := #[] }] ∧ W.heap[D]? = some (.deferred (some [])))

/-- all but the map's block is as it was -/
structure MB (bm : Nat) (w w' : World) : Prop where
  os : w'.os = w.os
  tape : w'.tape = w.tape
  output : w'.output = w.output
  size : w.heap.size ≤ w'.heap.size
  block : ∀ k, k < w.heap.size → k ≠ bm → w'.heap[k]? = w.heap[k]?
theorem MB.refl (bm : Nat) (w : World) : MB bm w w := ⟨rfl, rfl, rfl, Nat.le_refl _, fun _ _ _ => rfl⟩
theorem MB.trans {bm : Nat} {a b c : World} (h : MB bm a b) (k : MB bm b c) : MB bm a c :=
  ⟨k.os.trans h.os, k.tape.trans h.tape, k.output.trans h.output, Nat.le_trans h.size k.size, fun i hi hn => (k.block i (Nat.lt_of_lt_of_le hi h.size) hn).trans (h.block i hi hn)⟩
theorem MB.of_below {bm : Nat} {w w' : World} (h : Below w.heap.size w w') : MB bm w w' := ⟨h.os, h.tape, h.output, h.size, fun k hk _ => h.block k hk⟩
theorem MB.of_grown {bm : Nat} {w w' : World} (h : w.grownBy w' (some bm)) : MB bm w w' := ⟨h.os, h.tape, h.output, h.size, fun k hk hn => h.block k hk (fun e => hn (by cases e; rfl))⟩
theorem MB.below {bm B : Nat} {a w w' : World} (h : MB bm w w') (hb : Below B a w) (hB : B ≤ bm) (hs : B ≤ w.heap.size) : Below B a w' :=
  hb.trans ⟨h.os, h.tape, h.output, h.size, fun k hk => h.block k (Nat.lt_of_lt_of_le hk hs) (by omega)⟩
theorem MB.cell {bm : Nat} {w w' : World} {S : List (Nat × Nat)} (h : MB bm w w') (hM : CMap w bm S) {p : Addr} {v : Value} (hc : w.cell? p = some v) : w'.cell? p = some v := by
  have hne : p.block ≠ bm := fun e => by
    obtain ⟨es, clock, hb, _⟩ := hM.at_
    unfold World.cell? at hc
    rw [e, hb] at hc
    simp at hc
  unfold World.cell? at hc ⊢
  rw [h.block _ (World.block_lt_of_cell? w _ hc) hne]
  exact hc
theorem Ints.mb {bm : Nat} {w w' : World} {S : List (Nat × Nat)} {A : Option Addr} {xs : List Int} (hx : Ints w A xs) (h : MB bm w w') (hM : CMap w bm S) : Ints w' A xs := fun j hj =>
  let ⟨b, off, hA, hc⟩ := hx j hj
  ⟨b, off, hA, h.cell hM hc⟩
theorem Rects.mb {bm : Nat} {w w' : World} {S : List (Nat × Nat)} {A : Option Addr} {l : List Rect} (hx : Rects w A l) (h : MB bm w w') (hM : CMap w bm S) : Rects w' A l := fun j hj =>
  let ⟨b, off, hA, hc⟩ := hx j hj
  ⟨b, off, hA, h.cell hM hc.1, h.cell hM hc.2.1, h.cell hM hc.2.2.1, h.cell hM hc.2.2.2⟩
theorem Corners.mb {bm : Nat} {w w' : World} {S : List (Nat × Nat)} {A : Option Addr} {l : List (Nat × Nat)} (hx : Corners w A l) (h : MB bm w w') (hM : CMap w bm S) : Corners w' A l := fun j hj =>
  let ⟨b, off, hA, hc⟩ := hx j hj
  ⟨b, off, hA, h.cell hM hc⟩
/-- what is in the map has been laid there; what was to be laid is there -/
structure Met (r : Rect) (l : List Rect) (bm k : Nat) (S : List (Nat × Nat)) (W : World) : Prop where
  map : CMap W bm S
  sound : ∀ p ∈ S, ∃ a ∈ l, p ∈ cov r l a
  whole : ∀ j, j < k → ∀ p ∈ cov r l (l[j]?.getD default), p ∈ S
theorem small_cov {r a : Rect} {l : List Rect} (hl : l.length ≤ 400) {p : Nat × Nat} (h : p ∈ cov r l a) : smallC p := by
  unfold cov at h
  have h1 := covTo_mem.1 h
  have hx := xsTo_len r l l.length (Nat.le_refl _)
  have hy := ysTo_len r l l.length (Nat.le_refl _)
  unfold xsOf ysOf at h1
  unfold smallC
  omega
theorem mem_at {α : Type} {l : List α} {d : α} {k : Nat} (h : k < l.length) : l[k]?.getD d ∈ l := by
  rw [List.getElem?_eq_getElem h]; exact List.getElem_mem h

/-- two rows of the call's own: where rectangles begin and end -/
structure XY (base : Nat) (W0 : World) (vx vy : Value) (xs ys : List Int) (W : World) : Prop where
  ox : W.ownsRow base 2 1 vx xs.length (xs.map (Value.int .i64))
  oy : W.ownsRow base 2 1 vy ys.length (ys.map (Value.int .i64))
  below : Below base W0 W
  apart : vx.ownBlock ≠ vy.ownBlock
theorem own_keep1 {w w' : World} {base e size n : Nat} {v : Value} {xs : List Value} (h : w.ownsRow base e size v n xs) (hk : ∀ g, v.ownBlock = some g → g < w.heap.size → w'.heap[g]? = w.heap[g]?) : w'.ownsRow base e size v n xs := by
  refine ⟨h.1, ?_⟩
  rcases h.2 with h' | ⟨g, cap, cur, rfl, hb, hg, h1, h2, h3, h4⟩
  · exact .inl h'
  · exact .inr ⟨g, cap, cur, rfl, hb, (hk g rfl (Array.getElem?_eq_some_iff.1 hg).1).trans hg, h1, h2, h3, h4⟩
theorem XY.turn {base : Nat} {W0 W W' : World} {vx vy : Value} {xs ys : List Int} (h : XY base W0 vx vy xs ys W) (hb : Below W.heap.size W W') (hbase : base ≤ W0.heap.size) : XY base W0 vx vy xs ys W' :=
  ⟨own_keep1 h.ox fun g _ hg => hb.block g hg, own_keep1 h.oy fun g _ hg => hb.block g hg, h.below.trans (hb.mono (Nat.le_trans hbase h.below.size)), h.apart⟩
theorem ne_block {base : Nat} {W W' : World} {v v' u : Value} {ys : List Int} (ho : W.ownsRow base 2 1 u ys.length (ys.map (Value.int .i64))) (ha : v.ownBlock ≠ u.ownBlock) (hy : u.ownBlock ≠ none) (hv : v'.ownBlock = v.ownBlock ∨ v'.ownBlock = some W.heap.size) : v'.ownBlock ≠ u.ownBlock := by
  rcases hv with hv | hv
  · rw [hv]; exact ha
  · rw [hv]
    intro e
    have := (own_block1 ho e.symm).2
    omega
theorem own_ne {base n : Nat} {W : World} {u : Value} {ys : List Value} (ho : W.ownsRow base 2 1 u n ys) (h : 0 < n) : u.ownBlock ≠ none := by
  rcases ho.2 with ⟨_, h0⟩ | ⟨g, cap, cur, rfl, _⟩
  · omega
  · simp [Value.ownBlock]
theorem XY.appx {base : Nat} {W0 W W' : World} {vx vy v' : Value} {xs ys : List Int} {a b : Int} (h : XY base W0 vx vy xs ys W) (hbase : base ≤ W0.heap.size) (hy : 0 < ys.length)
    (h1 : W'.ownsRow base 2 1 v' (xs.length + 2) (xs.map (Value.int .i64) ++ [.int .i64 a, .int .i64 b])) (hg : W.grownBy W' vx.ownBlock) (hv : v'.ownBlock = vx.ownBlock ∨ v'.ownBlock = some W.heap.size) : XY base W0 v' vy (xs ++ [a, b]) ys W' :=
  ⟨by simpa using h1, own_keep1 h.oy fun g e hgl => hg.block g hgl (fun e' => h.apart (by rw [← e', e])), h.below.trans (grown_base1 h.ox hg (Nat.le_trans hbase h.below.size)), ne_block (W' := W') h.oy h.apart (own_ne h.oy hy) hv⟩
theorem XY.appy {base : Nat} {W0 W W' : World} {vx vy v' : Value} {xs ys : List Int} {a b : Int} (h : XY base W0 vx vy xs ys W) (hbase : base ≤ W0.heap.size) (hx : 0 < xs.length)
    (h1 : W'.ownsRow base 2 1 v' (ys.length + 2) (ys.map (Value.int .i64) ++ [.int .i64 a, .int .i64 b])) (hg : W.grownBy W' vy.ownBlock) (hv : v'.ownBlock = vy.ownBlock ∨ v'.ownBlock = some W.heap.size) : XY base W0 vx v' xs (ys ++ [a, b]) W' :=
  ⟨own_keep1 h.ox fun g e hgl => hg.block g hgl (fun e' => h.apart (by rw [← e', e])), by simpa using h1, h.below.trans (grown_base1 h.oy hg (Nat.le_trans hbase h.below.size)), fun e => ne_block (W' := W') h.ox (Ne.symm h.apart) (own_ne h.ox hx) hv e.symm⟩
theorem ints_of_row {w : World} {base n : Nat} {v : Value} {l : List Int} (h : w.ownsRow base 2 1 v n (l.map (Value.int .i64))) (hn : n = l.length) : ∃ A c, v = .slice A n c ∧ Ints w A l := by
  have hc := fun g hg => h.cells (g := g) hg
  rcases h.2 with ⟨rfl, h0⟩ | ⟨g, cap, cur, rfl, hb, hg, h4, _⟩
  · subst h0; exact ⟨none, 0, rfl, fun j hj => by omega⟩
  · refine ⟨_, cap, rfl, fun j hj => ⟨g, 0, rfl, ?_⟩⟩
    have := hc g rfl j (.int .i64 (l[j]?.getD 0)) (by simp [List.getElem?_eq_getElem hj])
    rw [addr_add'] at this
    exact this
theorem cell_two_new (w : World) (a b : Int) : ∀ j u, ([.int .i64 a, .int .i64 b] : List Value)[j]? = some u → (w.alloc (.cells #[.int .i64 a, .int .i64 b] 2)).cell? ((⟨w.heap.size, 0, none⟩ : Addr).add j) = some u := by
  intro j u hu
  rw [addr_add', Nat.zero_add]
  unfold World.cell?
  rw [heap_alloc_new]
  have hj : j < 2 := (List.getElem?_eq_some_iff.1 hu).1
  rcases j with _ | _ | j
  · exact hu
  · exact hu
  · omega
theorem cell_two_at (w : World) (a b : Int) (M : Nat) (hM : w.heap.size = M) : ∀ j u, ([.int .i64 a, .int .i64 b] : List Value)[j]? = some u → (w.alloc (.cells #[.int .i64 a, .int .i64 b] 2)).cell? ((⟨M, 0, none⟩ : Addr).add j) = some u := by
  subst hM; exact cell_two_new w a b
theorem info2 : (Try.prog.info? 2).map (fun i => (i.zero, i.size, i.bytes)) = some (some (.int .i64 0), 1, 8) := by kernel_rfl

inductive TilesI (W5 w : World) (r : Rect) (A A3 : Option Addr) (xs l : List Rect) (c c3 bm bs D : Nat) (vv u10 u11 u12 u48 u49 u50 u51 u52 u53 u54 u55 u56 u57 u58 u59 : Value) (done : Nat → Bool) : Act → World → Prop
  | mk {W : World} (v6 v7 v73 v74 v75 v76 v77 v78 : Value) (hX : Hid (Below W5.heap.size W5 W)) (q75 : Hid (done 2 = true → ∃ B, v75 = .slice (some ⟨B, 0, none⟩) 1 1 ∧ W5.heap.size ≤ B ∧ W.heap[B]? = some (.cells #[.int .i64 r.x] 2 (0, 0)))) (q78 : Hid (done 5 = true → ∃ B, v78 = .slice (some ⟨B, 0, none⟩) 1 1 ∧ W5.heap.size ≤ B ∧ W.heap[B]? = some (.cells #[.int .i64 r.y] 2 (0, 0)))) (qd : Hid (done 2 = true → done 5 = true → v75 ≠ v78)) (a6 : Hid (done 6 = true → v6 = v75)) (a7 : Hid (done 7 = true → v7 = v78)) (o6 : Hid (done 6 = true → done 2 = true)) (o7 : Hid (done 7 = true → done 5 = true)) (i0 : Hid (done 0 = true → v73 = .pointer (some ⟨w.heap.size, 0, none⟩))) (i1 : Hid (done 1 = true → v74 = .int .i64 r.x)) (i3 : Hid (done 3 = true → v76 = .pointer (some ⟨w.heap.size, 1, none⟩))) (i4 : Hid (done 4 = true → v77 = .int .i64 r.y)) : TilesI W5 w r A A3 xs l c c3 bm bs D vv u10 u11 u12 u48 u49 u50 u51 u52 u53 u54 u55 u56 u57 u58 u59 done { tmps := #[.agg #[.int .i64 r.x, .int .i64 r.y, .int .i64 r.w, .int .i64 r.h], .slice A3 l.length c3, .pointer (some ⟨w.heap.size, 0, none⟩), undef, .bool false, .int .i64 0, v6, v7, .map (some bm), undef, u10, u11, u12, undef, undef, undef, undef, undef, undef, undef, undef, undef, undef, undef, undef, undef, undef, .agg #[.int .i64 r.x, .int .i64 r.y, .int .i64 r.w, .int .i64 r.h], .bool true, .bool false, .bool false, .slice A xs.length c, .int .i64 xs.length, .bool false, .bool false, .bool false, .slice A xs.length c, .bool true, .bool false, .bool false, .slice A xs.length c, vv, .slice A3 l.length c3, .map (some bm), .slice A3 l.length c3, .int .i64 l.length, .int .i64 l.length, .bool false, u48, u49, u50, u51, u52, u53, u54, u55, u56, u57, u58, u59, .slice A3 l.length c3, .func (.func 44) #[] #[.pointer (some ⟨bs, 0, none⟩)], undef, undef, undef, undef, undef, undef, undef, undef, undef, undef, undef, v73, v74, v75, v76, v77, v78, undef, undef, undef, undef, undef, undef, undef, undef, undef, undef, undef, undef, undef, undef, undef, undef, undef, undef, undef, undef, undef, undef, undef, undef, undef, undef, undef, undef, undef, undef, undef, undef, undef, undef, undef, undef, undef, undef, undef, undef, undef, undef, undef, undef, undef, undef, undef, undef, undef, undef, undef, undef, undef, undef, undef, undef, undef, undef, undef], defers := [{ target := .collected D, args := #[] }] } W

set_option maxRecDepth 100000 in
set_option maxHeartbeats 8000000 in
theorem c19_ok (r : Rect) (A : Option Addr) (xs : List Rect) (c : Nat) (w : World) (hx : Rects w A xs) (hl : xs.length ≤ 400) (hr : right r = true) (hw : wrongs xs = false) :
    Calls Try.prog 19 #[.agg r.arr, .slice A xs.length c] w fun e w' => e = .returned (.tuple #[.bool (decide (Tl r (xs.filter pts))), .int .i64 0]) ∧ Below w.heap.size w w' := by
  have hb0 : Below w.heap.size w (w.alloc (.cells r.arr 23)) := (Below.refl _ w).alloc (Nat.le_refl _) _
  have Hx := Lib.hid (hx.below hb0)
  have C14 := Lib.hid (fun W => c14 r W)
  have C25 := Lib.hid (fun W h => c25 A xs c W h (by omega))
  have C31 := Lib.hid (fun W h => c31 A xs c W h (by omega))
  have D30 := Lib.hid (fun v base W h hb => c30_36 v xs base W h (by omega) hb)
  have HB0 := Lib.hid hb0
  have HR0 := Lib.hid (RRow.new w r)
  have hfl : (xs.filter pts).length ≤ 400 := Nat.le_trans (List.length_filter_le _ _) hl
  have Hr := Lib.hid (fun x (h : x ∈ xs.filter pts) => (wrongs_iff.1 hw) x (List.mem_filter.1 h).1)
  have Hrr := Lib.hid hr
  rw [hr] at C14
  rw [hw] at C25
  clear hx hb0 hr hw
  generalize xs.filter pts = l at *
  generalize hT : decide (Tl r l) = T at *
  have HT := Lib.hid hT
  clear hT
  have Hyes : Hid (Tl r l → T = true) := Lib.hid fun h => by rw [← HT.out]; exact decide_eq_true h
  have Hno : Hid (¬ Tl r l → T = false) := Lib.hid fun h => by rw [← HT.out]; exact decide_eq_false h
  have CM := Lib.hid (fun a W => c12 r a W)
  have CC := Lib.hid (fun (a : Rect) (A B : Option Addr) (xs ys : List Int) (c d : Nat) (W : World) => c38 a A B xs ys c d W)
  clear HT
  refine (callsIn_wide (n := 3)).1 ?_
  refine callsIn_of_wp_marks Try.func19 rfl trivial ?_ rfl
  simp only [Try.ntmps19, List.size_toArray, List.length_cons, List.length_nil, Nat.reduceAdd, Nat.reduceSub, Array.replicate_succ, Array.replicate_zero, List.push_toArray, List.append_toArray, List.nil_append, List.cons_append]
  refine wpIn_wide.2 ?_
  have Harr : Hid (r.arr = #[.int .i64 r.x, .int .i64 r.y, .int .i64 r.w, .int .i64 r.h]) := Lib.hid rfl
  rw [Harr.out] at *
  go_wp2_with (fail)
  refine wp_scope_jumps 0 (fun a W => AtNo w a W ∧ T = false) (fun _ _ => 0) rfl ?first ?pass
  case pass =>
    rintro ⟨tmps, defers⟩ W ⟨⟨hs, hB, hd⟩, hTf⟩
    dsimp only at hs hd
    rcases hd with rfl | ⟨D, hD, rfl, hk⟩
    · go_wp2
      exact ⟨_, results_tmp2 rfl _ _ _, by rw [hTf]; exact frame138 tmps hs, hB⟩
    · go_wp2
      refine ⟨by simp, .inl ⟨_, _, rfl, run_takeDeferred hk, ?_⟩⟩
      exact ⟨_, results_tmp2 rfl _ _ _, by rw [hTf]; exact frame138 tmps hs, hB.trans (belowK_b (w := w) (n₀ := w.heap.size) (Nat.le_refl _) W D _ (.deferred none) hD hk rfl rfl)⟩
  case first =>
    go_wp2_with (fail)
    refine (C14.out _).mono ?_
    rintro e w1 ⟨rfl, hb1⟩
    have HB1 := Lib.hid (HB0.out.trans (hb1.mono HB0.out.size))
    have Hx1 := Lib.hid (Hx.out.below hb1)
    have HR1 := Lib.hid (HR0.out.turn hb1)
    have t4 : decide ((400 : Int) < (xs.length : Int)) = false := decide_eq_false (by omega)
    clear hb1 HB0 Hx HR0 C14
    go_wp2_with (fail)
    refine (C25.out _ Hx1.out).mono ?_
    rintro e w2 ⟨rfl, hb2⟩
    have HB2 := Lib.hid (HB1.out.trans (hb2.mono HB1.out.size))
    have Hx2 := Lib.hid (Hx1.out.below hb2)
    have HR2 := Lib.hid (HR1.out.turn hb2)
    clear hb2 HB1 Hx1 HR1 C25 t4
    go_wp2_with (fail)
    refine (C31.out _ Hx2.out).mono ?_
    rintro e w3 ⟨vv, rfl, hown, hb3⟩
    have HB3 := Lib.hid (HB2.out.trans (hb3.mono HB2.out.size))
    have HR3 := Lib.hid (HR2.out.turn hb3)
    have Hlt2 := Lib.hid HR2.out.lt
    have Hown := Lib.hid hown
    have hsz3 := Lib.hid hb3.size
    clear hb3 hown HB2 Hx2 HR2 C31
    go_wp2_with (fail)
    refine (D30.out vv w2.heap.size w3 Hown.out hsz3.out).mono ?_
    rintro e w4 ⟨A3, c3, rfl, hr4, hb4, hc3⟩
    have HR4 : Hid (RRow w4 w.heap.size r) := Lib.hid ⟨(hb4.block _ Hlt2.out).trans HR3.out.at_⟩
    have HB4 := Lib.hid (HB3.out.trans (hb4.mono (Nat.le_of_lt Hlt2.out)))
    have Hl4 := Lib.hid hr4
    clear hb4 hr4 HB3 HR3 Hlt2 Hown hsz3 D30
    have hmk : ∀ W, (Instr.makeMap 56 none).run Try.prog W = .ok (.map (some W.heap.size)) (W.alloc (.map #[] 0)) := fun W => run_makeMap 56 W
    go_wp2_with (fail)
    clear hmk
    have HM : Hid (CMap (w4.alloc (.map #[] 0)) w4.heap.size []) := Lib.hid ⟨⟨#[], 0, heap_alloc_new w4 _, rfl, fun e he => by simp at he⟩, fun q hq => by simp at hq⟩
    have hb5 : Below w4.heap.size w4 (w4.alloc (.map #[] 0)) := (Below.refl _ w4).alloc (Nat.le_refl _) _
    have HB5 := Lib.hid (HB4.out.trans (hb5.mono HB4.out.size))
    have HR5 := Lib.hid (HR4.out.turn hb5)
    have Hl5 := Lib.hid (Hl4.out.below hb5)
    have Hbm := Lib.hid HB4.out.size
    clear hb5 HB4 HR4 Hl4
    generalize w4.alloc (.map #[] 0) = w5 at *
    generalize w4.heap.size = bm at *
    go_loopw [46] (fun a wr => ∃ k : Nat, k ≤ l.length ∧ a = .int .i64 k ∧ Hid (Below w5.heap.size w5 wr) ∧ Hid (∀ j, j < k → meet r (l[j]?.getD default) = l[j]?.getD default)) (fun a _ => l.length - (intOf a).toNat)
    case atStart => exact ⟨0, Nat.zero_le _, rfl, Below.refl _ _, fun j hj => absurd hj (Nat.not_lt_zero j)⟩
    case round =>
      obtain ⟨k, hk, rfl, HBk, HPk⟩ := hrel
      by_cases hlt : k < l.length
      · obtain ⟨a, b, off, hak, rfl, hca⟩ := (Hl5.out.below HBk.out).get k hlt
        have ti : decide ((k : Int) < (l.length : Int)) = true := decide_eq_true (by omega)
        have HRk := Lib.hid (HR5.out.turn HBk.out)
        have hba : Below wr.heap.size wr (wr.alloc (.cells a.arr 23)) := (Below.refl _ wr).alloc (Nat.le_refl _) _
        have HRa := Lib.hid (HRk.out.turn hba)
        have HNa := Lib.hid (RRow.new wr a)
        have HBa := Lib.hid hba
        have CMa := Lib.hid (CM.out a)
        have Hall : Hid (meet r a = a → ∀ j, j < k + 1 → meet r (l[j]?.getD default) = l[j]?.getD default) := Lib.hid fun h j hj => by
          by_cases e : j = k
          · subst e; rw [hak.out]; exact h
          · exact HPk.out j (by omega)
        have Hfal : Hid (meet r a ≠ a → T = false) := Lib.hid fun h => Hno.out fun ht => h (ht.1 a (by rw [← hak.out, List.getElem?_eq_getElem hlt]; exact List.getElem_mem hlt))
        obtain ⟨x, y, u, v⟩ := a
        obtain ⟨q0, q1, q2, q3⟩ := hca
        generalize hm : meet r ⟨x, y, u, v⟩ = m at *
        have HMm := Lib.hid hm
        clear hba hm
        generalize erM r ⟨x, y, u, v⟩ = er at *
        obtain ⟨i0, i1, i2, i3⟩ := m
        unfold Rect.arr at CMa HRa HNa HBa
        dsimp only at CMa q0 q1 q2 q3 HRa HNa HBa
        have p0 : (wr.alloc (.cells #[.int .i64 x, .int .i64 y, .int .i64 u, .int .i64 v] 23)).cell? ⟨w.heap.size, 0, none⟩ = some (.int .i64 r.x) := HRa.out.cells.1
        have p1 : (wr.alloc (.cells #[.int .i64 x, .int .i64 y, .int .i64 u, .int .i64 v] 23)).cell? ⟨w.heap.size, 1, none⟩ = some (.int .i64 r.y) := HRa.out.cells.2.1
        have p2 : (wr.alloc (.cells #[.int .i64 x, .int .i64 y, .int .i64 u, .int .i64 v] 23)).cell? ⟨w.heap.size, 2, none⟩ = some (.int .i64 r.w) := HRa.out.cells.2.2.1
        have p3 : (wr.alloc (.cells #[.int .i64 x, .int .i64 y, .int .i64 u, .int .i64 v] 23)).cell? ⟨w.heap.size, 3, none⟩ = some (.int .i64 r.h) := HRa.out.cells.2.2.2
        go_wp2_with (fail)
        refine (CMa.out _).mono ?_
        rintro e w7 ⟨rfl, hb7⟩
        have hb8 := HBa.out.trans (hb7.mono HBa.out.size)
        have hb9 : Below w7.heap.size w7 (w7.alloc (.cells (Rect.arr ⟨i0, i1, i2, i3⟩) 23)) := (Below.refl _ w7).alloc (Nat.le_refl _) _
        have HNb := Lib.hid ((HNa.out.turn hb7).turn hb9)
        have HBn := Lib.hid (HBk.out.trans ((hb8.trans (hb9.mono hb8.size)).mono HBk.out.size))
        have HB8 := Lib.hid (HB5.out.trans (HBn.out.mono HB5.out.size))
        unfold Rect.arr at HNb HBn HB8
        dsimp only at HNb HBn HB8
        have n0 : (w7.alloc (.cells #[.int .i64 i0, .int .i64 i1, .int .i64 i2, .int .i64 i3] 23)).cell? ⟨wr.heap.size, 0, none⟩ = some (.int .i64 x) := HNb.out.cells.1
        have n1 : (w7.alloc (.cells #[.int .i64 i0, .int .i64 i1, .int .i64 i2, .int .i64 i3] 23)).cell? ⟨wr.heap.size, 1, none⟩ = some (.int .i64 y) := HNb.out.cells.2.1
        have n2 : (w7.alloc (.cells #[.int .i64 i0, .int .i64 i1, .int .i64 i2, .int .i64 i3] 23)).cell? ⟨wr.heap.size, 2, none⟩ = some (.int .i64 u) := HNb.out.cells.2.2.1
        have n3 : (w7.alloc (.cells #[.int .i64 i0, .int .i64 i1, .int .i64 i2, .int .i64 i3] 23)).cell? ⟨wr.heap.size, 3, none⟩ = some (.int .i64 v) := HNb.out.cells.2.2.2
        clear hb7 hb8 hb9 p0 p1 p2 p3 q0 q1 q2 q3 HNa HRa HBa HRk HBk
        by_cases he : (⟨i0, i1, i2, i3⟩ : Rect) = ⟨x, y, u, v⟩
        · have Hall2 := Lib.hid (Hall.out he)
          cases he
          clear Hall Hfal
          go_wp2_with (fail)
          go_roundw
          case rel => exact ⟨k + 1, by omega, by go_num, HBn, Hall2⟩
          case measure => simp [intOf]; omega
        · have HTf := Lib.hid (Hfal.out he)
          have hne := he
          clear Hall Hfal he
          by_cases k0 : i0 = x
          case neg =>
            have tq : (i0 == x) = false := by rw [beq_eq_false_iff_ne]; exact k0
            have tn : (i0 = x) = False := by simp [k0]
            clear hne k0
            go_wp2_with (fail)
            refine wp_goto ?_
            exact ⟨rfl, ⟨rfl, HB8.out, .inl rfl⟩, HTf.out⟩
          by_cases k1 : i1 = y
          case neg =>
            obtain rfl : i0 = x := k0
            have tq : (i1 == y) = false := by rw [beq_eq_false_iff_ne]; exact k1
            have tn : (i1 = y) = False := by simp [k1]
            clear hne k1
            go_wp2_with (fail)
            refine wp_goto ?_
            exact ⟨rfl, ⟨rfl, HB8.out, .inl rfl⟩, HTf.out⟩
          by_cases k2 : i2 = u
          case neg =>
            obtain rfl : i0 = x := k0
            obtain rfl : i1 = y := k1
            have tq : (i2 == u) = false := by rw [beq_eq_false_iff_ne]; exact k2
            have tn : (i2 = u) = False := by simp [k2]
            clear hne k2
            go_wp2_with (fail)
            refine wp_goto ?_
            exact ⟨rfl, ⟨rfl, HB8.out, .inl rfl⟩, HTf.out⟩
          by_cases k3 : i3 = v
          case neg =>
            obtain rfl : i0 = x := k0
            obtain rfl : i1 = y := k1
            obtain rfl : i2 = u := k2
            have tq : (i3 == v) = false := by rw [beq_eq_false_iff_ne]; exact k3
            have tn : (i3 = v) = False := by simp [k3]
            clear hne k3
            go_wp2_with (fail)
            refine wp_goto ?_
            exact ⟨rfl, ⟨rfl, HB8.out, .inl rfl⟩, HTf.out⟩
          exact absurd (by rw [k0, k1, k2, k3]) hne
      · obtain rfl : k = l.length := by omega
        have ti : decide ((l.length : Int) < (l.length : Int)) = false := decide_eq_false (by omega)
        have HIn : Hid (∀ a ∈ l, meet r a = a) := Lib.hid fun a ha => by
          obtain ⟨j, hj, rfl⟩ := List.getElem_of_mem ha
          have := HPk.out j hj
          rw [List.getElem?_eq_getElem hj] at this
          exact this
        go_wp2_with (fail)
        refine wp_label ?_
        go_wp2_with (fail)
        refine (c37 A3 l.length c3 wr).mono ?_
        rintro e w6 ⟨rfl, rfl⟩
        have hbs := heap_alloc_new wr (.cells #[.slice A3 l.length c3] 30)
        have hbw : Below wr.heap.size wr (wr.alloc (.cells #[.slice A3 l.length c3] 30)) := (Below.refl _ wr).alloc (Nat.le_refl _) _
        have hbk := HBk.out.trans (hbw.mono HBk.out.size)
        have HB6 := Lib.hid (HB5.out.trans (hbk.mono HB5.out.size))
        have HR6 := Lib.hid (HR5.out.turn hbk)
        have Hl6 := Lib.hid (Hl5.out.below hbk)
        have HM6 := Lib.hid (HM.out.turn (hbk.block _ HM.out.lt))
        have Hcs : Hid ((wr.alloc (.cells #[.slice A3 l.length c3] 30)).cell? ⟨wr.heap.size, 0, none⟩ = some (.slice A3 l.length c3)) := Lib.hid (by unfold World.cell?; rw [hbs]; rfl)
        clear hbs hbw hbk HB5 HR5 Hl5 HM HBk HPk
        go_wp2_with (fail)
        generalize wr.alloc (.cells #[.slice A3 l.length c3] 30) = W0 at *
        generalize wr.heap.size = bs at *
        refine wpIn_wide.1 (wpIn_rangeFunc_ownH (F := Fence.wide) (n := 3) rfl (by omega) (gf := 44) (lb := #[.pointer (some ⟨bs, 0, none⟩)]) rfl trivial (enters_of Try.func44 (by kernel_rfl) rfl)
          (encs := encP) (Kp := KC) (S := fun ys => ys = pairTo l l.length) (Sp := fun pre => ∃ i k, i < l.length ∧ k < i ∧ pre = pairTo l i ++ pairRow l i (k + 1)) (N := l.length * l.length) (w0 := W0)
          (fun lp J Jx W hW hJ hJx hY h0 => c44w 2 lp bs A3 l c3 (by omega) hc3 J Jx (by omega) (fun s X Y hs hB => hJ s X Y none hs ⟨hB.os, hB.tape, hB.output, hB.size, fun k hk _ => hB.block k hk⟩ (fun r e => by cases e)) hY W ((hW.cell (p := ⟨bs, 0, none⟩) (World.block_lt_of_cell? _ _ Hcs.out)).trans Hcs.out) (Hl6.out.below hW) h0)
          (fun h k => h.trans k) (fun W l o o' _ h1 h2 _ => KC.putObj W l o o' h1 h2) (Below.refl _ _) (fun _ => rfl)
          (fun pre W => (∀ p ∈ pre, pts (meet p.1 p.2) = false) ∧ Below W0.heap.size W0 W)
          (fun c pre W => c = .goto 0 ∧ (∃ p ∈ pre, pts (meet p.1 p.2) = true) ∧ Below W0.heap.size W0 W)
          (fun s X Y row hs hg hr => ⟨hs.1, below_own hs.2 hg hr⟩) (fun c s X Y row hs hg hr => ⟨hs.1, hs.2.1, below_own hs.2.2 hg hr⟩)
          ⟨fun p hp => by simp at hp, Below.refl _ _⟩
          (fun q a' W => ∃ B1 B2, W0.heap.size ≤ B1 ∧ RRow W B1 q.1 ∧ RRow W B2 q.2 ∧ a' = { tmps := #[.agg #[.int .i64 r.x, .int .i64 r.y, .int .i64 r.w, .int .i64 r.h], .slice A3 l.length c3, .pointer (some ⟨w.heap.size, 0, none⟩), undef, .bool false, .int .i64 0, .slice none 0 0, .slice none 0 0, .map (some bm), undef, u10, u11, u12, .pointer (some ⟨B1, 0, none⟩), .pointer (some ⟨B2, 0, none⟩), undef, undef, undef, undef, undef, undef, undef, undef, undef, undef, undef, undef, .agg #[.int .i64 r.x, .int .i64 r.y, .int .i64 r.w, .int .i64 r.h], .bool true, .bool false, .bool false, .slice A xs.length c, .int .i64 xs.length, .bool false, .bool false, .bool false, .slice A xs.length c, .bool true, .bool false, .bool false, .slice A xs.length c, vv, .slice A3 l.length c3, .map (some bm), .slice A3 l.length c3, .int .i64 l.length, .int .i64 l.length, .bool false, u48, u49, u50, u51, u52, u53, u54, u55, u56, u57, u58, u59, .slice A3 l.length c3, .func (.func 44) #[] #[.pointer (some ⟨bs, 0, none⟩)], .agg q.1.arr, .agg q.2.arr, undef, undef, undef, undef, undef, undef, undef, undef, undef, undef, undef, undef, undef, undef, undef, undef, undef, undef, undef, undef, undef, undef, undef, undef, undef, undef, undef, undef, undef, undef, undef, undef, undef, undef, undef, undef, undef, undef, undef, undef, undef, undef, undef, undef, undef, undef, undef, undef, undef, undef, undef, undef, undef, undef, undef, undef, undef, undef, undef, undef, undef, undef, undef, undef, undef, undef, undef, undef, undef, undef, undef, undef, undef, undef], defers := [] })
          ?hAx ?assign ?body ?done2 ?stop)
        case hAx =>
          rintro q a' _ X Y row ⟨B1, B2, h1, h2, h3, h5⟩ hg hrow
          have key : ∀ {B : Nat} {r : Rect}, RRow X B r → RRow Y B r := fun h => ⟨(hg.block _ h.lt (fun e' => by
            obtain ⟨_, o, ho, hc⟩ := hrow _ e'.symm
            rw [h.at_] at ho; cases ho; cases hc)).trans h.at_⟩
          exact ⟨B1, B2, h1, key h2, key h3, h5⟩
        case assign =>
          rintro lp pre ⟨qa, qb⟩ W K ⟨i1, i2⟩ hK
          have HK := Lib.hid hK
          have I1 := Lib.hid i1
          have I2 := Lib.hid i2
          clear hK i1 i2
          unfold encP at *
          dsimp only at HK ⊢
          have hb1 : Below W.heap.size W (W.alloc (.cells qa.arr 23)) := (Below.refl _ W).alloc (Nat.le_refl _) _
          have hb2 : Below (W.alloc (.cells qa.arr 23)).heap.size (W.alloc (.cells qa.arr 23)) ((W.alloc (.cells qa.arr 23)).alloc (.cells qb.arr 23)) := (Below.refl _ _).alloc (Nat.le_refl _) _
          have hn1 := (RRow.new W qa).turn hb2
          have hn2 : RRow ((W.alloc (.cells qa.arr 23)).alloc (.cells qb.arr 23)) (W.heap.size + 1) qb := by have h := RRow.new (W.alloc (.cells qa.arr 23)) qb; rw [World.size_alloc] at h; exact h
          have hbb := hb1.trans (hb2.mono hb1.size)
          have Hn1 := Lib.hid hn1
          have Hn2 := Lib.hid hn2
          have Hbb := Lib.hid hbb
          obtain ⟨x, y, u, v⟩ := qa
          obtain ⟨x', y', u', v'⟩ := qb
          unfold Rect.arr at HK Hn1 Hn2 Hbb ⊢
          dsimp only at HK Hn1 Hn2 Hbb ⊢
          clear hb1 hb2 hn1 hn2 hbb
          gi_wp2
          refine HK.out _ _ ((keepsOthers_below Hbb.out).from _) (KC.of_below Hbb.out) ⟨I1.out, I2.out.trans (Hbb.out.mono I2.out.size)⟩ ⟨_, _, I2.out.size, Hn1.out, Hn2.out, rfl⟩
        case body =>
          rintro lp pre ⟨qa, qb⟩ a' W hl' hrr ⟨i1, i2⟩ ⟨B1, B2, hB1, hr1, hr2, rfl⟩ hlt2
          have CP := Lib.hid (fun W => c12 qa qb W)
          have HI : Hid (pts (meet qa qb) = false → ∀ p ∈ pre ++ [(qa, qb)], pts (meet p.1 p.2) = false) := Lib.hid fun h p hp => by
            rcases List.mem_append.1 hp with hp | hp
            · exact i1 p hp
            · rw [List.mem_singleton.1 hp]; exact h
          have HX : Hid (pts (meet qa qb) = true → ∃ p ∈ pre ++ [(qa, qb)], pts (meet p.1 p.2) = true) := Lib.hid fun h => ⟨(qa, qb), by simp, h⟩
          generalize meet qa qb = m at *
          generalize erM qa qb = er at *
          have C33 := Lib.hid (fun W => c33 m W)
          generalize pts m = pm at *
          have Hr1 := Lib.hid hr1
          have Hr2 := Lib.hid hr2
          have I2 := Lib.hid i2
          obtain ⟨x, y, u, v⟩ := qa
          obtain ⟨x', y', u', v'⟩ := qb
          obtain ⟨i0, j0, k0, l0⟩ := m
          unfold Rect.arr at CP C33 ⊢
          dsimp only at CP C33 ⊢
          have p0 : W.cell? ⟨B1, 0, none⟩ = some (.int .i64 x) := Hr1.out.cells.1
          have p1 : W.cell? ⟨B1, 1, none⟩ = some (.int .i64 y) := Hr1.out.cells.2.1
          have p2 : W.cell? ⟨B1, 2, none⟩ = some (.int .i64 u) := Hr1.out.cells.2.2.1
          have p3 : W.cell? ⟨B1, 3, none⟩ = some (.int .i64 v) := Hr1.out.cells.2.2.2
          have q0 : W.cell? ⟨B2, 0, none⟩ = some (.int .i64 x') := Hr2.out.cells.1
          have q1 : W.cell? ⟨B2, 1, none⟩ = some (.int .i64 y') := Hr2.out.cells.2.1
          have q2 : W.cell? ⟨B2, 2, none⟩ = some (.int .i64 u') := Hr2.out.cells.2.2.1
          have q3 : W.cell? ⟨B2, 3, none⟩ = some (.int .i64 v') := Hr2.out.cells.2.2.2
          clear hr1 hr2 i1 i2 hrr
          gi_wp2_with (fail)
          refine ⟨trivial, ((callsIn_wide.2 (CP.out _)).inRound lp).mono ?_⟩
          rintro e w7 ⟨rfl, hb7⟩
          have hb8 : Below w7.heap.size w7 (w7.alloc (.cells #[.int .i64 i0, .int .i64 j0, .int .i64 k0, .int .i64 l0] 23)) := (Below.refl _ w7).alloc (Nat.le_refl _) _
          have Hb9 := Lib.hid (hb7.trans (hb8.mono hb7.size))
          clear hb7 hb8 p0 p1 p2 p3 q0 q1 q2 q3 Hr1 Hr2 CP
          gi_wp2_with (fail)
          refine ⟨trivial, ((callsIn_wide.2 (C33.out _)).inRound lp).mono ?_⟩
          rintro e w8 ⟨rfl, hb8⟩
          have Hb10 := Lib.hid (Hb9.out.trans (hb8.mono Hb9.out.size))
          clear hb8 Hb9 C33
          cases pm with
          | false =>
            have HI2 := Lib.hid (HI.out rfl)
            clear HI HX
            gi_wp2_with (fail)
            exact ⟨(keepsOthers_below Hb10.out).from _, KC.of_below Hb10.out, HI2.out, I2.out.trans (Hb10.out.mono I2.out.size)⟩
          | true =>
            have HX2 := Lib.hid (HX.out rfl)
            clear HI HX
            gi_wp2_with (fail)
            refine wpIn_goto ?_
            exact ⟨(keepsOthers_below Hb10.out).from _, rfl, HX2.out, I2.out.trans (Hb10.out.mono I2.out.size)⟩
        case stop =>
          rintro D cc pre W hD ⟨i, k, hi, hk, hpre⟩ ⟨rfl, ⟨p, hp, hpt⟩, hB⟩ hdef
          refine wpIn_wide.2 (wp_goto ?_)
          refine ⟨rfl, ⟨rfl, HB6.out.trans (hB.mono HB6.out.size), .inr ⟨D, Nat.le_trans HB6.out.size hD, rfl, hdef⟩⟩, Hno.out fun ht => ?_⟩
          have hm : p ∈ pairTo l l.length := by
            rw [hpre, List.mem_append, pairTo_mem, pairRow_mem] at hp
            rw [pairTo_mem]
            rcases hp with ⟨i', q, h1, h2, h3⟩ | ⟨q, h1, h2⟩
            · exact ⟨i', q, h1, by omega, h3⟩
            · exact ⟨i, q, by omega, hi, h2⟩
          rw [ht.2.1 p hm] at hpt
          cases hpt
        case done2 =>
          rintro D ys W hD rfl ⟨hI, hB⟩ hdef
          have HIp := Lib.hid hI
          have HBW := Lib.hid (HB6.out.trans (hB.mono HB6.out.size))
          have HRW := Lib.hid (HR6.out.turn hB)
          have HlW := Lib.hid (Hl6.out.below hB)
          have HMW := Lib.hid (HM6.out.turn (hB.block _ HM6.out.lt))
          have Hdef := Lib.hid hdef
          have HbD : Hid (w.heap.size ≤ D) := Lib.hid (Nat.le_trans HB6.out.size hD)
          clear hI hB hdef HB6 HR6 Hl6 HM6 Hcs
          have p0 : W.cell? ⟨w.heap.size, 0, none⟩ = some (.int .i64 r.x) := HRW.out.cells.1
          have p1 : W.cell? ⟨w.heap.size, 1, none⟩ = some (.int .i64 r.y) := HRW.out.cells.2.1
          have p2 : W.cell? ⟨w.heap.size, 2, none⟩ = some (.int .i64 r.w) := HRW.out.cells.2.2.1
          have p3 : W.cell? ⟨w.heap.size, 3, none⟩ = some (.int .i64 r.h) := HRW.out.cells.2.2.2
          have P0 := Lib.hid p0
          have P1 := Lib.hid p1
          clear p0 p1 p2 p3
          go_wp2_with (fail)
          refine wp_region_done2 (by kernel_rfl) (by kernel_rfl) (TilesI W w r A A3 xs l c c3 bm bs D vv u10 u11 u12 u48 u49 u50 u51 u52 u53 u54 u55 u56 u57 u58 u59) ?_ ?_ ?_
          · exact ⟨_, _, _, _, _, _, _, _, Lib.hid ((Below.refl _ W).drew), Lib.hid fun h => by simp at h, Lib.hid fun h => by simp at h, Lib.hid fun h => by simp at h, Lib.hid fun h => by simp at h, Lib.hid fun h => by simp at h, Lib.hid fun h => by simp at h, Lib.hid fun h => by simp at h, Lib.hid fun h => by simp at h, Lib.hid fun h => by simp at h, Lib.hid fun h => by simp at h, Lib.hid fun h => by simp at h⟩
          · rintro done i o a X ho hd he ⟨v6, v7, v73, v74, v75, v76, v77, v78, hX, q75, q78, qd, a6, a7, o6, o7, i0, i1, i3, i4⟩ K hK
            have Hd := Lib.hid he
            clear he
            rcases i with _ | _ | _ | _ | _ | _ | _ | _ | i
            rotate_left 8
            · exact absurd (Array.getElem?_eq_some_iff.1 ho).1 (by simp)
            · obtain rfl := Option.some.inj ho
              refine wpOp_plain ho rfl ?_
              clear ho hd
              go_wp2
              exact ⟨_, _, _, _, _, _, _, _, hX, q75, q78, qd, a6, a7, o6, o7, Lib.hid fun _ => rfl, Lib.hid fun h => i1.out h, Lib.hid fun h => i3.out h, Lib.hid fun h => i4.out h⟩
            · obtain rfl := Option.some.inj ho
              obtain rfl := i0.out (Hd.out ⟨0, .data⟩ (by simp) rfl)
              have z := (hX.out.cell (p := ⟨w.heap.size, 0, none⟩) (World.block_lt_of_cell? _ _ P0.out)).trans P0.out
              refine wpOp_plain ho rfl ?_
              clear ho hd
              go_wp2
              exact ⟨_, _, _, _, _, _, _, _, hX, q75, q78, qd, a6, a7, o6, o7, Lib.hid fun _ => rfl, Lib.hid fun _ => rfl, Lib.hid fun h => i3.out h, Lib.hid fun h => i4.out h⟩
            · obtain rfl := Option.some.inj ho
              obtain rfl := i1.out (Hd.out ⟨1, .data⟩ (by simp) rfl)
              have Hd0 := Lib.hid hd
              refine wpOp_plain ho rfl ?_
              clear ho hd
              go_wp2
              exact ⟨_, _, _, _, _, _, _, _, Lib.hid (hX.out.alloc hX.out.size _), Lib.hid fun _ => ⟨_, rfl, hX.out.size, heap_alloc_new _ _⟩, Lib.hid fun h => (by obtain ⟨B, e1, e2, e3⟩ := q78.out h; exact ⟨B, e1, e2, (Below.heap_alloc _ _ _ (Array.getElem?_eq_some_iff.1 e3).1).trans e3⟩), Lib.hid fun _ h => (by obtain ⟨B, e1, e2, e3⟩ := q78.out h; rw [e1]; have := (Array.getElem?_eq_some_iff.1 e3).1; intro e; simp only [Value.slice.injEq, Option.some.injEq, Addr.mk.injEq] at e; omega), Lib.hid fun h => absurd (o6.out h) (by rw [Hd0.out]; simp), a7, Lib.hid fun h => (by show (_ || _) = true; simp), o7, Lib.hid fun h => i0.out h, Lib.hid fun _ => rfl, Lib.hid fun h => i3.out h, Lib.hid fun h => i4.out h⟩
            · obtain rfl := Option.some.inj ho
              refine wpOp_plain ho rfl ?_
              clear ho hd
              go_wp2
              exact ⟨_, _, _, _, _, _, _, _, hX, q75, q78, qd, a6, a7, o6, o7, Lib.hid fun h => i0.out h, Lib.hid fun h => i1.out h, Lib.hid fun _ => rfl, Lib.hid fun h => i4.out h⟩
            · obtain rfl := Option.some.inj ho
              obtain rfl := i3.out (Hd.out ⟨3, .data⟩ (by simp) rfl)
              have z := (hX.out.cell (p := ⟨w.heap.size, 1, none⟩) (World.block_lt_of_cell? _ _ P1.out)).trans P1.out
              refine wpOp_plain ho rfl ?_
              clear ho hd
              go_wp2
              exact ⟨_, _, _, _, _, _, _, _, hX, q75, q78, qd, a6, a7, o6, o7, Lib.hid fun h => i0.out h, Lib.hid fun h => i1.out h, Lib.hid fun _ => rfl, Lib.hid fun _ => rfl⟩
            · obtain rfl := Option.some.inj ho
              obtain rfl := i4.out (Hd.out ⟨4, .data⟩ (by simp) rfl)
              have Hd0 := Lib.hid hd
              refine wpOp_plain ho rfl ?_
              clear ho hd
              go_wp2
              exact ⟨_, _, _, _, _, _, _, _, Lib.hid (hX.out.alloc hX.out.size _), Lib.hid fun h => (by obtain ⟨B, e1, e2, e3⟩ := q75.out h; exact ⟨B, e1, e2, (Below.heap_alloc _ _ _ (Array.getElem?_eq_some_iff.1 e3).1).trans e3⟩), Lib.hid fun _ => ⟨_, rfl, hX.out.size, heap_alloc_new _ _⟩, Lib.hid fun h _ => (by obtain ⟨B, e1, e2, e3⟩ := q75.out h; rw [e1]; have := (Array.getElem?_eq_some_iff.1 e3).1; intro e; simp only [Value.slice.injEq, Option.some.injEq, Addr.mk.injEq] at e; omega), a6, Lib.hid fun h => absurd (o7.out h) (by rw [Hd0.out]; simp), o6, Lib.hid fun h => (by show (_ || _) = true; simp), Lib.hid fun h => i0.out h, Lib.hid fun h => i1.out h, Lib.hid fun h => i3.out h, Lib.hid fun _ => rfl⟩
            · obtain rfl := Option.some.inj ho
              have h2 := Lib.hid (Hd.out ⟨2, .data⟩ (by simp) rfl)
              refine wpOp_plain ho rfl ?_
              clear ho hd
              go_wp2
              exact ⟨_, _, _, _, _, _, _, _, hX, q75, q78, qd, Lib.hid fun _ => rfl, a7, Lib.hid fun _ => h2.out, o7, Lib.hid fun h => i0.out h, Lib.hid fun h => i1.out h, Lib.hid fun h => i3.out h, Lib.hid fun h => i4.out h⟩
            · obtain rfl := Option.some.inj ho
              have h5 := Lib.hid (Hd.out ⟨5, .data⟩ (by simp) rfl)
              refine wpOp_plain ho rfl ?_
              clear ho hd
              go_wp2
              exact ⟨_, _, _, _, _, _, _, _, hX, q75, q78, qd, a6, Lib.hid fun _ => rfl, o6, Lib.hid fun _ => h5.out, Lib.hid fun h => i0.out h, Lib.hid fun h => i1.out h, Lib.hid fun h => i3.out h, Lib.hid fun h => i4.out h⟩
          · rintro done a X hall ⟨v6, v7, v73, v74, v75, v76, v77, v78, hX, q75, q78, qd, a6, a7, o6, o7, i0, i1, i3, i4⟩
            obtain rfl := i0.out (hall 0 (by simp))
            obtain rfl := i1.out (hall 1 (by simp))
            obtain rfl := i3.out (hall 3 (by simp))
            obtain rfl := i4.out (hall 4 (by simp))
            clear i0 i1 i3 i4
            obtain ⟨Bx, rfl, gx1, gx2⟩ := q75.out (hall 2 (by simp))
            obtain ⟨By, rfl, gy1, gy2⟩ := q78.out (hall 5 (by simp))
            obtain rfl := a6.out (hall 6 (by simp))
            obtain rfl := a7.out (hall 7 (by simp))
            have hne : Bx ≠ By := fun e => qd.out (hall 2 (by simp)) (hall 5 (by simp)) (by rw [e])
            have HXY : Hid (XY W.heap.size W (.slice (some ⟨Bx, 0, none⟩) 1 1) (.slice (some ⟨By, 0, none⟩) 1 1) (xsTo r l 0) (ysTo r l 0) X) := Lib.hid
              ⟨⟨rfl, .inr ⟨Bx, 1, _, rfl, gx1, gx2, Nat.le_refl _, by unfold maxLen; omega, rfl, rfl⟩⟩, ⟨rfl, .inr ⟨By, 1, _, rfl, gy1, gy2, Nat.le_refl _, by unfold maxLen; omega, rfl, rfl⟩⟩, hX.out, by simp [Value.ownBlock]; exact hne⟩
            clear q75 q78 qd a6 a7 o6 o7 hX hall gx1 gx2 gy1 gy2 hne P0 P1
            obtain ⟨j0, hj, hj0, hj1, hj2⟩ := info_parts info2
            dsimp only
            go_wp2_with (fail)
            go_loopw [6, 7, 81] (fun vx vy a wr => ∃ k : Nat, k ≤ l.length ∧ a = .int .i64 k ∧ Hid (XY W.heap.size W vx vy (xsTo r l k) (ysTo r l k) wr)) (fun _ _ a _ => l.length - (intOf a).toNat)
            case atStart => exact ⟨0, Nat.zero_le _, rfl, HXY⟩
            case round =>
              obtain ⟨k, hk, rfl, HXk⟩ := hrel
              by_cases hlt : k < l.length
              · obtain ⟨a, b, off, hak, hA3, hca⟩ := (HlW.out.below HXk.out.below).get k hlt
                cases hA3
                have ti : decide ((k : Int) < (l.length : Int)) = true := decide_eq_true (by omega)
                have hra := right_at Hr.out hlt
                rw [hak.out] at hra
                have hbd := right_iff.1 hra
                have Hxn : Hid (xsTo r l (k + 1) = xsTo r l k ++ [a.x, a.x + a.w]) := Lib.hid (by rw [xsTo_succ r hlt, hak.out])
                have Hyn : Hid (ysTo r l (k + 1) = ysTo r l k ++ [a.y, a.y + a.h]) := Lib.hid (by rw [ysTo_succ r hlt, hak.out])
                have lx := xsTo_len r l k hk
                have ly := ysTo_len r l k hk
                have hba : Below wr.heap.size wr (wr.alloc (.cells a.arr 23)) := (Below.refl _ wr).alloc (Nat.le_refl _) _
                have HX1 := Lib.hid (HXk.out.turn hba (Nat.le_refl _))
                obtain ⟨x, y, u, v⟩ := a
                dsimp only at hbd Hxn Hyn
                have C26 := Lib.hid (fun W => c26 ⟨x, y, u, v⟩ W (IntWalk.i64_in _ (by dsimp only; omega)) (IntWalk.i64_in _ (by dsimp only; omega)))
                obtain ⟨q0, q1, q2, q3⟩ := hca
                unfold Rect.arr at C26 HX1
                dsimp only at C26 q0 q1 q2 q3 HX1
                clear hba hbd hra hak
                go_wp2_with (fail)
                refine (C26.out _).mono ?_
                rintro e w8 ⟨rfl, hb8⟩
                have hw8 := two_rows w8 (.int .i64 x) (.int .i64 (x + u)) (.int .i64 y) (.int .i64 (y + v))
                have HX2 := Lib.hid ((HX1.out.turn hb8 (Nat.le_refl _)).turn hw8.2.2 (Nat.le_refl _))
                have S0 := Lib.hid hw8.1
                have Hvb := Lib.hid (fun g (e : Value.ownBlock u6 = some g) => (own_block1 HXk.out.ox e).2)
                have Hsz8 : Hid (wr.heap.size ≤ w8.heap.size) := Lib.hid (Nat.le_trans (by simp) hb8.size)
                have S1 := Lib.hid hw8.2.1
                clear hb8 hw8 q0 q1 q2 q3 C26 HX1 HXk
                have m0 : ((w8.alloc (.cells #[.int .i64 x, .int .i64 (x + u)] 49)).alloc (.cells #[.int .i64 y, .int .i64 (y + v)] 49)).cell? ⟨w8.heap.size, 0, none⟩ = some (.int .i64 x) := by unfold World.cell?; rw [S0.out]; rfl
                have m1 : ((w8.alloc (.cells #[.int .i64 x, .int .i64 (x + u)] 49)).alloc (.cells #[.int .i64 y, .int .i64 (y + v)] 49)).cell? ⟨w8.heap.size, 1, none⟩ = some (.int .i64 (x + u)) := by unfold World.cell?; rw [S0.out]; rfl
                have hvb2 : ∀ g, u6.ownBlock = some g → g ≠ w8.heap.size + 1 := fun g e => by have := Hvb.out g e; have := Hsz8.out; omega
                have hs9 := (Array.getElem?_eq_some_iff.1 S1.out).1
                go_wp2_with (at_builtin; first
                  | (refine wpList_append_own_at _ rfl _ _ 38 rfl W.heap.size 2 j0 _ 1 8 Try.underlying38 hj hj0 hj1 hj2 rfl (by decide) _ _ _ rfl (HX2.out.ox.alloc _) ⟨w8.heap.size + 1 + 1, 0, none⟩ 2 2 [.int .i64 x, .int .i64 (x + u)] rfl rfl (cell_two_at _ _ _ _ (by simp)) (by intro e he; simp only [List.mem_cons, List.not_mem_nil, or_false] at he; rcases he with rfl | rfl <;> rfl) (by rw [lx]; unfold maxLen; omega) (by rw [lx]; omega) (by have := HX2.out.below.size; simp at this ⊢; omega) ?_; intro v1 W1 hown1 hg1 _ hv1; have HX3 := Lib.hid ((HX2.out.turn ((Below.refl _ ((w8.alloc (.cells #[.int .i64 x, .int .i64 (x + u)] 49)).alloc (.cells #[.int .i64 y, .int .i64 (y + v)] 49))).alloc (Nat.le_refl _) _) (Nat.le_refl _)).appx (Nat.le_refl _) (by omega) hown1 hg1 hv1); have e9 := (hg1.block (w8.heap.size + 1) (by simp only [World.size_alloc]; omega) (fun e => hvb2 _ e.symm rfl)).trans ((Below.heap_alloc ((w8.alloc (.cells #[.int .i64 x, .int .i64 (x + u)] 49)).alloc (.cells #[.int .i64 y, .int .i64 (y + v)] 49)) _ _ hs9).trans S1.out); have m2 : W1.cell? ⟨w8.heap.size + 1, 0, none⟩ = some (.int .i64 y) := (by unfold World.cell?; rw [e9]; rfl); have m3 : W1.cell? ⟨w8.heap.size + 1, 1, none⟩ = some (.int .i64 (y + v)) := (by unfold World.cell?; rw [e9]; rfl); clear hown1 hg1 hv1 e9)
                  | (refine wpList_append_own_at _ rfl _ _ 38 rfl W.heap.size 2 j0 _ 1 8 Try.underlying38 hj hj0 hj1 hj2 rfl (by decide) _ _ _ rfl (HX3.out.oy.alloc _) ⟨W1.heap.size, 0, none⟩ 2 2 [.int .i64 y, .int .i64 (y + v)] rfl rfl (cell_two_at _ _ _ _ (by simp)) (by intro e he; simp only [List.mem_cons, List.not_mem_nil, or_false] at he; rcases he with rfl | rfl <;> rfl) (by rw [ly]; unfold maxLen; omega) (by rw [ly]; omega) (by have := HX3.out.below.size; simp at this ⊢; omega) ?_; intro v2 W2 hown2 hg2 _ hv2; have HX4 := Lib.hid ((HX3.out.turn ((Below.refl _ W1).alloc (Nat.le_refl _) _) (Nat.le_refl _)).appy (Nat.le_refl _) (by rw [List.length_append]; omega) hown2 hg2 hv2); clear hown2 hg2 hv2))
                go_roundw
                case rel => exact ⟨k + 1, by omega, by go_num, by rw [Hxn.out, Hyn.out]; exact HX4⟩
                case measure => simp [intOf]; omega
              · obtain rfl : k = l.length := by omega
                have ti : decide ((l.length : Int) < (l.length : Int)) = false := decide_eq_false (by omega)
                obtain ⟨A6, c6, rfl, hi6⟩ := ints_of_row HXk.out.ox rfl
                obtain ⟨A7, c7, rfl, hi7⟩ := ints_of_row HXk.out.oy rfl
                have lx := xsTo_len r l l.length (Nat.le_refl _)
                have ly := ysTo_len r l l.length (Nat.le_refl _)
                have Hi6 := Lib.hid hi6
                have Hi7 := Lib.hid hi7
                have HBk := Lib.hid (HBW.out.trans (HXk.out.below.mono HBW.out.size))
                have HRk := Lib.hid (HRW.out.turn HXk.out.below)
                have Hlk := Lib.hid (HlW.out.below HXk.out.below)
                have HMk : Hid (Met r l bm 0 [] wr) := Lib.hid ⟨HMW.out.turn (HXk.out.below.block _ HMW.out.lt), fun p hp => by simp at hp, fun j hj => absurd hj (Nat.not_lt_zero j)⟩
                have hDl := (Array.getElem?_eq_some_iff.1 Hdef.out).1
                have Hdk := Lib.hid ((HXk.out.below.block _ hDl).trans Hdef.out)
                have hDl2 : D < wr.heap.size := Nat.lt_of_lt_of_le hDl HXk.out.below.size
                have hDb : D ≠ bm := fun e => by
                  obtain ⟨es, clock, hb, _⟩ := HMk.out.map.at_
                  have h := Hdk.out
                  rw [e, hb] at h
                  cases h
                have Hcov : Hid (∀ a, cov r l a = covTo a (xsTo r l l.length) (ysTo r l l.length) (xsTo r l l.length).length) := Lib.hid fun a => rfl
                have CCa := Lib.hid (fun (a : Rect) (ha : right a = true) (W : World) (h1 : Ints W A6 (xsTo r l l.length)) (h2 : Ints W A7 (ysTo r l l.length)) => CC.out a A6 A7 (xsTo r l l.length) (ysTo r l l.length) c6 c7 W ha h1 h2 (by omega) (by omega))
                have Hlx := Lib.hid lx
                have Hly := Lib.hid ly
                clear lx ly hi6 hi7 HXk HXY HBW HRW HlW HMW Hdef hDl CC
                generalize xsTo r l l.length = xl at *
                generalize ysTo r l l.length = yl at *
                obtain ⟨wb, hwb⟩ : ∃ wb, wb = wr := ⟨_, rfl⟩
                subst hwb
                go_wp2_with (fail)
                go_loopw [107] (fun a w9 => ∃ k : Nat, k ≤ l.length ∧ a = .int .i64 k ∧ Hid (MB bm wb w9) ∧ ∃ S, Hid (Met r l bm k S w9)) (fun a _ => l.length - (intOf a).toNat)
                case atStart => exact ⟨0, Nat.zero_le _, rfl, Lib.hid (MB.refl _ _), [], HMk⟩
                case round =>
                  obtain ⟨k, hk, rfl, HBm, S, HMt⟩ := hrel
                  by_cases hlt : k < l.length
                  · have ti : decide ((k : Int) < (l.length : Int)) = true := decide_eq_true (by omega)
                    obtain ⟨a, b, off, hak, hA3, hca⟩ := (Hlk.out.mb HBm.out HMk.out.map).get k hlt
                    cases hA3
                    have hra := right_at Hr.out hlt
                    have hma : a ∈ l := by rw [← hak.out]; exact mem_at hlt
                    rw [hak.out] at hra
                    have hba : Below wr.heap.size wr (wr.alloc (.cells a.arr 23)) := (Below.refl _ wr).alloc (Nat.le_refl _) _
                    have HBm1 := Lib.hid (HBm.out.trans (MB.of_below hba))
                    have HMt1 : Hid (Met r l bm k S (wr.alloc (.cells a.arr 23))) := Lib.hid ⟨HMt.out.map.turn (hba.block _ HMt.out.map.lt), HMt.out.sound, HMt.out.whole⟩
                    have CC1 := Lib.hid (CCa.out a hra _ (Hi6.out.mb HBm1.out HMk.out.map) (Hi7.out.mb HBm1.out HMk.out.map))
                    rw [← Hcov.out a] at CC1
                    have Hmem := Lib.hid (fun p (h : p ∈ cov r l a) => (⟨a, hma, h⟩ : ∃ a ∈ l, p ∈ cov r l a))
                    have Hwh : Hid (∀ (S' : List (Nat × Nat)), (∀ j, j < k → ∀ p ∈ cov r l (l[j]?.getD default), p ∈ S') → (∀ p ∈ cov r l a, p ∈ S') → ∀ j, j < k + 1 → ∀ p ∈ cov r l (l[j]?.getD default), p ∈ S') := Lib.hid fun S' h1 h2 j hj => by
                      by_cases e : j = k
                      · subst e; rw [hak.out]; exact h2
                      · exact h1 j (by omega)
                    have Hsm := Lib.hid (fun p (h : p ∈ cov r l a) => small_cov (r := r) hfl h)
                    have hcl : (cov r l a).length ≤ 1000000 := by
                      have h1 := covTo_len a xl yl xl.length
                      have lx := Hlx.out
                      have ly := Hly.out
                      have h2 : xl.length * yl.length ≤ 1000 * 1000 := Nat.mul_le_mul (by omega) (by omega)
                      rw [Hcov.out a]; omega
                    generalize cov r l a = cl at *
                    obtain ⟨x, y, u, v⟩ := a
                    obtain ⟨q0, q1, q2, q3⟩ := hca
                    unfold Rect.arr at CC1 HMt1 HBm1
                    dsimp only at CC1 q0 q1 q2 q3 HMt1 HBm1
                    clear hba hra hma hak HMt HBm
                    go_wp2_with (fail)
                    refine CC1.out.mono ?_
                    rintro e w10 ⟨A8, c8, rfl, hco, hb10⟩
                    have Hco := Lib.hid hco
                    have HBm2 := Lib.hid (HBm1.out.trans (MB.of_below hb10))
                    have HMt2 : Hid (Met r l bm k S w10) := Lib.hid ⟨HMt1.out.map.turn (hb10.block _ HMt1.out.map.lt), HMt1.out.sound, HMt1.out.whole⟩
                    clear hco hb10 q0 q1 q2 q3 HBm1 HMt1 CC1
                    go_wp2_with (fail)
                    go_loopw [116] (fun a w11 => ∃ q : Nat, q ≤ cl.length ∧ a = .int .i64 q ∧ Hid (MB bm w10 w11) ∧ ∃ S, Hid (Met r l bm k S w11) ∧ Hid (∀ p ∈ cl.take q, p ∈ S)) (fun a _ => cl.length - (intOf a).toNat)
                    case atStart => exact ⟨0, Nat.zero_le _, rfl, Lib.hid (MB.refl _ _), S, HMt2, Lib.hid (fun p hp => by simp at hp)⟩
                    case round =>
                      obtain ⟨q, hq, rfl, HB11, S2, HM11, HT11⟩ := hrel
                      by_cases hlq : q < cl.length
                      · have tq : decide ((q : Int) < (cl.length : Int)) = true := decide_eq_true (by omega)
                        obtain ⟨b8, o8, hA8, hc8⟩ := (Hco.out.mb HB11.out HMt2.out.map) q hlq
                        cases hA8
                        have hpm : cl[q]?.getD (0, 0) ∈ cl := mem_at hlq
                        have hps := Hsm.out _ hpm
                        have hpo := Hmem.out _ hpm
                        have htk : cl.take (q + 1) = cl.take q ++ [cl[q]?.getD (0, 0)] := by rw [List.take_add_one, List.getElem?_eq_getElem hlq]; rfl
                        have Htk := Lib.hid htk
                        generalize cl[q]?.getD (0, 0) = pc at *
                        obtain ⟨W12, hup, hm12, hg12⟩ := HM11.out.map.update pc hps
                        have HM12 : Hid (Met r l bm k (if pc ∈ S2 then S2 else S2 ++ [pc]) W12) := Lib.hid ⟨hm12, fun p hp => by
                            split at hp
                            · exact HM11.out.sound p hp
                            · rcases List.mem_append.1 hp with hp | hp
                              · exact HM11.out.sound p hp
                              · rw [List.mem_singleton.1 hp]; exact hpo, fun j hj p hp => by
                            have := HM11.out.whole j hj p hp
                            split
                            · exact this
                            · exact List.mem_append_left _ this⟩
                        have HT12 : Hid (∀ p ∈ cl.take (q + 1), p ∈ if pc ∈ S2 then S2 else S2 ++ [pc]) := Lib.hid fun p hp => by
                          rw [Htk.out, List.mem_append, List.mem_singleton] at hp
                          split
                          · rename_i hin
                            rcases hp with hp | rfl
                            · exact HT11.out p hp
                            · exact hin
                          · rcases hp with hp | rfl
                            · exact List.mem_append_left _ (HT11.out p hp)
                            · exact List.mem_append_right _ (by simp)
                        have HB12 := Lib.hid (HB11.out.trans (MB.of_grown hg12))
                        unfold encC at hup hc8
                        clear hps hpo hpm htk hm12 hg12 HM11 HT11 HB11
                        go_wp2_with (fail)
                        go_roundw
                        case rel => exact ⟨q + 1, by omega, by go_num, HB12, _, HM12, HT12⟩
                        case measure => simp [intOf]; omega
                      · obtain rfl : q = cl.length := by omega
                        have tq : decide ((cl.length : Int) < (cl.length : Int)) = false := decide_eq_false (by omega)
                        have HMn : Hid (Met r l bm (k + 1) S2 wr) := Lib.hid ⟨HM11.out.map, HM11.out.sound, Hwh.out S2 HM11.out.whole (fun p hp => HT11.out p (by rw [List.take_length]; exact hp))⟩
                        have HBn := Lib.hid (HBm2.out.trans HB11.out)
                        clear HM11 HT11 HB11 HMt2 HBm2
                        go_wp2_with (fail)
                        go_roundw
                        case rel => exact ⟨k + 1, by omega, by go_num, HBn, _, HMn⟩
                        case measure => simp [intOf]; omega
                  · obtain rfl : k = l.length := by omega
                    have ti : decide ((l.length : Int) < (l.length : Int)) = false := decide_eq_false (by omega)
                    have HRm : Hid (RRow wr w.heap.size r) := Lib.hid ⟨(HBm.out.block _ HRk.out.lt (fun e => by
                      obtain ⟨es, clock, hb, _⟩ := HMk.out.map.at_
                      have h := HRk.out.at_
                      rw [e, hb] at h
                      cases h)).trans HRk.out.at_⟩
                    have HBz := Lib.hid (HBm.out.below HBk.out Hbm.out HBk.out.size)
                    have Hdz := Lib.hid ((HBm.out.block _ hDl2 hDb).trans Hdk.out)
                    have CC1 := Lib.hid (CCa.out r Hrr.out wr (Hi6.out.mb HBm.out HMk.out.map) (Hi7.out.mb HBm.out HMk.out.map))
                    rw [← Hcov.out r] at CC1
                    have Hsm := Lib.hid (fun p (h : p ∈ cov r l r) => small_cov (r := r) hfl h)
                    have hcl : (cov r l r).length ≤ 1000000 := by
                      have h1 := covTo_len r xl yl xl.length
                      have lx := Hlx.out
                      have ly := Hly.out
                      have h2 : xl.length * yl.length ≤ 1000 * 1000 := Nat.mul_le_mul (by omega) (by omega)
                      rw [Hcov.out r]; omega
                    have Hbad : Hid (∀ p ∈ cov r l r, p ∉ S → T = false) := Lib.hid fun p hp hn => Hno.out fun ht => by
                      obtain ⟨a, ha, hpa⟩ := ht.2.2 p hp
                      obtain ⟨j, hj, rfl⟩ := List.getElem_of_mem ha
                      refine hn (HMt.out.whole j hj p ?_)
                      rw [List.getElem?_eq_getElem hj]
                      exact hpa
                    have Hgood : Hid ((∀ p ∈ cov r l r, p ∈ S) → T = true) := Lib.hid fun h => Hyes.out ⟨HIn.out, HIp.out, fun p hp => HMt.out.sound p (h p hp)⟩
                    generalize cov r l r = cl at *
                    have HMw := Lib.hid HMt.out.map
                    have p0 : wr.cell? ⟨w.heap.size, 0, none⟩ = some (.int .i64 r.x) := HRm.out.cells.1
                    have p1 : wr.cell? ⟨w.heap.size, 1, none⟩ = some (.int .i64 r.y) := HRm.out.cells.2.1
                    have p2 : wr.cell? ⟨w.heap.size, 2, none⟩ = some (.int .i64 r.w) := HRm.out.cells.2.2.1
                    have p3 : wr.cell? ⟨w.heap.size, 3, none⟩ = some (.int .i64 r.h) := HRm.out.cells.2.2.2
                    have Hra : Hid (r.arr = #[.int .i64 r.x, .int .i64 r.y, .int .i64 r.w, .int .i64 r.h]) := Lib.hid rfl
                    rw [Hra.out] at CC1
                    clear HMt HRm Hi6 Hi7 HIn HIp Hyes Hno
                    go_wp2_with (fail)
                    refine CC1.out.mono ?_
                    rintro e w13 ⟨A8, c8, rfl, hco, hb13⟩
                    have Hco := Lib.hid hco
                    have HMv := Lib.hid (HMw.out.turn (hb13.block _ HMw.out.lt))
                    have HBv := Lib.hid (HBz.out.trans (hb13.mono HBz.out.size))
                    have hDw : D < wr.heap.size := (Array.getElem?_eq_some_iff.1 Hdz.out).1
                    have Hdv := Lib.hid ((hb13.block _ hDw).trans Hdz.out)
                    clear hco hb13 p0 p1 p2 p3 HMw HBz Hdz hDw CC1 HBm HMk HBk HRk Hlk
                    go_wp2_with (fail)
                    go_loop [129] (fun a => ∃ q : Nat, q ≤ cl.length ∧ a = .int .i64 q ∧ Hid (∀ p ∈ cl.take q, p ∈ S)) (fun a => cl.length - (intOf a).toNat)
                    case atStart => exact ⟨0, Nat.zero_le _, rfl, Lib.hid (fun p hp => by simp at hp)⟩
                    case round =>
                      obtain ⟨q, hq, rfl, HT11⟩ := hrel
                      by_cases hlq : q < cl.length
                      · have tq : decide ((q : Int) < (cl.length : Int)) = true := decide_eq_true (by omega)
                        obtain ⟨b8, o8, hA8, hc8⟩ := Hco.out q hlq
                        cases hA8
                        have hpm : cl[q]?.getD (0, 0) ∈ cl := mem_at hlq
                        have hps := Hsm.out _ hpm
                        have Hbd := Lib.hid (Hbad.out _ hpm)
                        have Htk : Hid (cl.take (q + 1) = cl.take q ++ [cl[q]?.getD (0, 0)]) := Lib.hid (by rw [List.take_add_one, List.getElem?_eq_getElem hlq]; rfl)
                        generalize cl[q]?.getD (0, 0) = pc at *
                        have hlk := HMv.out.lookup pc hps
                        unfold encC at hlk hc8
                        clear hps hpm
                        by_cases hin : pc ∈ S
                        · rw [decide_eq_true hin] at hlk
                          have HT12 : Hid (∀ p ∈ cl.take (q + 1), p ∈ S) := Lib.hid fun p hp => by
                            rw [Htk.out, List.mem_append, List.mem_singleton] at hp
                            rcases hp with hp | rfl
                            · exact HT11.out p hp
                            · exact hin
                          clear hin HT11
                          go_wp2_with (fail)
                          go_round
                          case rel => exact ⟨q + 1, by omega, by go_num, HT12⟩
                          case measure => simp [intOf]; omega
                        · rw [decide_eq_false hin] at hlk
                          have HTf := Lib.hid (Hbd.out hin)
                          clear hin HT11
                          go_wp2_with (fail)
                          refine wp_goto ?_
                          exact ⟨rfl, ⟨rfl, HBv.out, .inr ⟨D, HbD.out, rfl, Hdv.out⟩⟩, HTf.out⟩
                      · obtain rfl : q = cl.length := by omega
                        have tq : decide ((cl.length : Int) < (cl.length : Int)) = false := decide_eq_false (by omega)
                        have HTt := Lib.hid (Hgood.out fun p hp => HT11.out p (by rw [List.take_length]; exact hp))
                        clear HT11 Hgood Hbad
                        go_wp2_with (fail)
                        refine ⟨by simp, .inl ⟨_, _, rfl, run_takeDeferred Hdv.out, ?_⟩⟩
                        exact ⟨_, results_tmp2 rfl _ _ _, by rw [HTt.out]; rfl, HBv.out.trans (belowK_b (w := w) (n₀ := w.heap.size) (Nat.le_refl _) w13 D _ (.deferred none) HbD.out Hdv.out rfl rfl)⟩

end Go.Proofs.Ytnlojbkjhlhogaa
