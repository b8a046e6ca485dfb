/- The contract of align.Needs: what each of right cells needs. -/
import Derived.Test.YtgpcoljgpgamdaaJ
namespace Go.Proofs.Ytgpcoljgpgamdaa
open Go.RowKit Go.Shelf
attribute [local go_sem] Oper.semAt_some
set_option linter.unusedVariables false

theorem ownsRow_some {w : World} {base : Nat} {e : TypeId} {size : Nat} {v : Value} {n : Nat} {xs : List Value} (h : w.ownsRow base e size v n xs) (hn : 0 < n) : ∃ g cap, v = .slice (some ⟨g, 0, none⟩) n cap ∧ base ≤ g ∧ g < w.heap.size := by
  rcases h.2 with ⟨_, h0⟩ | ⟨g, cap, cur, rfl, hg, hb, _⟩
  · omega
  · exact ⟨g, cap, rfl, hg, (Array.getElem?_eq_some_iff.1 hb).1⟩
theorem add3 (a b c : Int) (ha : -1152921504606846976 ≤ a ∧ a ≤ 1152921504606846976) (hb : -1152921504606846976 ≤ b ∧ b ≤ 1152921504606846976) (hc : -1152921504606846976 ≤ c ∧ c ≤ 1152921504606846976) (W : World) (g : Nat)
    (hg : W.heap[g]? = some (.cells #[.int .i64 a, .int .i64 b, .int .i64 c] 2 (0, 0))) : Calls Try.prog 24 #[.slice (some ⟨g, 0, none⟩) 3 3] W fun e w' => e = .returned (.int .i64 (a + b + c)) ∧ W = w' := by
  have hx : Ints W (some ⟨g, 0, none⟩) [a, b, c] := fun j hj => by
    refine ⟨g, 0, rfl, ?_⟩
    match j, hj with
    | 0, _ => simp [World.cell?, hg]
    | 1, _ => simp [World.cell?, hg]
    | 2, _ => simp [World.cell?, hg]
  have e : sm [a, b, c] 3 = a + b + c := by simp [sm]
  have := c28 (some ⟨g, 0, none⟩) [a, b, c] 3 W hx (by simp) (fun k hk => by
    match k, hk with
    | 0, _ => simp [sm]
    | 1, _ => simp [sm]; omega
    | 2, _ => simp [sm]; omega
    | 3, _ => simp [sm]; omega) (fun k hk => by
    match k, hk with
    | 0, _ => simp; omega
    | 1, _ => simp; omega
    | 2, _ => simp; omega)
  simp only [List.length_cons, List.length_nil, Nat.reduceAdd, e] at this
  exact this
theorem okCell_base {rows : Int} {c : Cell} (h : okCell rows c = true) : inR 0 1125899906842623 c.base = true := by
  unfold okCell at h
  simp only [Bool.and_eq_true] at h
  exact h.2.2.2
theorem okCell_high {rows : Int} {c : Cell} (h : okCell rows c = true) : inR 0 1125899906842623 c.high = true := by
  unfold okCell at h
  simp only [Bool.and_eq_true] at h
  exact h.2.2.1

/-- the lines of right cells -/
def linesC (R : Nat) (xs : List Cell) : List Int := linesOf R xs (basedTo xs xs.length)
theorem needBound (R : Nat) (xs : List Cell) (hok : ∀ j, j < xs.length → okCell R (xs[j]?.getD default) = true) (pre : List (Bx xs)) :
    within 1125899906842623 (1 + pre.length) (needFold (linesC R xs) xs pre) := by
  have hb : ∀ q : Bx xs, (xs[q.1]?.getD default).base ≤ 1125899906842623 := fun q => (inR_iff.1 (okCell_base (hok q.1 q.2.1))).2
  refine needFold_within _ xs _ (by omega) (fun q => ?_) pre 1 _ (fun i hi => ?_)
  · have h1 := lines_bound R (K := 1125899906842623) (by omega) hb (basedTo xs xs.length) (xs[q.1]?.getD default).row.toNat
    have h2 := inR_iff.1 (okCell_base (hok q.1 q.2.1))
    unfold lineAt linesC
    omega
  · rw [List.length_map] at hi
    have h2 := inR_iff.1 (okCell_high (hok i hi))
    rw [List.getElem?_map, List.getElem?_eq_getElem hi] at *
    simp at h2 ⊢
    omega
def NeedsSaid (R : Nat) (xs : List Cell) (w : World) (e : Ending) (w' : World) : Prop :=
  ∃ A c, e = .returned (.tuple #[.slice A xs.length c, .int .i64 0]) ∧ xs.length ≤ c ∧ Ints w' A (xs.map (needOf (linesC R xs))) ∧ (∀ ad, A = some ad → w.heap.size ≤ ad.block) ∧ Below w.heap.size w w'

set_option maxRecDepth 100000 in
set_option maxHeartbeats 4000000 in
theorem needs13_right (A : Option Addr) (xs : List Cell) (c : Nat) (R : Nat) (w : World) (hx : Cells w A xs) (hl : xs.length ≤ 1000) (hr : rightC R xs = true) :
    Calls Try.prog 13 #[.int .i64 R, .slice A xs.length c] w (NeedsSaid R xs w) := by
  have H := Lib.hid (lines12_right A xs c R w hx (by omega) hr)
  have Hx := Lib.hid hx
  unfold rightC at hr
  rw [Bool.and_eq_true, Bool.not_eq_true'] at hr
  have hR := (inR_iff.1 hr.1).2
  have Hok := Lib.hid (bads_all hr.2)
  obtain ⟨i0, hi, hz0, hz1, hz2⟩ := info_parts Try.info2
  clear hx hr
  refine (callsIn_wide (n := 3)).1 ?_
  refine callsIn_of_wp_marks Try.func13 rfl trivial ?_ rfl
  simp only [Try.ntmps13, List.size_toArray, List.length_cons, List.length_nil, Nat.reduceAdd, Nat.reduceSub, Array.replicate_succ, Array.replicate_zero, List.push_toArray, List.append_toArray, List.nil_append, List.cons_append]
  gi_wp2_with (fail)
  refine ⟨trivial, (callsIn_wide.2 H.out).mono ?_⟩
  rintro e w1 ⟨gL, rfl, hrow, hgL, hb1⟩
  obtain ⟨W1, hW1⟩ : ∃ W1, w1.alloc (.cells #[.slice (some ⟨gL, 0, none⟩) R R] 25) = W1 := ⟨_, rfl⟩
  have bL : Boxed W1 w1.heap.size 25 (.slice (some ⟨gL, 0, none⟩) R R) := by rw [← hW1]; exact Boxed.new w1 25 _
  have rL : RowB W1 gL (linesOf R xs (basedTo xs xs.length)) := by rw [← hW1]; exact hrow.alloc _
  have hgLt := hrow.lt
  have hB1 : Below w.heap.size w W1 := by rw [← hW1]; exact hb1.alloc hb1.size _
  have hs1 : W1.heap.size = w1.heap.size + 1 := by rw [← hW1]; simp
  have BL := Lib.hid bL
  have RL := Lib.hid rL
  have HB1 := Lib.hid hB1
  have HW1 := Lib.hid hW1
  have hsz1 := hb1.size
  clear hrow hb1 bL rL hB1 hW1 H
  gi_wp2_with (fail)
  have ho0 : Boxed (W1.alloc (.cells #[.slice none 0 0] 25)) (w1.heap.size + 1) 25 (.slice none 0 0) := by
    have := Boxed.new W1 25 (.slice none 0 0)
    rw [hs1] at this; exact this
  rw [HW1.out]
  have hbb : Below (w1.heap.size + 1) W1 (W1.alloc (.cells #[.slice none 0 0] 25)) := (Below.refl _ W1).alloc (by omega) _
  have HBB := Lib.hid hbb
  have HO0 := Lib.hid ho0
  have hzz : w1.heap.size + 2 ≤ (W1.alloc (.cells #[.slice none 0 0] 25)).heap.size := by simp; omega
  generalize W1.alloc (.cells #[.slice none 0 0] 25) = W2 at *
  clear hbb ho0
  gi_loopw [24] (fun i wr => ∃ k : Nat, k ≤ xs.length ∧ i = .int .i64 k ∧ Hid (∃ v, Boxed wr (w1.heap.size + 1) 25 v ∧ wr.ownsRow (w1.heap.size + 2) 2 1 v k (((xs.take k).map Cell.high).map (Value.int .i64))) ∧ Hid (Below (w1.heap.size + 1) W1 wr) ∧ w1.heap.size + 2 ≤ wr.heap.size) (fun i _ => xs.length - (intOf i).toNat)
  case atStart => exact ⟨0, Nat.zero_le _, rfl, Lib.hid ⟨_, HO0.out, World.ownsRow_nil _ _ _ _⟩, HBB, hzz⟩
  case round =>
    obtain ⟨k, hk, rfl, hv1, hB, hz⟩ := hrel
    obtain ⟨v, hv, hrow⟩ := hv1.out
    by_cases hlt : k < xs.length
    · have hBw : Below w.heap.size w wr := HB1.out.trans (hB.out.mono (by omega))
      obtain ⟨x, b, off, hxk, rfl, hc⟩ := (Hx.out.below hBw).get k hlt
      obtain ⟨q0, q1, q2, q3, q4, q5, q6, q7, q8, q9, q10⟩ := hc
      obtain ⟨node, row, col, rws, cols, mn, mx, high, base, hbb, al⟩ := x
      dsimp only at q0 q1 q2 q3 q4 q5 q6 q7 q8 q9 q10
      have hsnoc : Hid (((xs.take k).map Cell.high).map (Value.int .i64) ++ [.int .i64 high] = ((xs.take (k + 1)).map Cell.high).map (Value.int .i64)) := by
        refine Lib.hid ?_
        have h1 : xs[k] = ⟨node, row, col, rws, cols, mn, mx, high, base, hbb, al⟩ := by have := hxk.out; rw [List.getElem?_eq_getElem hlt] at this; exact this
        rw [List.take_succ_eq_append_getElem hlt, h1]; simp
      have HBk := Lib.hid hB.out
      have hcv := (hv.alloc (.cells #[.int .i64 node, .int .i64 row, .int .i64 col, .int .i64 rws, .int .i64 cols, .int .i64 mn, .int .i64 mx, .int .i64 high, .int .i64 base, .bool hbb, .int .i64 al] 41))
      have hc := hcv.cell
      have hsa : (wr.alloc (.cells #[.int .i64 node, .int .i64 row, .int .i64 col, .int .i64 rws, .int .i64 cols, .int .i64 mn, .int .i64 mx, .int .i64 high, .int .i64 base, .bool hbb, .int .i64 al] 41)).heap.size = wr.heap.size + 1 := by simp
      have HBa := Lib.hid (hB.out.alloc (Nat.le_trans (by omega) hz) (.cells #[.int .i64 node, .int .i64 row, .int .i64 col, .int .i64 rws, .int .i64 cols, .int .i64 mn, .int .i64 mx, .int .i64 high, .int .i64 base, .bool hbb, .int .i64 al] 41))
      clear hB hv hv1 hBw hxk
      gi_wp2_with (gi_at_builtin; refine wpListIn_append_own _ rfl _ _ 25 rfl (w1.heap.size + 2) 2 i0 (.int .i64 0) 1 8 Try.underlying25 hi hz0 hz1 hz2 rfl (by decide) _ _ _ rfl ((hrow.alloc _).alloc _) ⟨wr.heap.size + 1, 0, none⟩ 1 1 [.int .i64 high] rfl rfl (by rw [← hsa]; exact cell_one_new _ _ _) (by simp [Value.oneCell']) (by unfold maxLen; omega) (by omega) (by simp; omega) ?_; intro v' w1' hown' hgrow _; obtain ⟨g', cap', rfl⟩ := ownsRow_succ hown'; obtain ⟨hv1, hv2, hr2, hk2, hb2⟩ := boxed_appendedK (S := fun k => k < w1.heap.size + 1) hcv (by decide) (hrow.alloc _) (fun k hk => by omega) (by rw [hsa]; omega) (by omega) hown' hgrow; have hc1 := hv1.cell; have hf1 := hv1.frozen)
      go_roundw
      case rel => exact ⟨k + 1, by omega, by simp, Lib.hid ⟨_, hv2, by rw [← hsnoc.out]; exact hr2⟩, Lib.hid (HBa.out.trans (hb2.below fun k hk => hk)), by have := hb2.size; rw [hsa] at this; omega⟩
      case measure => simp [intOf]; omega
    · obtain rfl : k = xs.length := by omega
      -- tail
      gi_wp2_with (fail)
      refine ⟨trivial, (callsIn_wide.2 (based23 _ _ _ _)).mono ?_⟩
      rintro e w2 ⟨rfl, rfl⟩
      gi_wp2_with (fail)
      obtain ⟨W0, hW0⟩ : ∃ W0, wr.alloc (Obj.cells #[Value.slice A xs.length c] 22) = W0 := ⟨_, rfl⟩
      have hs0 : W0.heap.size = wr.heap.size + 1 := by rw [← hW0]; simp
      have bx : Boxed W0 wr.heap.size 22 (.slice A xs.length c) := by rw [← hW0]; exact Boxed.new wr 22 _
      have hv0 : Boxed W0 (w1.heap.size + 1) 25 v := by rw [← hW0]; exact hv.alloc _
      have hr0 : W0.ownsRow (w1.heap.size + 2) 2 1 v xs.length ((xs.map Cell.high).map (Value.int .i64)) := by rw [← hW0, List.take_of_length_le (Nat.le_refl _)] at *; exact hrow.alloc _
      have hbw : Below (w1.heap.size + 1) W1 W0 := by rw [← hW0]; exact hB.out.alloc (by omega) _
      have hB0 : Below w.heap.size w W0 := HB1.out.trans (hbw.mono (by omega))
      have bL : Boxed W0 w1.heap.size 25 (.slice (some ⟨gL, 0, none⟩) R R) := (hbw.block _ (by omega)).trans BL.out
      have rL : RowB W0 gL (linesOf R xs (basedTo xs xs.length)) := RL.out.below hbw (by omega)
      have hxW0 := Hx.out.below hB0
      rw [hW0]
      have hvg : ∀ g cap, v = .slice (some ⟨g, 0, none⟩) xs.length cap → g < wr.heap.size := fun g cap e => by
        rcases hrow.2 with ⟨h0, _⟩ | ⟨g', cap', cur, h0, _, hb, _⟩
        · rw [h0] at e; cases e
        · rw [h0] at e; cases e; exact (Array.getElem?_eq_some_iff.1 hb).1
      clear hW0 hB hrow hv
      have hS : ∀ k, (k < w.heap.size ∨ k = wr.heap.size) → k < W0.heap.size := fun k hk => by omega
      refine wpIn_rangeFunc_ownH (F := Fence.wide) (n := 3) rfl (by omega) (gf := 35) (lb := #[.pointer (some ⟨wr.heap.size, 0, none⟩)]) rfl trivial (enters_of Try.func35 (by kernel_rfl) rfl)
        (c35_stops 2 (by omega) wr.heap.size (fun k => k < w.heap.size ∨ k = wr.heap.size) A xs c (by omega)
          (fun b off e h0 => by obtain ⟨b', off', e', hc⟩ := Hx.out 0 h0; rw [e] at e'; cases e'; exact .inl hc.lt) W0 hS bx.cell hxW0)
        (fun h k => h.trans k) (Keeps.putObj W0 hS) (Below.refl _ _) (fun _ => rfl)
        (fun pre W => (∃ v', Boxed W (w1.heap.size + 1) 25 v' ∧ W.ownsRow (w1.heap.size + 2) 2 1 v' xs.length ((needFold (linesC R xs) xs pre).map (Value.int .i64)) ∧ v' = v) ∧ (Boxed W w1.heap.size 25 (.slice (some ⟨gL, 0, none⟩) R R) ∧ RowB W gL (linesC R xs)) ∧ (Below w.heap.size w W ∧ W0.heap.size ≤ W.heap.size)) (fun _ _ _ => False)
        (OwnFrom.and (Own.from (holdsRow_own (w1.heap.size + 2) (w1.heap.size + 1) 25 2 1 (fun pre : List (Bx xs) => xs.length) (fun pre => (needFold (linesC R xs) xs pre).map (Value.int .i64)) (fun _ v' => v' = v)) _) (OwnFrom.and (OwnFrom.and (Own.from (boxed_own _ _ _) _) (Own.from (rowB_own _ _) _)) (OwnFrom.and (ownFrom_below (Nat.le_refl _) (by have := hB0.size; omega)) (ownFrom_size _ _)))) (fun _ _ _ _ _ h _ _ => h.elim)
        ⟨⟨v, hv0, hr0, rfl⟩, ⟨bL, rL⟩, hB0, Nat.le_refl _⟩
        (fun x a' W => ∃ Bc, W0.heap.size ≤ Bc ∧ W.heap[Bc]? = some (.cells (xs[x.1]?.getD default).arr 41 (0, 0)) ∧ a' = { tmps := #[.int .i64 R, .slice A xs.length c, undef, undef, .slice none 0 0, .int .i64 0, .pointer (some ⟨w1.heap.size, 0, none⟩), .int .i64 0, .pointer (some ⟨w1.heap.size + 1, 0, none⟩), undef, u10, .int .i64 (x.1 : Nat), .pointer (some ⟨Bc, 0, none⟩), .tuple #[.slice (some ⟨gL, 0, none⟩) R R, .int .i64 0], .int .i64 R, .slice A xs.length c, .tuple #[.slice (some ⟨gL, 0, none⟩) R R, .int .i64 0], .slice (some ⟨gL, 0, none⟩) R R, .int .i64 0, .int .i64 0, .bool false, undef, .slice A xs.length c, .int .i64 xs.length, .int .i64 xs.length, .bool false, u26, u27, u28, u29, u30, u31, u32, u33, u34, .slice A xs.length c, .func (.func 35) #[] #[.pointer (some ⟨wr.heap.size, 0, none⟩)], .int .i64 (x.1 : Nat), .agg (xs[x.1]?.getD default).arr, undef, undef, undef, undef, undef, undef, undef, undef, undef, undef, undef, undef, undef, undef, undef, undef, undef, undef, undef, undef], defers := [] })
        ?hAx ?assign ?body ?done ?stop
      case hAx =>
        rintro x a' _ X Y row ⟨Bc, h1, h2, h3⟩ hg hrow
        refine ⟨Bc, h1, (hg.block Bc (Array.getElem?_eq_some_iff.1 h2).1 (fun e' => ?_)).trans h2, h3⟩
        obtain ⟨_, o, ho, hc⟩ := hrow Bc e'.symm
        rw [h2] at ho; cases ho; cases hc
      case assign =>
        rintro l pre ⟨j, hj⟩ W K ⟨⟨v', i1, i2, rfl⟩, ⟨i3, i4⟩, hB, hz'⟩ hK
        have HK := Lib.hid hK
        have I1 := Lib.hid i1
        have I2 := Lib.hid i2
        have I3 := Lib.hid i3
        have I4 := Lib.hid i4
        have HB := Lib.hid hB
        clear hK i1 i2 i3 i4 hB hxW0 bx hv0 hr0 hbw hB0 bL rL hS
        unfold encX at *
        dsimp only at HK ⊢
        generalize xs[j]?.getD default = cx at HK ⊢
        obtain ⟨node, row, col, rws, cols, mn, mx, high, base, hbb, al⟩ := cx
        unfold Cell.arr at *
        dsimp only at HK ⊢
        gi_wp2
        refine HK.out _ _ ((KeepsOthers.alloc _ _).from _) (Keeps.of_below ((Below.refl _ W).alloc (Nat.le_refl _) _) (fun k hk => ?_)) ⟨⟨_, I1.out.alloc _, I2.out.alloc _, rfl⟩, ⟨I3.out.alloc _, I4.out.alloc _⟩, HB.out.alloc HB.out.size _, by simp; omega⟩ ⟨W.heap.size, hz', heap_alloc_new W _, rfl⟩
        have := HB.out.size; omega
      case body =>
        rintro l pre ⟨j, hj⟩ a' W hl' hrr ⟨⟨v', i1, i2, rfl⟩, ⟨i3, i4⟩, hB, hz'⟩ ⟨Bc, hBc, hblk, rfl⟩ hlt
        have hok := Hok.out j hj.1
        have hbd := needBound R xs Hok.out pre
        have hlb := lines_bound R (xs := xs) (K := 1125899906842623) (by omega) (fun q => (inR_iff.1 (okCell_base (Hok.out q.1 q.2.1))).2) (basedTo xs xs.length)
        have hst : Hid (needFold (linesC R xs) xs (pre ++ [⟨j, hj⟩]) = needStep (linesC R xs) xs (needFold (linesC R xs) xs pre) ⟨j, hj⟩) := Lib.hid (needFold_snoc _ xs pre ⟨j, hj⟩)
        have hnl := needFold_len (linesC R xs) xs pre
        have hll : (linesC R xs).length = R := linesOf_len _ _ _
        unfold needStep at hst
        dsimp only at hst hblk ⊢
        have hlb2 : ∀ i : Nat, 0 ≤ (linesC R xs)[i]?.getD 0 ∧ (linesC R xs)[i]?.getD 0 ≤ 1125899906842623 := hlb
        generalize needFold (linesC R xs) xs pre = out at *
        generalize xs[j]?.getD default = cx at hblk hok hst ⊢
        obtain ⟨node, row, col, rws, cols, mn, mx, high, base, hbb, al⟩ := cx
        have hbase := inR_iff.1 (okCell_base hok)
        unfold okCell at hok
        rw [Bool.and_eq_true] at hok
        have hw := of_decide_eq_true hok.1
        unfold lineAt at hst
        dsimp only at hw hst hbase
        obtain ⟨row, rfl⟩ := Int.eq_ofNat_of_zero_le hw.1
        rw [Int.toNat_natCast] at hst
        have hrow : row < R := by omega
        have hjn : j < xs.length := hj.1
        obtain ⟨g, cap, he, hg1, hg2⟩ := ownsRow_some i2 (by omega)
        have hg3 := hvg g cap he
        subst he
        have hcell : W.cell? ⟨g, j, none⟩ = some (.int .i64 (out[j]?.getD 0)) := by
          have := i2.cellAt j (by omega)
          rw [this]
          simp [show j < out.length by omega]
        have hlc := i4.cell row (by omega)
        have hb1 := hbd j (by omega)
        have hb2 := hlb2 row
        have z1 : W.cell? ⟨Bc, 1, none⟩ = some (.int .i64 row) := by simp [World.cell?, hblk, Cell.arr]
        have z8 : W.cell? ⟨Bc, 8, none⟩ = some (.int .i64 base) := by simp [World.cell?, hblk, Cell.arr]
        generalize out[j]?.getD 0 = va at *
        generalize (linesC R xs)[row]?.getD 0 = vl at *
        have WN := Lib.hid (IntWalk.i64_in (-base) (by omega))
        have Z1 := Lib.hid z1
        have Z8 := Lib.hid z8
        have ZC := Lib.hid hcell
        have ZL := Lib.hid hlc
        have ZB := Lib.hid i1.cell
        have Z6 := Lib.hid i3.cell
        have I1 := Lib.hid i1
        have I2 := Lib.hid i2
        have I3 := Lib.hid i3
        have I4 := Lib.hid i4
        have HB := Lib.hid hB
        have C24 := Lib.hid (add3 va vl (-base) (by omega) (by omega) (by omega))
        clear z1 z8 hcell hlc i1 i2 i3 i4 hB hok hw hblk hxW0 bx hv0 hr0 hbw hB0 bL rL hS hrr Hx Hok hlb hlb2 hbd hll hvg
        unfold Cell.arr
        dsimp only
        gi_wp2_with (fail)
        refine wpIn_region_ord 19 [(0, true), (1, true), (2, true), (3, true), (4, true), (5, true), (6, true), (7, true), (8, true), (9, true), (10, true), (11, true), (12, true), (13, true), (14, true), (15, true), (16, false), (17, true), (18, true), (19, false)] (by kernel_rfl) (by kernel_rfl) ?_
        intro Wc hWc
        apply OrdAt.op (fun _ _ _ h => h) rfl rfl rfl
        · intro X hB
          have s := rd (hWc.tr hB) ZB.out
          go_simp
          try rfl
        · dsimp only [List.set_cons_zero, List.set_cons_succ]
        apply OrdAt.op (fun _ _ _ h => h) rfl rfl rfl
        · intro X hB
          go_simp
          try rfl
        · dsimp only [List.set_cons_zero, List.set_cons_succ]
        apply OrdAt.op (fun _ _ _ h => h) rfl rfl rfl
        · intro X hB
          have s := rd (hWc.tr hB) ZB.out
          go_simp
          try rfl
        · dsimp only [List.set_cons_zero, List.set_cons_succ]
        iterate 2
          apply OrdAt.op (fun _ _ _ h => h) rfl rfl rfl
          · intro X hB
            go_simp
            try rfl
          · dsimp only [List.set_cons_zero, List.set_cons_succ]
        apply OrdAt.op (fun _ _ _ h => h) rfl rfl rfl
        · intro X hB
          have s := rd (hWc.tr hB) ZC.out
          go_simp
          try rfl
        · dsimp only [List.set_cons_zero, List.set_cons_succ]
        apply OrdAt.op (fun _ _ _ h => h) rfl rfl rfl
        · intro X hB
          have s := rd (hWc.tr hB) Z6.out
          go_simp
          try rfl
        · dsimp only [List.set_cons_zero, List.set_cons_succ]
        iterate 2
          apply OrdAt.op (fun _ _ _ h => h) rfl rfl rfl
          · intro X hB
            go_simp
            try rfl
          · dsimp only [List.set_cons_zero, List.set_cons_succ]
        apply OrdAt.op (fun _ _ _ h => h) rfl rfl rfl
        · intro X hB
          have s := rd (hWc.tr hB) Z1.out
          go_simp
          try rfl
        · dsimp only [List.set_cons_zero, List.set_cons_succ]
        apply OrdAt.op (fun _ _ _ h => h) rfl rfl rfl
        · intro X hB
          go_simp
          try rfl
        · dsimp only [List.set_cons_zero, List.set_cons_succ]
        apply OrdAt.op (fun _ _ _ h => h) rfl rfl rfl
        · intro X hB
          have s := rd (hWc.tr hB) ZL.out
          go_simp
          try rfl
        · dsimp only [List.set_cons_zero, List.set_cons_succ]
        iterate 2
          apply OrdAt.op (fun _ _ _ h => h) rfl rfl rfl
          · intro X hB
            go_simp
            try rfl
          · dsimp only [List.set_cons_zero, List.set_cons_succ]
        apply OrdAt.op (fun _ _ _ h => h) rfl rfl rfl
        · intro X hB
          have s := rd (hWc.tr hB) Z8.out
          go_simp
          try rfl
        · dsimp only [List.set_cons_zero, List.set_cons_succ]
        apply OrdAt.op (fun _ _ _ h => h) rfl rfl rfl
        · intro X hB
          have s := WN.out
          go_simp
          try rfl
        · dsimp only [List.set_cons_zero, List.set_cons_succ]
        refine OrdAt.seq rfl rfl ?_
        intro X hB
        go_wp2_with (fail)
        have hW4 := hWc.tr hB
        have hnew := Lib.hid (heap_alloc_new X (.cells #[.int .i64 va, .int .i64 vl, .int .i64 (-base)] 2))
        have hXa : Hid (Ext W (X.alloc (.cells #[.int .i64 va, .int .i64 vl, .int .i64 (-base)] 2))) := Lib.hid (hW4.tr ((Below.refl _ _).alloc (Nat.le_refl _) _))
        refine ⟨.inr ((Below.refl _ X).alloc (Nat.le_refl _) _), ?_⟩
        generalize X.alloc (.cells #[.int .i64 va, .int .i64 vl, .int .i64 (-base)] 2) = X2 at *
        apply OrdAt.call (fun _ _ _ h => h) rfl rfl rfl
        · intro X3 hB3
          go_simp
          exact ⟨rfl, rfl⟩
        · intro X3 hB3
          refine (C24.out X3 X.heap.size ((hB3.block _ (Array.getElem?_eq_some_iff.1 hnew.out).1).trans hnew.out)).mono ?_; rintro e W1 ⟨rfl, rfl⟩; exact ⟨rfl, Below.refl _ _⟩
        · dsimp only [List.set_cons_zero, List.set_cons_succ]
        apply OrdAt.op (fun _ _ _ h => h) rfl rfl rfl
        · intro X3 hB3
          go_simp
          try rfl
        · dsimp only [List.set_cons_zero, List.set_cons_succ]
        clear hB hW4
        refine OrdAt.seq rfl rfl ?_
        intro X3 hB
        have hW4 := hXa.out.tr hB
        have f := (hW4.frozen (p := ⟨g, j, none⟩) hg2).trans (I2.out.frozenAt j)
        have cc := rd hW4 ZC.out
        go_wp2_with (fail)
        refine ⟨.inl (by decide), OrdAt.done ?_⟩
        intro W5 hW5
        clear f cc
        gi_wp2_with (fail)
        have gb : ∀ {a b : World}, Ext a b → a.grownBy b none := fun h => ⟨h.os, h.tape, h.output, h.size, fun k hk _ => h.block k hk⟩
        have hz3 := hW4.size
        have hz5 := hW5.size
        simp only [World.setCell, Array.size_modify] at hz5
        have o1 := (I2.out.kept (gb hW4) (.inr (by simp [Value.ownBlock]))).stored j (.int .i64 (va + vl + -base))
        have o2 := o1.1.kept (gb hW5) (.inr (by simp [Value.ownBlock]))
        have b1 := boxed_below (boxed_set_other (g := g) (j := j) (boxed_below I1.out hW4) (by omega) (.int .i64 (va + vl + -base))) hW5
        have b3 := boxed_below (boxed_set_other (g := g) (j := j) (boxed_below I3.out hW4) (by omega) (.int .i64 (va + vl + -base))) hW5
        have hgl := I4.out.lt
        have r4 : RowB (X3.setCell ⟨g, j, none⟩ (.int .i64 (va + vl + -base))) gL (linesC R xs) := (heap_setCell_other X3 ⟨g, j, none⟩ gL _ (fun e => by dsimp only at e; omega)).trans (I4.out.below hW4 hgl)
        have r5 := r4.below hW5 r4.lt
        refine ⟨(((keepsOthers_below hW4).trans (KeepsOthers.setCell _ _ _)).trans (keepsOthers_below hW5)).from _, ((Keeps.of_below hW4 (fun k hk => by have := HB.out.size; omega)).setCell (p := ⟨g, j, none⟩) (fun hk => by dsimp only at hk; omega) _).trans (Keeps.of_below hW5 (fun k hk => by simp only [World.setCell, Array.size_modify]; have := HB.out.size; omega)),
          ⟨_, b1, ?_, rfl⟩, ⟨b3, r5⟩, ((HB.out.trans (hW4.mono HB.out.size)).setCell (p := ⟨g, j, none⟩) (by dsimp only; omega) _).trans (hW5.mono (by simp only [World.setCell, Array.size_modify]; have := HB.out.size; omega)), by omega⟩
        rw [hst.out, List.map_set]; exact o2
      case done =>
        rintro D ys W hD rfl ⟨⟨v', i1, i2, rfl⟩, ⟨i3, i4⟩, hB, hz'⟩ hK
        rw [needFold_all] at i2
        have hKb := (belowK_b (w := W0) (n₀ := W0.heap.size) (Nat.le_refl _) W D _ (.deferred none) (by omega) hK rfl rfl).mono (B' := w.heap.size) (by have := hB0.size; omega)
        obtain ⟨A', c', rfl, hac, hcm, hin, hbk⟩ := ints_of_own i2 (by simp)
        have q := i1.cell
        have HB := Lib.hid hB
        have Hin := Lib.hid hin
        have Hbk := Lib.hid hbk
        clear i1 i2 i3 i4 hB hxW0 bx hv0 hr0 hbw hB0 bL rL hS Hok hvg hin hbk
        gi_wp2
        refine ⟨by simp, .inl ⟨_, _, rfl, run_takeDeferred hK, ?_⟩⟩
        refine ⟨_, results_tmp2 rfl _ _ _, A', c', rfl, hac, fun j hj => ?_, fun ad h => by have := Hbk.out ad h; omega, HB.out.trans hKb⟩
        obtain ⟨b, off, hA, hcc⟩ := Hin.out j hj
        exact ⟨b, off, hA, cell_kept hcc (grownBy_putObj' _ D (.deferred none)) (fun r e => by cases e; exact ⟨_, hK, rfl⟩)⟩
      case stop =>
        rintro D cc pre W _ _ h _
        exact h.elim

end Go.Proofs.Ytgpcoljgpgamdaa
