/- The contract of edges.Begins: for wrong bands an error, for right bands where each begins. -/
import Derived.Test.YtnjifmoclfgegaaB
namespace Go.Proofs.Ytnjifmoclfgegaa
open Go.RowKit Go.Shelf
attribute [local go_sem] Oper.semAt_some

theorem Try.info2 : (Try.prog.info? 2).map (fun i => (i.zero, i.size, i.bytes)) = some (some (.int .i64 0), 1, 8) := by kernel_rfl

/-- **'out = append(out, ..)' in a loop's body**: as Boxed.appended, the box anywhere; a set of blocks that holds neither the box nor the row. -/
theorem boxed_appendedK {W w1 : World} {n₀ B : Nat} {S : Nat → Prop} {t e : TypeId} {size : Nat} {v v' : Value} {k m : Nat} {xs ys : List Value} {tmp : Obj}
    (hv : Boxed W B t v) (hte : t ≠ e) (hrow : W.ownsRow n₀ e size v k xs) (hS : ∀ k, S k → k < n₀) (hn₀ : n₀ ≤ W.heap.size) (hB : ¬ S B)
    (hown' : w1.ownsRow n₀ e size v' m ys) (hgrow : (W.alloc tmp).grownBy w1 v.ownBlock) :
    Boxed w1 B t v ∧ Boxed (w1.setCell ⟨B, 0, none⟩ v') B t v' ∧ (w1.setCell ⟨B, 0, none⟩ v').ownsRow n₀ e size v' m ys ∧ KeepsOthers W (w1.setCell ⟨B, 0, none⟩ v') ∧ Keeps S W (w1.setCell ⟨B, 0, none⟩ v') := by
  have hv1 : Boxed w1 B t v := (hv.alloc tmp).kept hgrow (hv.not_row hte hrow)
  refine ⟨hv1, hv1.set v', hown'.kept (grownBy_setCell' w1 B v') (.inr (hv1.not_row hte hown').symm), ?_, ?_⟩
  · refine ((KeepsOthers.alloc W tmp).trans (KeepsOthers.of_grownBy hgrow fun j o ej hj => ?_)).trans (KeepsOthers.setCell _ _ _)
    rcases (hrow.alloc tmp).2 with ⟨rfl, _⟩ | ⟨g, cap, cur, rfl, _, hgb, _⟩
    · simp [Value.ownBlock] at ej
    · obtain rfl : g = j := by simpa [Value.ownBlock] using ej
      rw [hgb] at hj; cases hj; rfl
  · have hb : Below n₀ W w1 := ((Below.refl n₀ W).alloc hn₀ tmp).grown hgrow (by simp; omega) fun j ej => by
      rcases hrow.2 with ⟨rfl, _⟩ | ⟨g, cap, cur, rfl, hb, _, _⟩
      · simp [Value.ownBlock] at ej
      · obtain rfl : g = j := by simpa [Value.ownBlock] using ej
        exact hb
    exact (Keeps.of_below hb hS).setCell (p := ⟨B, 0, none⟩) hB v'

theorem ownFrom_keeps {β : Type} {S : Nat → Prop} {B : Nat} {w₀ : World} (hS : ∀ k, S k → k < w₀.heap.size) (hB : ∀ k, S k → k < B) : OwnFrom B (fun (_ : β) W => Keeps S w₀ W) :=
  fun _ _ _ _ hs hg hr => hs.trans ⟨hg.os, hg.tape, hg.output, hg.size, fun k hk => hg.block k (Nat.lt_of_lt_of_le (hS k hk) hs.size) (fun e => by have := (hr k e.symm).1; have := hB k hk; omega)⟩

theorem Keeps.below {S : Nat → Prop} {B : Nat} {w w' : World} (h : Keeps S w w') (hS : ∀ k, k < B → S k) : Below B w w' :=
  ⟨h.os, h.tape, h.output, h.size, fun k hk => h.block k (hS k hk)⟩

theorem c12_wrong (A : Option Addr) (xs : List Int) (c : Nat) (gap : Int) (w : World) (hx : Ints w A xs) (hl : xs.length ≤ 17592186044416) (hr : right xs gap = false) :
    Calls Try.prog 12 #[.slice A xs.length c, .int .i64 gap] w fun e w' => e = .returned (.tuple #[.slice none 0 0, .int .i64 100]) ∧ Below w.heap.size w w' := by
  have h := c16 A xs c gap w hx hl
  rw [hr] at h
  have H := Lib.hid h
  clear h hx hr
  go_enter Try.func12, Try.ntmps12
  go_wp2_with (go_at_call 16; refine H.out.mono ?_; rintro e w' ⟨rfl, hb⟩)
  go_ret2
  exact ⟨rfl, hb⟩

/-- A row that is owned, read. -/
theorem ints_of_own {w : World} {base n : Nat} {e : TypeId} {v : Value} {xs : List Int} (h : w.ownsRow base e 1 v n (xs.map (Value.int .i64))) (hn : xs.length = n) :
    ∃ A c, v = .slice A n c ∧ n ≤ c ∧ c ≤ maxLen ∧ Ints w A xs ∧ ∀ ad, A = some ad → base ≤ ad.block := by
  rcases h.2 with ⟨rfl, rfl⟩ | ⟨g, cap, cur, rfl, hg, hb, h1, h2, h3, h4⟩
  · exact ⟨none, 0, rfl, Nat.le_refl _, Nat.zero_le _, fun j hj => by omega, fun ad e => by cases e⟩
  · refine ⟨_, cap, rfl, h1, h2, fun j hj => ⟨g, 0, rfl, ?_⟩, fun ad e => by cases e; exact hg⟩
    have hj' : j < cur.size := by omega
    have h5 : (cur.toList.take (n * 1))[j]? = (xs.map (Value.int .i64))[j]? := by rw [h4]
    rw [List.getElem?_take, if_pos (by omega), List.getElem?_map] at h5
    unfold World.cell?
    rw [hb]
    simp only [Nat.zero_add, Option.isSome_none, Bool.false_eq_true, if_false]
    rw [← Array.getElem?_toList, h5]
    simp [hj]

set_option maxRecDepth 100000 in
set_option maxHeartbeats 2000000 in
theorem c12_right (A : Option Addr) (xs : List Int) (c : Nat) (gap : Int) (w : World) (hx : Ints w A xs) (hr : right xs gap = true) :
    Calls Try.prog 12 #[.slice A xs.length c, .int .i64 gap] w fun e w' => ∃ A' c', e = .returned (.tuple #[.slice A' xs.length c', .int .i64 0]) ∧ xs.length ≤ c' ∧ Ints w' A' (upto (st gap xs) xs.length) ∧ Below w.heap.size w w' := by
  have hlen := (right_iff.1 hr).1
  have h := c16 A xs c gap w hx (by omega)
  rw [hr] at h
  have H := Lib.hid h
  clear h
  have Hx := Lib.hid hx
  have Hr := Lib.hid hr
  clear hx hr
  obtain ⟨i0, hi, hz0, hz1, hz2⟩ := info_parts Try.info2
  refine (callsIn_wide (n := 3)).1 ?_
  refine callsIn_of_wp_marks Try.func12 rfl trivial ?_ rfl
  simp only [Try.ntmps12, List.size_toArray, List.length_cons, List.length_nil, Nat.reduceAdd, Nat.reduceSub, Array.replicate_succ, Array.replicate_zero, List.push_toArray, List.append_toArray, List.nil_append, List.cons_append]
  gi_wp2_with (first | (refine ⟨trivial, ?_⟩; gi_at_call 16; refine (callsIn_wide.2 H.out).mono ?_; rintro e w1 ⟨rfl, hb1⟩) | (refine ⟨trivial, ?_⟩; gi_at_call 27; refine (callsIn_wide.2 (c27 _ _ _ _ _)).mono ?_; rintro e w' ⟨rfl, rfl⟩))
  obtain ⟨W0, hW0⟩ : ∃ W0, ((w1.alloc (Obj.cells #[Value.slice none 0 0] 22)).alloc (Obj.cells #[Value.slice A xs.length c] 22)).alloc (Obj.cells #[Value.int IntKind.i64 gap] 2) = W0 := ⟨_, rfl⟩
  have hsz : W0.heap.size = w1.heap.size + 3 := by rw [← hW0]; simp
  have b0 : Boxed W0 w1.heap.size 22 (.slice none 0 0) := by rw [← hW0]; exact ((Boxed.new w1 22 _).alloc _).alloc _
  have b1 : Boxed W0 (w1.heap.size + 1) 22 (.slice A xs.length c) := by
    have := (Boxed.new (w1.alloc (Obj.cells #[Value.slice none 0 0] 22)) 22 (.slice A xs.length c)).alloc (Obj.cells #[Value.int IntKind.i64 gap] 2)
    rw [World.size_alloc, hW0] at this; exact this
  have b2 : Boxed W0 (w1.heap.size + 1 + 1) 2 (.int .i64 gap) := by
    have := Boxed.new ((w1.alloc (Obj.cells #[Value.slice none 0 0] 22)).alloc (Obj.cells #[Value.slice A xs.length c] 22)) 2 (.int .i64 gap)
    rw [World.size_alloc, World.size_alloc, hW0] at this; exact this
  have hB0 : Below w.heap.size w W0 := by
    rw [← hW0]; exact ((hb1.alloc hb1.size _).alloc (by have := hb1.size; simp; omega) _).alloc (by have := hb1.size; simp; omega) _
  have hxW0 := Hx.out.below hB0
  have hsz1 := hb1.size
  rw [hW0]
  clear hW0 hb1
  refine wpIn_rangeFunc_ownG (F := Fence.wide) (n := 3) rfl (by omega) (gf := 39) (lb := #[.pointer (some ⟨w1.heap.size + 1 + 1, 0, none⟩), .pointer (some ⟨w1.heap.size + 1, 0, none⟩)]) rfl trivial (enters_of Try.func39 (by kernel_rfl) rfl)
    (c39_stops Fence.wide 2 trivial rfl (by omega) (w1.heap.size + 1 + 1) (w1.heap.size + 1) (fun k => k < w.heap.size ∨ k = w1.heap.size + 1 + 1) A xs c gap Hr.out
      (fun b off e h0 => by obtain ⟨b', off', e', hc⟩ := Hx.out 0 h0; rw [e] at e'; cases e'; exact .inl (World.block_lt_of_cell? w _ hc)) (.inr rfl) W0 b2.cell b1.cell hxW0)
    (fun h k => h.trans k) (Keeps.putObj W0 (fun k hk => by omega)) (Below.refl _ _) (fun _ => rfl)
    (fun pre W => (∃ v, Boxed W w1.heap.size 22 v ∧ W.ownsRow W0.heap.size 2 1 v pre.length (((pre.map fun p => p.1.1)).map (Value.int .i64)) ∧ True) ∧ Below w.heap.size w W ∧ W0.heap.size ≤ W.heap.size)
    (fun _ _ _ => False)
    (OwnFrom.and (Own.from (holdsRow_own W0.heap.size w1.heap.size 22 2 1 (fun pre : List Bp => pre.length) (fun pre => ((pre.map fun p => p.1.1)).map (Value.int .i64)) (fun _ _ => True)) _) (OwnFrom.and (ownFrom_below (Nat.le_refl _) (by omega)) (fun _ _ _ _ hs hg _ => Nat.le_trans hs hg.size)))
    (fun _ _ _ _ _ hs _ _ => hs)
    ⟨⟨_, b0, World.ownsRow_nil _ _ _ _, trivial⟩, hB0, Nat.le_refl _⟩
    (fun x => { tmps := #[Value.slice A xs.length c, Value.int IntKind.i64 gap, undef, undef, Value.slice none 0 0,
          Value.int IntKind.i64 0, Value.pointer (some { block := w1.heap.size, off := 0 }), .complex .f64 (floatOfInt .f64 x.1.1) (floatOfInt .f64 x.1.2),
          Value.slice A xs.length c, Value.int IntKind.i64 gap, Value.bool true, Value.bool false,
          Value.slice A xs.length c, Value.int IntKind.i64 gap,
          Value.func (Fn.func 39) #[] #[Value.pointer (some { block := w1.heap.size + 1 + 1, off := 0 }), Value.pointer (some { block := w1.heap.size + 1, off := 0 })],
          .complex .f64 (floatOfInt .f64 x.1.1) (floatOfInt .f64 x.1.2), undef, undef, undef, undef, undef, undef, undef], defers := [] }) ?assign ?body ?done ?stop
  case assign =>
    intro l x W K hK
    unfold encB
    gi_wp2
    exact hK
  case body =>
    rintro l pre x W ⟨⟨v, hv, hrow, -⟩, hB, hWs⟩ hlt
    have hc := hv.cell
    have hcv0 : floatToIntVal .f64 (floatOfInt .f64 x.1.1) .i64 = some x.1.1 := Fx.floatToInt_fb (by have := x.2; omega) (by have := x.2; omega)
    have hcv : ∀ W, (convert 56 2 (.float .f64 (floatOfInt .f64 x.1.1))).run Try.prog W = .ok (.int .i64 x.1.1) W := fun W => run_convert_float_int W 56 2 .f64 .i64 _ _ (by kernel_rfl) Try.underlying2 hcv0
    clear hcv0
    gi_wp2_with (gi_at_builtin; refine wpListIn_append_own _ rfl _ _ 22 rfl W0.heap.size 2 i0 (.int .i64 0) 1 8 Try.underlying22 hi hz0 hz1 hz2 rfl (by decide) _ _ _ rfl (hrow.alloc _) ⟨W.heap.size, 0, none⟩ 1 1 [.int .i64 x.1.1] rfl rfl (cell_one_new _ _ _) (by simp [Value.oneCell']) (by unfold maxLen; omega) (by omega) (by simp; omega) ?_; intro v' w1' hown' hgrow _; obtain ⟨g', cap', rfl⟩ := ownsRow_succ hown'; obtain ⟨hv1, hv2, hr2, hk2, hb2⟩ := boxed_appendedK (S := fun k => k < w.heap.size ∨ k = w1.heap.size + 1 + 1) hv (by decide) hrow (fun k hk => by omega) hWs (by omega) hown' hgrow; have hc1 := hv1.cell; have hf1 := hv1.frozen)
    exact ⟨hk2.from _, hb2, ⟨_, hv2, by simpa using hr2, trivial⟩, hB.trans (hb2.below fun k hk => .inl hk), Nat.le_trans hWs hb2.size⟩
  case done =>
    rintro D ys W hD rfl ⟨⟨v, hv, hrow, -⟩, hB, hWs⟩ hK
    have hc := hv.cell
    obtain ⟨A', c', rfl, hac, hcm, hin, _⟩ := ints_of_own hrow (by simp)
    have hlu : (upto (bnd gap xs) xs.length).length = xs.length := upto_length _ _
    have hmap : (upto (bnd gap xs) xs.length).map (fun p => p.1.1) = upto (st gap xs) xs.length := by
      unfold upto
      rw [List.map_map]
      refine List.map_congr_left fun k hk => ?_
      have := bnd_val Hr.out (List.mem_range.1 hk)
      simp only [Function.comp, this]
    rw [hmap] at hin
    rw [hlu] at hc hac
    have Hin := Lib.hid hin
    have Hlu := Lib.hid hlu
    have Hmap := Lib.hid hmap
    clear hin hlu hmap
    gi_wp2
    have hKb := belowK_b (w := W0) (n₀ := W0.heap.size) (Nat.le_refl _) W D _ (.deferred none) (by omega) hK rfl rfl
    refine ⟨by simp, .inl ⟨_, _, rfl, run_takeDeferred hK, ?_⟩⟩
    exact ⟨_, results_tmp2 rfl _ _ _, A', c', rfl, hac, fun j hj => by
      obtain ⟨b, off, hA, hcc⟩ := Hin.out j hj
      exact ⟨b, off, hA, cell_kept hcc (grownBy_putObj' _ D (.deferred none)) (fun r e => by cases e; exact ⟨_, hK, rfl⟩)⟩, hB.trans (hKb.mono (by omega))⟩
  case stop =>
    rintro D c pre W _ _ h _
    exact h.elim

end Go.Proofs.Ytnjifmoclfgegaa
