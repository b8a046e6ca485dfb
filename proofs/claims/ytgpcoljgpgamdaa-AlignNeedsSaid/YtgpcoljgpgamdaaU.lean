/- The law's shown: it says yes. -/
import Derived.Test.YtgpcoljgpgamdaaT
import Derived.Test.YtgpcoljgpgamdaaS
namespace Go.Proofs.Ytgpcoljgpgamdaa
open Go.RowKit Go.Shelf
set_option linter.unusedVariables false

def cA : Cell := ⟨0, 0, 0, 1, 1, 0, 0, 10, 5, true, 0⟩
def cB : Cell := ⟨0, 0, 0, 1, 1, 0, 0, 9, 8, true, 0⟩
def both : Array Value := #[.int .i64 0, .int .i64 0, .int .i64 0, .int .i64 1, .int .i64 1, .int .i64 0, .int .i64 0, .int .i64 10, .int .i64 5, .bool true, .int .i64 0, .int .i64 0, .int .i64 0, .int .i64 0, .int .i64 1, .int .i64 1, .int .i64 0, .int .i64 0, .int .i64 9, .int .i64 8, .bool true, .int .i64 0]
theorem both_cells (w : World) : Cells (w.alloc (.cells both 41)) (some ⟨w.heap.size, 0, none⟩) [cA, cB] := fun j hj => by
  refine ⟨w.heap.size, 0, rfl, ?_⟩
  match j, hj with
  | 0, _ => refine ⟨?_, ?_, ?_, ?_, ?_, ?_, ?_, ?_, ?_, ?_, ?_⟩ <;> (unfold World.cell?; rw [heap_alloc_new]; rfl)
  | 1, _ => refine ⟨?_, ?_, ?_, ?_, ?_, ?_, ?_, ?_, ?_, ?_, ?_⟩ <;> (unfold World.cell?; rw [heap_alloc_new]; rfl)
theorem both_right : rightC 1 [cA, cB] = true := by decide
theorem both_lines : linesC 1 [cA, cB] = [8] := by decide
theorem both_needs : [cA, cB].map (needOf (linesC 1 [cA, cB])) = [13, 9] := by rw [both_lines]; decide
theorem both_downs : [cA, cB].map (downOf (linesC 1 [cA, cB]) [13] 0) = [3, 0] := by rw [both_lines]; decide
theorem both_bands : right [13] 0 = true := by decide
theorem none_wrong : rightC (-1) [] = false := by decide
theorem cells_nil (w : World) : Cells w none [] := fun j hj => absurd hj (Nat.not_lt_zero j)

theorem k12 (W : World) (h : Nat) (hh : W.heap.size = h) : Calls Try.prog 12 #[.int .i64 1, .slice (some ⟨h, 0, none⟩) 2 2] (W.alloc (.cells both 41)) fun e w' => (∃ g, e = .returned (.tuple #[.slice (some ⟨g, 0, none⟩) 1 1, .int .i64 0]) ∧ RowB w' g [8]) ∧ Below W.heap.size W w' := by
  subst hh
  have hB : Below W.heap.size W (W.alloc (.cells both 41)) := (Below.refl _ W).alloc (Nat.le_refl _) _
  refine (lines12_right (some ⟨W.heap.size, 0, none⟩) [cA, cB] 2 1 _ (both_cells W) (by simp) both_right).mono ?_
  rintro e w' ⟨g, rfl, hr, hg, hb⟩
  have hr' : RowB w' g (linesC 1 [cA, cB]) := hr
  rw [both_lines] at hr'
  exact ⟨⟨g, rfl, hr'⟩, hB.trans (hb.mono hB.size)⟩
theorem k13 (W : World) (h : Nat) (hh : W.heap.size = h) : Calls Try.prog 13 #[.int .i64 1, .slice (some ⟨h, 0, none⟩) 2 2] (W.alloc (.cells both 41)) fun e w' => (∃ A c, e = .returned (.tuple #[.slice A 2 c, .int .i64 0]) ∧ Ints w' A [13, 9]) ∧ Below W.heap.size W w' := by
  subst hh
  have hB : Below W.heap.size W (W.alloc (.cells both 41)) := (Below.refl _ W).alloc (Nat.le_refl _) _
  refine (needs13_right (some ⟨W.heap.size, 0, none⟩) [cA, cB] 2 1 _ (both_cells W) (by simp) both_right).mono ?_
  rintro e w' ⟨A, c, rfl, _, hr, _, hb⟩
  rw [both_needs] at hr
  exact ⟨⟨A, c, rfl, hr⟩, hB.trans (hb.mono hB.size)⟩
theorem k19 (W : World) (h h' : Nat) (hh : W.heap.size = h) (hh' : h + 1 = h') : Calls Try.prog 19 #[.slice (some ⟨h, 0, none⟩) 1 1, .int .i64 0, .slice (some ⟨h', 0, none⟩) 2 2] ((W.alloc (.cells #[.int .i64 13] 2)).alloc (.cells both 41)) fun e w' => (∃ A c, e = .returned (.tuple #[.slice A 2 c, .int .i64 0]) ∧ Ints w' A [3, 0]) ∧ Below W.heap.size W w' := by
  subst hh'
  subst hh
  have hB : Below W.heap.size W (W.alloc (.cells #[.int .i64 13] 2)) := (Below.refl _ W).alloc (Nat.le_refl _) _
  have hB2 : Below (W.alloc (.cells #[.int .i64 13] 2)).heap.size (W.alloc (.cells #[.int .i64 13] 2)) ((W.alloc (.cells #[.int .i64 13] 2)).alloc (.cells both 41)) := (Below.refl _ _).alloc (Nat.le_refl _) _
  have hc := both_cells (W.alloc (.cells #[.int .i64 13] 2))
  rw [World.size_alloc] at hc
  have hi := (ints_one W 13 2).below hB2
  refine (downs19_right (some ⟨W.heap.size + 1, 0, none⟩) (some ⟨W.heap.size, 0, none⟩) [cA, cB] 2 1 [13] 0 _ hc (by simp) hi both_right both_bands).mono ?_
  rintro e w' ⟨A, c, rfl, _, hr, hb⟩
  rw [show ([13] : List Int).length = 1 from rfl, both_downs] at hr
  exact ⟨⟨A, c, rfl, hr⟩, (hB.trans (hB2.mono hB.size)).trans (hb.mono (by have := hB.size; have := hB2.size; omega))⟩
theorem k12n (W : World) : Calls Try.prog 12 #[.int .i64 (-1), .slice none 0 0] W fun e w' => e = .returned (.tuple #[.slice none 0 0, .int .i64 170]) ∧ Below W.heap.size W w' :=
  lines12_wrong none [] 0 (-1) W (cells_nil W) (by simp) none_wrong
theorem dr_below {w w' : World} (h : Dr w w') : Below w.heap.size w w' := by
  obtain ⟨n, rfl⟩ := h
  exact ⟨rfl, rfl, rfl, Nat.le_refl _, fun _ _ => rfl⟩
theorem same16 (A B : Option Addr) (xs ys : List Int) (c d : Nat) (W : World) (hx : Ints W A xs) (hy : Ints W B ys) (hl : xs.length ≤ 17592186044416) (hl' : ys.length ≤ 17592186044416) (he : xs = ys) :
    Calls Try.prog 16 #[.slice A xs.length c, .slice B ys.length d] W fun e w' => e = .returned (.bool true) ∧ Below W.heap.size W w' :=
  (c17 A B xs ys c d W hx hy hl hl').mono fun e w' ⟨h1, h2⟩ => ⟨by rw [h1, decide_eq_true he], dr_below h2⟩

set_option maxRecDepth 100000 in
set_option maxHeartbeats 8000000 in
theorem shown10 (w : World) : Calls Try.prog 10 #[] w fun e w' => e = .returned (.bool true) ∧ Below w.heap.size w w' := by
  have hb0 : Below w.heap.size w ((w.alloc (.cells cA.arr 41)).alloc (.cells cB.arr 41)) := ((Below.refl _ w).alloc (Nat.le_refl _) _).alloc (by simp) _
  have ha0 : ((w.alloc (.cells cA.arr 41)).alloc (.cells cB.arr 41)).heap[w.heap.size]? = some (.cells cA.arr 41) := by
    rw [Below.heap_alloc _ _ _ (by simp)]; exact heap_alloc_new w _
  have hb1 : ((w.alloc (.cells cA.arr 41)).alloc (.cells cB.arr 41)).heap[w.heap.size + 1]? = some (.cells cB.arr 41) := by
    have := heap_alloc_new (w.alloc (.cells cA.arr 41)) (.cells cB.arr 41)
    rw [World.size_alloc] at this; exact this
  have hz0 : ((w.alloc (.cells cA.arr 41)).alloc (.cells cB.arr 41)).heap.size = w.heap.size + 2 := by simp
  have HB0 := Lib.hid hb0
  have HA0 := Lib.hid ha0
  have HC0 := Lib.hid hb1
  have HZ0 := Lib.hid hz0
  clear hb0 ha0 hb1 hz0
  go_enter Try.func10, Try.ntmps10
  go_wp2_with (fail)
  refine (k12 ((w.alloc (.cells cA.arr 41)).alloc (.cells cB.arr 41)) _ (by simp)).mono ?_
  rintro e w1 ⟨⟨g1, rfl, hr1⟩, hb1⟩
  have HB1 := Lib.hid (HB0.out.trans (hb1.mono HB0.out.size))
  have HA1 := Lib.hid ((hb1.block w.heap.size (by rw [HZ0.out]; omega)).trans HA0.out)
  have HC1 := Lib.hid ((hb1.block (w.heap.size + 1) (by rw [HZ0.out]; omega)).trans HC0.out)
  have HR1 := Lib.hid hr1
  have hz1 : w.heap.size + 2 ≤ w1.heap.size := by rw [← HZ0.out]; exact hb1.size
  clear hb1 hr1
  have a0 : w1.cell? ⟨w.heap.size, 0, none⟩ = some (.int .i64 0) := by simp [World.cell?, HA1.out, cA, Cell.arr]
  have b0 : w1.cell? ⟨w.heap.size + 1, 0, none⟩ = some (.int .i64 0) := by simp [World.cell?, HC1.out, cB, Cell.arr]
  have a1 : w1.cell? ⟨w.heap.size, 1, none⟩ = some (.int .i64 0) := by simp [World.cell?, HA1.out, cA, Cell.arr]
  have b1 : w1.cell? ⟨w.heap.size + 1, 1, none⟩ = some (.int .i64 0) := by simp [World.cell?, HC1.out, cB, Cell.arr]
  have a2 : w1.cell? ⟨w.heap.size, 2, none⟩ = some (.int .i64 0) := by simp [World.cell?, HA1.out, cA, Cell.arr]
  have b2 : w1.cell? ⟨w.heap.size + 1, 2, none⟩ = some (.int .i64 0) := by simp [World.cell?, HC1.out, cB, Cell.arr]
  have a3 : w1.cell? ⟨w.heap.size, 3, none⟩ = some (.int .i64 1) := by simp [World.cell?, HA1.out, cA, Cell.arr]
  have b3 : w1.cell? ⟨w.heap.size + 1, 3, none⟩ = some (.int .i64 1) := by simp [World.cell?, HC1.out, cB, Cell.arr]
  have a4 : w1.cell? ⟨w.heap.size, 4, none⟩ = some (.int .i64 1) := by simp [World.cell?, HA1.out, cA, Cell.arr]
  have b4 : w1.cell? ⟨w.heap.size + 1, 4, none⟩ = some (.int .i64 1) := by simp [World.cell?, HC1.out, cB, Cell.arr]
  have a5 : w1.cell? ⟨w.heap.size, 5, none⟩ = some (.int .i64 0) := by simp [World.cell?, HA1.out, cA, Cell.arr]
  have b5 : w1.cell? ⟨w.heap.size + 1, 5, none⟩ = some (.int .i64 0) := by simp [World.cell?, HC1.out, cB, Cell.arr]
  have a6 : w1.cell? ⟨w.heap.size, 6, none⟩ = some (.int .i64 0) := by simp [World.cell?, HA1.out, cA, Cell.arr]
  have b6 : w1.cell? ⟨w.heap.size + 1, 6, none⟩ = some (.int .i64 0) := by simp [World.cell?, HC1.out, cB, Cell.arr]
  have a7 : w1.cell? ⟨w.heap.size, 7, none⟩ = some (.int .i64 10) := by simp [World.cell?, HA1.out, cA, Cell.arr]
  have b7 : w1.cell? ⟨w.heap.size + 1, 7, none⟩ = some (.int .i64 9) := by simp [World.cell?, HC1.out, cB, Cell.arr]
  have a8 : w1.cell? ⟨w.heap.size, 8, none⟩ = some (.int .i64 5) := by simp [World.cell?, HA1.out, cA, Cell.arr]
  have b8 : w1.cell? ⟨w.heap.size + 1, 8, none⟩ = some (.int .i64 8) := by simp [World.cell?, HC1.out, cB, Cell.arr]
  have a9 : w1.cell? ⟨w.heap.size, 9, none⟩ = some (.bool true) := by simp [World.cell?, HA1.out, cA, Cell.arr]
  have b9 : w1.cell? ⟨w.heap.size + 1, 9, none⟩ = some (.bool true) := by simp [World.cell?, HC1.out, cB, Cell.arr]
  have a10 : w1.cell? ⟨w.heap.size, 10, none⟩ = some (.int .i64 0) := by simp [World.cell?, HA1.out, cA, Cell.arr]
  have b10 : w1.cell? ⟨w.heap.size + 1, 10, none⟩ = some (.int .i64 0) := by simp [World.cell?, HC1.out, cB, Cell.arr]
  go_wp2_with (fail)
  refine (k13 w1 _ rfl).mono ?_
  rintro e w2 ⟨⟨A2, c2, rfl, hr2⟩, hb2⟩
  have HB2 := Lib.hid (HB1.out.trans (hb2.mono HB1.out.size))
  have HA2 := Lib.hid ((hb2.block w.heap.size (by omega)).trans HA1.out)
  have HC2 := Lib.hid ((hb2.block (w.heap.size + 1) (by omega)).trans HC1.out)
  have HR12 := Lib.hid (HR1.out.below hb2 HR1.out.lt)
  have HR2 := Lib.hid hr2
  have hz2 : w.heap.size + 2 ≤ w2.heap.size := Nat.le_trans hz1 hb2.size
  clear hb2 hr2
  clear a0 b0 a1 b1 a2 b2 a3 b3 a4 b4 a5 b5 a6 b6 a7 b7 a8 b8 a9 b9 a10 b10
  have m0 : w2.cell? ⟨w.heap.size, 0, none⟩ = some (.int .i64 0) := by simp [World.cell?, HA2.out, cA, Cell.arr]
  have n0 : w2.cell? ⟨w.heap.size + 1, 0, none⟩ = some (.int .i64 0) := by simp [World.cell?, HC2.out, cB, Cell.arr]
  have m1 : w2.cell? ⟨w.heap.size, 1, none⟩ = some (.int .i64 0) := by simp [World.cell?, HA2.out, cA, Cell.arr]
  have n1 : w2.cell? ⟨w.heap.size + 1, 1, none⟩ = some (.int .i64 0) := by simp [World.cell?, HC2.out, cB, Cell.arr]
  have m2 : w2.cell? ⟨w.heap.size, 2, none⟩ = some (.int .i64 0) := by simp [World.cell?, HA2.out, cA, Cell.arr]
  have n2 : w2.cell? ⟨w.heap.size + 1, 2, none⟩ = some (.int .i64 0) := by simp [World.cell?, HC2.out, cB, Cell.arr]
  have m3 : w2.cell? ⟨w.heap.size, 3, none⟩ = some (.int .i64 1) := by simp [World.cell?, HA2.out, cA, Cell.arr]
  have n3 : w2.cell? ⟨w.heap.size + 1, 3, none⟩ = some (.int .i64 1) := by simp [World.cell?, HC2.out, cB, Cell.arr]
  have m4 : w2.cell? ⟨w.heap.size, 4, none⟩ = some (.int .i64 1) := by simp [World.cell?, HA2.out, cA, Cell.arr]
  have n4 : w2.cell? ⟨w.heap.size + 1, 4, none⟩ = some (.int .i64 1) := by simp [World.cell?, HC2.out, cB, Cell.arr]
  have m5 : w2.cell? ⟨w.heap.size, 5, none⟩ = some (.int .i64 0) := by simp [World.cell?, HA2.out, cA, Cell.arr]
  have n5 : w2.cell? ⟨w.heap.size + 1, 5, none⟩ = some (.int .i64 0) := by simp [World.cell?, HC2.out, cB, Cell.arr]
  have m6 : w2.cell? ⟨w.heap.size, 6, none⟩ = some (.int .i64 0) := by simp [World.cell?, HA2.out, cA, Cell.arr]
  have n6 : w2.cell? ⟨w.heap.size + 1, 6, none⟩ = some (.int .i64 0) := by simp [World.cell?, HC2.out, cB, Cell.arr]
  have m7 : w2.cell? ⟨w.heap.size, 7, none⟩ = some (.int .i64 10) := by simp [World.cell?, HA2.out, cA, Cell.arr]
  have n7 : w2.cell? ⟨w.heap.size + 1, 7, none⟩ = some (.int .i64 9) := by simp [World.cell?, HC2.out, cB, Cell.arr]
  have m8 : w2.cell? ⟨w.heap.size, 8, none⟩ = some (.int .i64 5) := by simp [World.cell?, HA2.out, cA, Cell.arr]
  have n8 : w2.cell? ⟨w.heap.size + 1, 8, none⟩ = some (.int .i64 8) := by simp [World.cell?, HC2.out, cB, Cell.arr]
  have m9 : w2.cell? ⟨w.heap.size, 9, none⟩ = some (.bool true) := by simp [World.cell?, HA2.out, cA, Cell.arr]
  have n9 : w2.cell? ⟨w.heap.size + 1, 9, none⟩ = some (.bool true) := by simp [World.cell?, HC2.out, cB, Cell.arr]
  have m10 : w2.cell? ⟨w.heap.size, 10, none⟩ = some (.int .i64 0) := by simp [World.cell?, HA2.out, cA, Cell.arr]
  have n10 : w2.cell? ⟨w.heap.size + 1, 10, none⟩ = some (.int .i64 0) := by simp [World.cell?, HC2.out, cB, Cell.arr]
  have hne1 : ∀ i, (w2.alloc (.cells #[.int .i64 13] 2)).cell? ⟨w.heap.size, i, none⟩ = w2.cell? ⟨w.heap.size, i, none⟩ := fun i => ((Below.refl _ w2).alloc (Nat.le_refl _) (.cells #[.int .i64 13] 2)).cell (p := ⟨w.heap.size, i, none⟩) (by dsimp only; omega)
  have hne2 : ∀ i, (w2.alloc (.cells #[.int .i64 13] 2)).cell? ⟨w.heap.size + 1, i, none⟩ = w2.cell? ⟨w.heap.size + 1, i, none⟩ := fun i => ((Below.refl _ w2).alloc (Nat.le_refl _) (.cells #[.int .i64 13] 2)).cell (p := ⟨w.heap.size + 1, i, none⟩) (by dsimp only; omega)
  go_wp2_with (fail)
  clear hne1 hne2
  refine (k19 w2 _ _ rfl rfl).mono ?_
  rintro e w3 ⟨⟨A3, c3, rfl, hr3⟩, hb3⟩
  have HB3 := Lib.hid (HB2.out.trans (hb3.mono HB2.out.size))
  have HR13 := Lib.hid (HR12.out.below hb3 HR12.out.lt)
  have HR23 := Lib.hid (HR2.out.below hb3)
  have HR3 := Lib.hid hr3
  clear hb3 hr3
  clear m0 n0 m1 n1 m2 n2 m3 n3 m4 n4 m5 n5 m6 n6 m7 n7 m8 n8 m9 n9 m10 n10
  go_wp2_with (fail)
  refine (k12n w3).mono ?_
  rintro e w4 ⟨rfl, hb4⟩
  have HB4 := Lib.hid (HB3.out.trans (hb4.mono HB3.out.size))
  have HR14 := Lib.hid (HR13.out.below hb4 HR13.out.lt)
  have HR24 := Lib.hid (HR23.out.below hb4)
  have HR34 := Lib.hid (HR3.out.below hb4)
  clear hb4
  go_wp2_with (fail)
  have e5 : Ext w4 (w4.alloc (.cells #[.int .i64 8] 2)) := (Below.refl _ _).alloc (Nat.le_refl _) _
  refine (same16 _ _ [8] [8] _ _ _ (HR14.out.below e5 HR14.out.lt).ints (ints_one w4 8 2) (by simp) (by simp) rfl).mono ?_
  rintro e w5 ⟨rfl, hb5⟩
  have E5 : Hid (Ext w4 w5) := Lib.hid (Ext.tr e5 hb5)
  clear e5 hb5
  go_wp2_with (fail)
  have e6 : Ext w5 (w5.alloc (.cells #[.int .i64 13, .int .i64 9] 2)) := (Below.refl _ _).alloc (Nat.le_refl _) _
  refine (same16 _ _ [13, 9] [13, 9] _ _ _ (HR24.out.below (Ext.tr E5.out e6)) (ints_two w5 13 9 2) (by simp) (by simp) rfl).mono ?_
  rintro e w6 ⟨rfl, hb6⟩
  have E6 : Hid (Ext w4 w6) := Lib.hid (Ext.tr E5.out (Ext.tr e6 hb6))
  clear e6 hb6
  go_wp2_with (fail)
  have e7 : Ext w6 (w6.alloc (.cells #[.int .i64 3, .int .i64 0] 2)) := (Below.refl _ _).alloc (Nat.le_refl _) _
  refine (same16 _ _ [3, 0] [3, 0] _ _ _ (HR34.out.below (Ext.tr E6.out e7)) (ints_two w6 3 0 2) (by simp) (by simp) rfl).mono ?_
  rintro e w7 ⟨rfl, hb7⟩
  have HB7 := Lib.hid (HB4.out.trans ((Ext.tr E6.out (Ext.tr e7 hb7)).mono HB4.out.size))
  clear e7 hb7
  go_wp2_with (fail)
  go_ret
  exact ⟨rfl, HB7.out⟩

end Go.Proofs.Ytgpcoljgpgamdaa
