/- Contracts of rect.Tiles (any arguments), of the laws' shown and cut; plain facts on tiling by one and by nothing. -/
import Derived.Test.YtnlojbkjhlhogaaO
namespace Go.Proofs.Ytnlojbkjhlhogaa
open Go Go.RowKit IV
set_option linter.unusedVariables false

theorem c19 (r : Rect) (A : Option Addr) (xs : List Rect) (c : Nat) (w : World) (hx : Rects w A xs) (hl : xs.length ≤ 1000000) :
    Calls Try.prog 19 #[.agg r.arr, .slice A xs.length c] w fun e w' => e = .returned (.tuple #[.bool (tiles r xs), .int .i64 (erT r xs)]) ∧ Below w.heap.size w w' := by
  unfold tiles erT
  cases ho : okT r xs with
  | false =>
    rw [if_neg (by simp), Bool.false_and]
    exact c19_wrong r A xs c w hx hl ho
  | true =>
    rw [if_pos rfl, Bool.true_and]
    have h := okT_iff.1 ho
    exact c19_ok r A xs c w hx h.2.1 h.1 h.2.2

theorem rects_one (w : World) (a : Rect) (t : TypeId) : Rects (w.alloc (.cells #[.int .i64 a.x, .int .i64 a.y, .int .i64 a.w, .int .i64 a.h] t)) (some ⟨w.heap.size, 0, none⟩) [a] := fun j hj => by
  refine ⟨w.heap.size, 0, rfl, ?_⟩
  have c : ∀ i, (w.alloc (.cells #[.int .i64 a.x, .int .i64 a.y, .int .i64 a.w, .int .i64 a.h] t)).cell? ⟨w.heap.size, i, none⟩ = (#[.int .i64 a.x, .int .i64 a.y, .int .i64 a.w, .int .i64 a.h] : Array Value)[i]? := fun i => by
    unfold World.cell?; rw [heap_alloc_new]; rfl
  match j, hj with
  | 0, _ => exact ⟨c 0, c 1, c 2, c 3⟩
/-- as they are called: behind a slice that is new -/
theorem k19_one (r a : Rect) (w W : World) (h : Nat) (hh : w.heap.size = h) (hW : W = w.alloc (.cells #[.int .i64 a.x, .int .i64 a.y, .int .i64 a.w, .int .i64 a.h] 23)) :
    Calls Try.prog 19 #[.agg #[.int .i64 r.x, .int .i64 r.y, .int .i64 r.w, .int .i64 r.h], .slice (some ⟨h, 0, none⟩) 1 1] W fun e w' => e = .returned (.tuple #[.bool (tiles r [a]), .int .i64 (erT r [a])]) ∧ Below W.heap.size W w' := by
  subst hW
  subst hh
  exact c19 r (some ⟨w.heap.size, 0, none⟩) [a] 1 _ (rects_one w a 23) (by simp)
theorem k19_two (r a b : Rect) (w W : World) (h : Nat) (hh : w.heap.size = h) (hW : W = w.alloc (.cells #[.int .i64 a.x, .int .i64 a.y, .int .i64 a.w, .int .i64 a.h, .int .i64 b.x, .int .i64 b.y, .int .i64 b.w, .int .i64 b.h] 23)) :
    Calls Try.prog 19 #[.agg #[.int .i64 r.x, .int .i64 r.y, .int .i64 r.w, .int .i64 r.h], .slice (some ⟨h, 0, none⟩) 2 2] W fun e w' => e = .returned (.tuple #[.bool (tiles r [a, b]), .int .i64 (erT r [a, b])]) ∧ Below W.heap.size W w' := by
  subst hW
  subst hh
  exact c19 r (some ⟨w.heap.size, 0, none⟩) [a, b] 2 _ (rects_two w a b 23) (by simp)
theorem k16_one (a : Rect) (w W : World) (h : Nat) (hh : w.heap.size = h) (hW : W = w.alloc (.cells #[.int .i64 a.x, .int .i64 a.y, .int .i64 a.w, .int .i64 a.h] 23)) :
    Calls Try.prog 16 #[.slice (some ⟨h, 0, none⟩) 1 1] W fun e w' => e = .returned (.tuple #[.agg (around [a]).arr, .int .i64 (erA [a])]) ∧ Below W.heap.size W w' := by
  subst hW
  subst hh
  exact c16 (some ⟨w.heap.size, 0, none⟩) [a] 1 _ (rects_one w a 23) (by simp)

set_option maxHeartbeats 2000000 in
theorem shown (w : World) : Calls Try.prog 11 #[] w fun e w' => e = .returned (.bool true) ∧ Below w.heap.size w w' := by
  have C1 : Hid (∀ W, Calls Try.prog 12 #[.agg #[.int .i64 0, .int .i64 0, .int .i64 4, .int .i64 4], .agg #[.int .i64 2, .int .i64 3, .int .i64 9, .int .i64 9]] W fun e w' => e = .returned (.tuple #[.agg #[.int .i64 2, .int .i64 3, .int .i64 2, .int .i64 1], .int .i64 0]) ∧ Below W.heap.size W w') := Lib.hid fun W => by
    have h := c12 ⟨0, 0, 4, 4⟩ ⟨2, 3, 9, 9⟩ W
    rw [show meet ⟨0, 0, 4, 4⟩ ⟨2, 3, 9, 9⟩ = ⟨2, 3, 2, 1⟩ by decide, show erM ⟨0, 0, 4, 4⟩ ⟨2, 3, 9, 9⟩ = 0 by decide] at h
    exact h
  have C2 : Hid (∀ (w W : World) (h : Nat), w.heap.size = h → W = w.alloc (.cells #[.int .i64 0, .int .i64 0, .int .i64 1, .int .i64 2, .int .i64 1, .int .i64 0, .int .i64 1, .int .i64 2] 23) →
      Calls Try.prog 19 #[.agg #[.int .i64 0, .int .i64 0, .int .i64 2, .int .i64 2], .slice (some ⟨h, 0, none⟩) 2 2] W fun e w' => e = .returned (.tuple #[.bool true, .int .i64 0]) ∧ Below W.heap.size W w') := Lib.hid fun w W h h1 h2 => by
    have h := k19_two ⟨0, 0, 2, 2⟩ ⟨0, 0, 1, 2⟩ ⟨1, 0, 1, 2⟩ w W h h1 h2
    rw [show tiles ⟨0, 0, 2, 2⟩ [⟨0, 0, 1, 2⟩, ⟨1, 0, 1, 2⟩] = true by decide, show erT ⟨0, 0, 2, 2⟩ [⟨0, 0, 1, 2⟩, ⟨1, 0, 1, 2⟩] = 0 by decide] at h
    exact h
  have C3 : Hid (∀ (w W : World) (h : Nat), w.heap.size = h → W = w.alloc (.cells #[.int .i64 0, .int .i64 0, .int .i64 (-1), .int .i64 0] 23) →
      Calls Try.prog 16 #[.slice (some ⟨h, 0, none⟩) 1 1] W fun e w' => e = .returned (.tuple #[.agg #[.int .i64 0, .int .i64 0, .int .i64 0, .int .i64 0], .int .i64 20]) ∧ Below W.heap.size W w') := Lib.hid fun w W h h1 h2 => by
    have h := k16_one ⟨0, 0, -1, 0⟩ w W h h1 h2
    rw [show around [⟨0, 0, -1, 0⟩] = ⟨0, 0, 0, 0⟩ by decide, show erA [⟨0, 0, -1, 0⟩] = 20 by decide] at h
    exact h
  go_enter Try.func11, Try.ntmps11
  go_wp2_with (fail)
  refine (C1.out _).mono ?_
  rintro e w1 ⟨rfl, hb1⟩
  have hb2 : Below w1.heap.size w1 (w1.alloc (.cells (Rect.arr ⟨2, 3, 2, 1⟩) 23)) := (Below.refl _ w1).alloc (Nat.le_refl _) _
  have R1 := Lib.hid (RRow.new w1 ⟨2, 3, 2, 1⟩)
  have HB1 := Lib.hid (hb1.trans (hb2.mono hb1.size))
  unfold Rect.arr at R1 HB1
  dsimp only at R1 HB1
  clear hb1 hb2
  go_wp2_with (fail)
  generalize hq : w1.alloc (.cells #[.int .i64 2, .int .i64 3, .int .i64 2, .int .i64 1] 23) = w2 at *
  have hsz : w2.heap.size = w1.heap.size + 1 := by rw [← hq]; simp
  refine (C2.out w2 _ _ hsz rfl).mono ?_
  rintro e w3 ⟨rfl, hb3⟩
  have hb4 := ((Below.refl _ w2).alloc (Nat.le_refl _) (.cells #[.int .i64 0, .int .i64 0, .int .i64 1, .int .i64 2, .int .i64 1, .int .i64 0, .int .i64 1, .int .i64 2] 23)).trans (hb3.mono (by simp))
  have R3 := Lib.hid (R1.out.turn hb4)
  have HB3 := Lib.hid (HB1.out.trans (hb4.mono HB1.out.size))
  clear hb3 hb4 R1 HB1 hsz hq
  go_wp2_with (fail)
  refine (C3.out w3 _ _ rfl rfl).mono ?_
  rintro e w5 ⟨rfl, hb5⟩
  have hb6 := ((Below.refl _ w3).alloc (Nat.le_refl _) (.cells #[.int .i64 0, .int .i64 0, .int .i64 (-1), .int .i64 0] 23)).trans (hb5.mono (by simp))
  have hb7 := hb6.trans (((Below.refl _ w5).alloc (Nat.le_refl _) (.cells #[.int .i64 0, .int .i64 0, .int .i64 0, .int .i64 0] 23)).mono hb6.size)
  have R5 := Lib.hid (R3.out.turn hb7)
  have HB5 := Lib.hid (HB3.out.trans (hb7.mono HB3.out.size))
  have m0 : (w5.alloc (.cells #[.int .i64 0, .int .i64 0, .int .i64 0, .int .i64 0] 23)).cell? ⟨w1.heap.size, 0, none⟩ = some (.int .i64 2) := R5.out.cells.1
  have m1 : (w5.alloc (.cells #[.int .i64 0, .int .i64 0, .int .i64 0, .int .i64 0] 23)).cell? ⟨w1.heap.size, 1, none⟩ = some (.int .i64 3) := R5.out.cells.2.1
  have m2 : (w5.alloc (.cells #[.int .i64 0, .int .i64 0, .int .i64 0, .int .i64 0] 23)).cell? ⟨w1.heap.size, 2, none⟩ = some (.int .i64 2) := R5.out.cells.2.2.1
  have m3 : (w5.alloc (.cells #[.int .i64 0, .int .i64 0, .int .i64 0, .int .i64 0] 23)).cell? ⟨w1.heap.size, 3, none⟩ = some (.int .i64 1) := R5.out.cells.2.2.2
  clear hb5 hb6 hb7 R3 HB3
  go_wp2_with (fail)
  go_ret
  exact ⟨rfl, HB5.out⟩

end Go.Proofs.Ytnlojbkjhlhogaa
