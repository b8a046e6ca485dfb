/- Contract of the laws' cut: at most the first sixty of some rectangles. -/
import Derived.Test.YtnlojbkjhlhogaaX
namespace Go.Proofs.Ytnlojbkjhlhogaa
open Go Go.RowKit IV
set_option linter.unusedVariables false

theorem Rects.take {w : World} {A : Option Addr} {xs : List Rect} (h : Rects w A xs) (n : Nat) : Rects w A (xs.take n) := fun j hj => by
  have h1 : j < n ∧ j < xs.length := by rw [List.length_take] at hj; omega
  obtain ⟨b, o, hA, hr⟩ := h j h1.2
  refine ⟨b, o, hA, ?_⟩
  rw [List.getElem?_take_of_lt h1.1]
  exact hr

set_option maxHeartbeats 1000000 in
theorem c17 (A : Option Addr) (xs : List Rect) (c : Nat) (w : World) (hl : xs.length ≤ 17592186044416) (hc : xs.length ≤ c) :
    Calls Try.prog 17 #[.slice A xs.length c] w fun e w' => e = .returned (.slice A (xs.take 60).length c) ∧ w = w' := by
  rw [List.length_take]
  by_cases h : 60 < xs.length
  · rw [show min 60 xs.length = 60 by omega]
    have t : (60 < (xs.length : Int)) = True := eq_true (by omega)
    have t1 : 60 ≤ c := by omega
    clear hl
    go_enter Try.func17, Try.ntmps17
    go_wp2_with (fail)
    go_ret
    exact ⟨rfl, rfl⟩
  · rw [show min 60 xs.length = xs.length by omega]
    have t : (60 < (xs.length : Int)) = False := eq_false (by omega)
    go_enter Try.func17, Try.ntmps17
    go_wp2_with (fail)
    go_ret
    exact ⟨rfl, rfl⟩
end Go.Proofs.Ytnlojbkjhlhogaa
