/- The plain laws of the order of sides, and the walk of ContestHalves. -/
import Derived.Test.YtffnnfdlelaonaaG
import Derived.Test.YtffnnfdlelaonaaH
namespace Go.Proofs.Ytffnnfdlelaonaa
open Go.RowKit Go.Shelf
set_option linter.unusedVariables false

theorem half_both (n : Int) (h : 0 ≤ n) : half n true + half n false = n := by
  unfold half
  have h' : ¬ n < 0 := by omega
  simp only [if_neg h', if_true, Bool.false_eq_true, if_false]
  omega
theorem half_bounds (n : Int) (f : Bool) (h : 0 ≤ n) : 0 ≤ half n f ∧ half n f ≤ n := by
  unfold half
  rw [if_neg (by omega)]
  cases f
  · rw [if_neg (by simp)]; omega
  · rw [if_pos rfl]; omega

theorem halves_walk (n : Int) (first : Bool) (w : World) (hl : -9223372036854775808 ≤ n) (hn : n ≤ 9223372036854775807) :
    Calls Try.prog 3 #[.int .i64 n, .bool first] w fun e w' => e = .returned (.bool true) ∧ Below w.heap.size w w' := by
  have H12 := Lib.hid (fun f W => c12 n f W hn)
  have H13 := Lib.hid (fun f W => c13 n f W hl hn)
  by_cases h : n < 0
  · generalize half n first = x at *
    go_enter Try.func3, Try.ntmps3
    go_wp2_with (first | (go_at_call 11; refine (c11 _).mono ?_; rintro e w1 ⟨rfl, hb⟩) | (go_at_call 12; refine (H12.out _ _).mono ?_; rintro e w2 ⟨rfl, rfl⟩) | (go_at_call 13; refine (H13.out _ _).mono ?_; rintro e w2 ⟨rfl, rfl⟩))
    go_ret
    exact ⟨rfl, hb⟩
  · have hb := half_both n (by omega)
    have h1 := half_bounds n true (by omega)
    have h2 := half_bounds n false (by omega)
    generalize half n = g at *
    subst hb
    go_enter Try.func3, Try.ntmps3
    go_wp2_with (first | (go_at_call 11; refine (c11 _).mono ?_; rintro e w1 ⟨rfl, hb⟩) | (go_at_call 12; refine (H12.out _ _).mono ?_; rintro e w2 ⟨rfl, rfl⟩) | (go_at_call 13; refine (H13.out _ _).mono ?_; rintro e w2 ⟨rfl, rfl⟩))
    go_ret
    exact ⟨rfl, hb⟩

end Go.Proofs.Ytffnnfdlelaonaa
