/- The law's cut; what align.Needs and the reference's Needs give. -/
import Derived.Test.YtgpcoljgpgamdaaQ
namespace Go.Proofs.Ytgpcoljgpgamdaa
open Go.RowKit Go.Shelf
set_option linter.unusedVariables false

def CutSaid (A : Option Addr) (n c : Nat) (w : World) (e : Ending) (w' : World) : Prop := ∃ m, (m = min n 100 ∧ e = .returned (.slice A m c)) ∧ w = w'
theorem cut11 (A : Option Addr) (n c : Nat) (w : World) (hc : n ≤ c) (hl : n ≤ 17592186044416) :
    Calls Try.prog 11 #[.slice A n c] w (CutSaid A n c w) := by
  by_cases h : n ≤ 100
  · go_enter Try.func11, Try.ntmps11
    go_wp2
    go_ret
    exact ⟨_, ⟨by omega, rfl⟩, rfl⟩
  · go_enter Try.func11, Try.ntmps11
    go_wp2
    go_ret
    exact ⟨_, ⟨by omega, rfl⟩, rfl⟩

end Go.Proofs.Ytgpcoljgpgamdaa
