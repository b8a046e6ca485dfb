/- Two halves of a border make its width: the plain law of CollapseShares. -/
import Derived.Test.YtmlcjiabnmdfeaaY
namespace Go.Proofs.Ytmlcjiabnmdfeaa
open Go Go.RowKit Go.Shelf CT
set_option linter.unusedVariables false

/-- a framing of one row with two cells -/
def shareF (p q : Nat) (a b t : L4) : Fr := ⟨1, 2, some ⟨p, 0, none⟩, [⟨0, 0, 0, 1, 1⟩, ⟨0, 0, 1, 1, 1⟩], 2, some ⟨q, 0, none⟩, [a, b], 2, none, [], 0, none, [], 0, none, [], 0, none, [], 0, t⟩
theorem half_sum {n : Int} (h : 0 ≤ n) : CT.half n true + CT.half n false = n := by
  unfold CT.half
  have h0 : ¬ n < 0 := by omega
  rw [if_neg h0, if_neg h0, if_pos rfl, if_neg (by decide)]
  omega
theorem mx_zero {n : Int} (h : 0 ≤ n) : mx 0 n = n := by
  unfold mx
  split <;> omega
theorem winY_low (L : List CT.Side) : 0 ≤ (winY L).width := by
  unfold winY
  cases hb : bad L with
  | true => exact Int.le_refl _
  | false =>
    rw [if_neg (by simp)]
    unfold bad at hb
    rw [Bool.or_eq_false_iff] at hb
    have hne : L ≠ [] := fun e => by subst e; simp at hb
    have := (right_width (wrongs_iff.1 hb.2 _ (led_mem L hne _ (Nat.le_refl _)))).1
    omega
section
variable (p q : Nat) (a b t : L4)
theorem share_all : allE (shareF p q a b t) = [edgeOf 0 0 true (asked (shareF p q a b t) false 0 0 (-1) 0), edgeOf 0 1 true (asked (shareF p q a b t) false 0 1 (-1) 1), edgeOf 1 0 true (asked (shareF p q a b t) false 1 0 0 (-1)), edgeOf 1 1 true (asked (shareF p q a b t) false 1 1 1 (-1)),
    edgeOf 0 0 false (asked (shareF p q a b t) true 0 0 (-1) 0), edgeOf 0 1 false (asked (shareF p q a b t) true 1 0 0 1), edgeOf 0 2 false (asked (shareF p q a b t) true 2 0 1 (-1))] := by
  rfl
theorem share_law : ∀ x ∈ allE (shareF p q a b t), x.lies = false →
    (x.col = 1 → halvesOf (allE (shareF p q a b t)) ⟨0, 0, 1, 1⟩ true 1 + halvesOf (allE (shareF p q a b t)) ⟨0, 1, 1, 2⟩ true 3 = x.width) ∧
    (x.col = 0 → halvesOf (allE (shareF p q a b t)) ⟨0, 0, 1, 1⟩ true 3 + halvesOf (allE (shareF p q a b t)) ⟨0, 0, 1, 2⟩ false 3 = x.width) ∧
    (x.col = 2 → halvesOf (allE (shareF p q a b t)) ⟨0, 1, 1, 2⟩ true 1 + halvesOf (allE (shareF p q a b t)) ⟨0, 0, 1, 2⟩ false 1 = x.width) := by
  rw [share_all]
  generalize asked (shareF p q a b t) false 0 0 (-1) 0 = L0
  generalize asked (shareF p q a b t) false 0 1 (-1) 1 = L1
  generalize asked (shareF p q a b t) false 1 0 0 (-1) = L2
  generalize asked (shareF p q a b t) false 1 1 1 (-1) = L3
  generalize asked (shareF p q a b t) true 0 0 (-1) 0 = L4
  generalize asked (shareF p q a b t) true 1 0 0 1 = L5
  generalize asked (shareF p q a b t) true 2 0 1 (-1) = L6
  have h1 : halvesOf [edgeOf 0 0 true L0, edgeOf 0 1 true L1, edgeOf 1 0 true L2, edgeOf 1 1 true L3, edgeOf 0 0 false L4, edgeOf 0 1 false L5, edgeOf 0 2 false L6] ⟨0, 0, 1, 1⟩ true 1 = mx 0 (CT.half (winY L5).width false) := rfl
  have h2 : halvesOf [edgeOf 0 0 true L0, edgeOf 0 1 true L1, edgeOf 1 0 true L2, edgeOf 1 1 true L3, edgeOf 0 0 false L4, edgeOf 0 1 false L5, edgeOf 0 2 false L6] ⟨0, 1, 1, 2⟩ true 3 = mx 0 (CT.half (winY L5).width true) := rfl
  have h3 : halvesOf [edgeOf 0 0 true L0, edgeOf 0 1 true L1, edgeOf 1 0 true L2, edgeOf 1 1 true L3, edgeOf 0 0 false L4, edgeOf 0 1 false L5, edgeOf 0 2 false L6] ⟨0, 0, 1, 1⟩ true 3 = mx 0 (CT.half (winY L4).width true) := rfl
  have h4 : halvesOf [edgeOf 0 0 true L0, edgeOf 0 1 true L1, edgeOf 1 0 true L2, edgeOf 1 1 true L3, edgeOf 0 0 false L4, edgeOf 0 1 false L5, edgeOf 0 2 false L6] ⟨0, 0, 1, 2⟩ false 3 = mx 0 (CT.half (winY L4).width false) := rfl
  have h5 : halvesOf [edgeOf 0 0 true L0, edgeOf 0 1 true L1, edgeOf 1 0 true L2, edgeOf 1 1 true L3, edgeOf 0 0 false L4, edgeOf 0 1 false L5, edgeOf 0 2 false L6] ⟨0, 1, 1, 2⟩ true 1 = mx 0 (CT.half (winY L6).width false) := rfl
  have h6 : halvesOf [edgeOf 0 0 true L0, edgeOf 0 1 true L1, edgeOf 1 0 true L2, edgeOf 1 1 true L3, edgeOf 0 0 false L4, edgeOf 0 1 false L5, edgeOf 0 2 false L6] ⟨0, 0, 1, 2⟩ false 1 = mx 0 (CT.half (winY L6).width true) := rfl
  rw [h1, h2, h3, h4, h5, h6]
  simp only [mx_zero (half_low _ _)]
  have s4 := half_sum (winY_low L4)
  have s5 := half_sum (winY_low L5)
  have s6 := half_sum (winY_low L6)
  intro x hx hl
  simp only [List.mem_cons, List.not_mem_nil, or_false] at hx
  rcases hx with rfl | rfl | rfl | rfl | rfl | rfl | rfl <;> simp only [edgeOf] at hl ⊢ <;> first | (exact absurd hl (by decide)) | (refine ⟨fun h => ?_, fun h => ?_, fun h => ?_⟩ <;> first | (exact absurd h (by decide)) | omega)
end
end Go.Proofs.Ytmlcjiabnmdfeaa
