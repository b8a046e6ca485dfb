/- The walk of CollapseAll. -/
import Derived.Test.YtmlcjiabnmdfeaaBE
import Derived.Test.YtmlcjiabnmdfeaaAC
namespace Go.Proofs.Ytmlcjiabnmdfeaa
open Go Go.RowKit Go.Shelf CT
set_option linter.unusedVariables false

theorem allE_len' (f : Fr) (hC : f.C ≤ 8) (hR : f.R ≤ 8) : (allE f).length ≤ 1000 := by
  unfold allE
  rw [List.length_append]
  have := lieAll_len f hC (f.R.toNat + 1)
  have := standAll_len f hC f.R.toNat
  omega
theorem mul8 {a b : Int} (ha : 0 ≤ a) (ha8 : a ≤ 8) (hb : 0 ≤ b) (hb9 : b ≤ 9) : 0 ≤ a * b ∧ a * b ≤ 72 := by
  refine ⟨Int.mul_nonneg ha hb, ?_⟩
  have := Int.mul_le_mul ha8 hb9 hb (by decide : (0 : Int) ≤ 8)
  omega
/-- what a place takes away -/
def loss (p : Place) : Int := p.rows * (p.cols - 1) + p.cols * (p.rows - 1)
def lossTo (f : Fr) (k : Nat) : Int := ((f.pl.take k).map loss).sum
theorem lossTo_succ (f : Fr) {k : Nat} (h : k < f.pl.length) : lossTo f (k + 1) = lossTo f k + loss (f.pl[k]?.getD default) := by
  unfold lossTo
  rw [List.take_succ_eq_append_getElem h, List.map_append, List.sum_append, List.getElem?_eq_getElem h]
  simp
theorem loss_nat {p : Place} (h1 : 1 ≤ p.rows) (h2 : 1 ≤ p.cols) : loss p = ((lessS p + lessL p : Nat) : Int) := by
  obtain ⟨a, ha⟩ := Int.eq_ofNat_of_zero_le (show 0 ≤ p.rows - 1 by omega)
  obtain ⟨b, hb⟩ := Int.eq_ofNat_of_zero_le (show 0 ≤ p.cols - 1 by omega)
  have e1 : p.rows = (a : Int) + 1 := by omega
  have e2 : p.cols = (b : Int) + 1 := by omega
  unfold loss lessS lessL
  rw [e1, e2]
  have t1 : ((a : Int) + 1).toNat = a + 1 := by omega
  have t2 : ((b : Int) + 1).toNat = b + 1 := by omega
  rw [t1, t2, Nat.add_sub_cancel, Nat.add_sub_cancel, Int.add_sub_cancel, Int.add_sub_cancel]
  push_cast
  rw [Int.mul_comm ((b : Int) + 1) (a : Int)]
theorem lossTo_nat {f : Fr} (hp : ∀ k, k < f.pl.length → 1 ≤ (f.pl[k]?.getD default).rows ∧ 1 ≤ (f.pl[k]?.getD default).cols) : ∀ k, k ≤ f.pl.length → lossTo f k = ((((f.pl.take k).map lessS).sum + ((f.pl.take k).map lessL).sum : Nat) : Int)
  | 0, _ => by simp [lossTo]
  | k + 1, h => by
    have hk : k < f.pl.length := by omega
    rw [lossTo_succ f hk, lossTo_nat hp k (by omega), loss_nat (hp k hk).1 (hp k hk).2, List.take_succ_eq_append_getElem hk, List.map_append, List.map_append, List.sum_append, List.sum_append, List.getElem?_eq_getElem hk]
    simp
    omega
theorem lossTo_bound {f : Fr} (hp : ∀ k, k < f.pl.length → (1 ≤ (f.pl[k]?.getD default).rows ∧ (f.pl[k]?.getD default).rows ≤ 8) ∧ 1 ≤ (f.pl[k]?.getD default).cols ∧ (f.pl[k]?.getD default).cols ≤ 8) : ∀ k, k ≤ f.pl.length → 0 ≤ lossTo f k ∧ lossTo f k ≤ 144 * k
  | 0, _ => by simp [lossTo]
  | k + 1, h => by
    have hk : k < f.pl.length := by omega
    have ih := lossTo_bound hp k (by omega)
    have h1 := hp k hk
    rw [lossTo_succ f hk]
    unfold loss
    have m1 := mul8 (a := (f.pl[k]?.getD default).rows) (b := (f.pl[k]?.getD default).cols - 1) (by omega) (by omega) (by omega) (by omega)
    have m2 := mul8 (a := (f.pl[k]?.getD default).cols) (b := (f.pl[k]?.getD default).rows - 1) (by omega) (by omega) (by omega) (by omega)
    omega
/-- the count, in whole numbers -/
theorem count_int {f : Fr} (hok : okFr f = true) (hR : f.R ≤ 8) (hC : f.C ≤ 8) : ((allE f).length : Int) = f.R * (f.C + 1) + f.C * (f.R + 1) - lossTo f f.pl.length := by
  obtain ⟨h1, h2, h3, _⟩ := okFr_num hok
  unfold okZ at h1
  rw [Bool.and_eq_true] at h1
  have hc := allE_count h2 h3 h1.2
  rw [lossTo_nat (fun k hk => ⟨(place_in hok hR hC hk).1.2.1, (place_in hok hR hC hk).2.2.1⟩) _ (Nat.le_refl _), List.take_length]
  obtain ⟨a, ha⟩ := Int.eq_ofNat_of_zero_le h2
  obtain ⟨b, hb⟩ := Int.eq_ofNat_of_zero_le h3
  rw [ha, hb] at hc ⊢
  rw [Int.toNat_natCast, Int.toNat_natCast] at hc
  have e : ((a : Int) * ((b : Int) + 1) + (b : Int) * ((a : Int) + 1)) = (((a + 1) * b + a * (b + 1) : Nat) : Int) := by
    push_cast
    rw [Int.mul_comm (b : Int) ((a : Int) + 1)]
    omega
  rw [e, ← hc]
  omega
theorem no_places {f : Fr} (hok : okFr f = true) (hR : f.R ≤ 8) (hC : f.C ≤ 8) (h : f.R = 0 ∨ f.C = 0) : f.pl.length = 0 := by
  rcases Nat.eq_zero_or_pos f.pl.length with h0 | h0
  · exact h0
  · have := place_in hok hR hC h0
    omega
end Go.Proofs.Ytmlcjiabnmdfeaa
