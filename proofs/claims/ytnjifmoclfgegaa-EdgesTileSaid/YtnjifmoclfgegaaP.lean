/- The plain law of EdgesWithin: a span that fits begins behind the gap and ends ahead of the last gap. -/
import Derived.Test.YtnjifmoclfgegaaM
namespace Go.Proofs.Ytnjifmoclfgegaa
open Go.RowKit Go.Shelf
set_option linter.unusedVariables false

theorem st_rise {xs : List Int} {gap : Int} (hr : right xs gap = true) : ∀ (a d : Nat), a + d ≤ xs.length → st gap xs a ≤ st gap xs (a + d)
  | a, 0, _ => by simp
  | a, d + 1, h => by
    have ih := st_rise hr a d (by omega)
    have h1 := (right_iff.1 hr).2.1
    have h2 := (right_iff.1 hr).2.2 (a + d) (by omega)
    show st gap xs a ≤ st gap xs (a + d + 1)
    simp only [st]
    omega
theorem st_gap {xs : List Int} {gap : Int} (hr : right xs gap = true) (a : Nat) (h : a ≤ xs.length) : gap ≤ st gap xs a := by
  have := st_rise hr 0 a (by omega)
  rw [Nat.zero_add] at this
  exact this
/-- where a span ends -/
theorem sp_end {xs : List Int} {gap : Int} (hr : right xs gap = true) (a n : Nat) (hn : 1 ≤ n) (h : a + n ≤ xs.length) : st gap xs a + sp gap xs a n ≤ ext gap xs - gap := by
  have h1 := st_rise hr (a + n) (xs.length - (a + n)) (by omega)
  rw [show a + n + (xs.length - (a + n)) = xs.length from by omega] at h1
  have h2 : st gap xs (a + n) = st gap xs (a + n - 1) + (xs[a + n - 1]?.getD 0 + gap) := by
    obtain ⟨m, rfl⟩ : ∃ m, n = m + 1 := ⟨n - 1, by omega⟩
    show st gap xs (a + m + 1) = _
    rw [show a + (m + 1) - 1 = a + m from by omega]
    simp only [st]
  unfold sp ext
  rw [if_neg (by omega), if_neg (by omega)]
  omega
/-- a rectangle of a place that fits -/
theorem rect_within {cols rows : List Int} {g0 g1 : Int} (h1 : right cols g0 = true) (h2 : right rows g1 = true) (p : Place) (hp : fits p rows.length cols.length = true) :
    g0 ≤ (rectOf cols rows g0 g1 p).x ∧ g1 ≤ (rectOf cols rows g0 g1 p).y ∧ (rectOf cols rows g0 g1 p).x + (rectOf cols rows g0 g1 p).w ≤ ext g0 cols - g0 ∧ (rectOf cols rows g0 g1 p).y + (rectOf cols rows g0 g1 p).h ≤ ext g1 rows - g1 := by
  obtain ⟨⟨f1, f2, f3, f4⟩, f5, f6⟩ := fits_iff.1 hp
  unfold rectOf
  dsimp only
  exact ⟨st_gap h1 _ (by omega), st_gap h2 _ (by omega), sp_end h1 _ _ (by omega) (by omega), sp_end h2 _ _ (by omega) (by omega)⟩

end Go.Proofs.Ytnjifmoclfgegaa
