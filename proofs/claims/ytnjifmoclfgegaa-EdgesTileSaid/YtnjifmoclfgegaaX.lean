/- The gutters, as a list of rectangles, and the bounds of their numbers. -/
import Derived.Test.YtnjifmoclfgegaaW
namespace Go.Proofs.Ytnjifmoclfgegaa
open Go.RowKit Go.Shelf
set_option linter.unusedVariables false

/-- where gap k begins -/
def gx (gap : Int) (xs : List Int) : Nat → Int
  | 0 => 0
  | k + 1 => st gap xs k + xs[k]?.getD 0
theorem gx_bounds {xs : List Int} {gap : Int} (h : right xs gap = true) : ∀ k, k ≤ xs.length → 0 ≤ gx gap xs k ∧ gx gap xs k ≤ 25000000000000
  | 0, _ => by simp only [gx]; omega
  | k + 1, hk => by
    have h1 := (right_iff.1 h).1
    have h2 := st_bounds h k (by omega)
    have h3 := (right_iff.1 h).2.2 k (by omega)
    simp only [gx]
    omega
theorem st_bound {xs : List Int} {gap : Int} (h : right xs gap = true) {k : Nat} (hk : k ≤ xs.length) : 0 ≤ st gap xs k ∧ st gap xs k ≤ 25000000000000 := by
  have h1 := (right_iff.1 h).1
  have h2 := st_bounds h k hk
  omega
theorem ext_bound {xs : List Int} {gap : Int} (h : right xs gap = true) : 0 ≤ ext gap xs ∧ ext gap xs ≤ 25000000000000 := by
  unfold ext
  split
  · omega
  · exact st_bound h (Nat.le_refl _)
def gutV (gap high : Int) (cols : List Int) (i : Nat) : Rect := ⟨gx gap cols i, 0, gap, high⟩
def gutH (cols rows : List Int) (g0 g1 : Int) (k i : Nat) : Rect := ⟨st g0 cols i, gx g1 rows k, cols[i]?.getD 0, g1⟩
def rowsTo (cols rows : List Int) (g0 g1 : Int) : Nat → List Rect
  | 0 => []
  | k + 1 => rowsTo cols rows g0 g1 k ++ upto (gutH cols rows g0 g1 k) cols.length
theorem rowsTo_length (cols rows : List Int) (g0 g1 : Int) : ∀ k, (rowsTo cols rows g0 g1 k).length = k * cols.length
  | 0 => by simp [rowsTo]
  | k + 1 => by simp only [rowsTo, List.length_append, rowsTo_length cols rows g0 g1 k, upto_length]; rw [Nat.succ_mul]
def guts (cols rows : List Int) (g0 g1 : Int) : List Rect := upto (gutV g0 (ext g1 rows) cols) (cols.length + 1) ++ rowsTo cols rows g0 g1 (rows.length + 1)
theorem rect_small {x y w h : Int} (h1 : 0 ≤ x ∧ x ≤ 25000000000000) (h2 : 0 ≤ y ∧ y ≤ 25000000000000) (h3 : 0 ≤ w ∧ w ≤ 25000000000000) (h4 : 0 ≤ h ∧ h ≤ 25000000000000) : (⟨x, y, w, h⟩ : Rect).small := by
  unfold Rect.small
  dsimp only
  omega

end Go.Proofs.Ytnjifmoclfgegaa
