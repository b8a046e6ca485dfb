/- Rows' lines stand no higher than what stands on them; the line of one cell alone. -/
import Derived.Test.YtgpcoljgpgamdaaZ
namespace Go.Proofs.Ytgpcoljgpgamdaa
open Go.RowKit Go.Shelf
set_option linter.unusedVariables false

theorem lineStep_ge (xs : List Cell) (out : List Int) (x : Bx xs) (r : Nat) : out[r]?.getD 0 ≤ (lineStep xs out x)[r]?.getD 0 := by
  unfold lineStep
  rw [List.getElem?_set]
  split
  · rename_i h
    split
    · rw [← h]; simp; omega
    · rename_i h2
      rw [List.getElem?_eq_none (by omega)]; simp
  · exact Int.le_refl _
theorem lineFold_ge (xs : List Cell) : ∀ (pre : List (Bx xs)) (out : List Int) (r : Nat), out[r]?.getD 0 ≤ (pre.foldl (lineStep xs) out)[r]?.getD 0
  | [], out, r => Int.le_refl _
  | x :: pre, out, r => Int.le_trans (lineStep_ge xs out x r) (lineFold_ge xs pre _ r)
theorem lineFold_mem (xs : List Cell) : ∀ (pre : List (Bx xs)) (out : List Int) (q : Bx xs), q ∈ pre → (xs[q.1]?.getD default).row.toNat < out.length → (xs[q.1]?.getD default).base ≤ (pre.foldl (lineStep xs) out)[(xs[q.1]?.getD default).row.toNat]?.getD 0
  | [], out, q, hq, hr => absurd hq (by simp)
  | x :: pre, out, q, hq, hr => by
    rcases List.mem_cons.1 hq with rfl | hq
    · refine Int.le_trans ?_ (lineFold_ge xs pre _ _)
      unfold lineStep
      rw [List.getElem?_set_self hr]
      simp only [Option.getD_some]
      omega
    · exact lineFold_mem xs pre _ q hq (by unfold lineStep; rw [List.length_set]; exact hr)
theorem basedTo_mem (xs : List Cell) : ∀ (k i : Nat) (h : i < xs.length ∧ isB (xs[i]?.getD default) = true), i < k → (⟨i, h⟩ : Bx xs) ∈ basedTo xs k
  | 0, i, h, hk => absurd hk (Nat.not_lt_zero _)
  | k + 1, i, h, hk => by
    by_cases e : i = k
    · subst e
      rw [basedTo_yes h]; simp
    · have := basedTo_mem xs k i h (by omega)
      simp only [basedTo]
      split
      · exact List.mem_append_left _ this
      · exact this
/-- a row's line is at least as deep as every base that stands on it -/
theorem line_ge (R : Nat) (xs : List Cell) (i : Nat) (hi : i < xs.length) (hb : isB (xs[i]?.getD default) = true) (hr : (xs[i]?.getD default).row.toNat < R) : (xs[i]?.getD default).base ≤ lineAt (linesC R xs) (xs[i]?.getD default) :=
  lineFold_mem xs (basedTo xs xs.length) (List.replicate R 0) ⟨i, hi, hb⟩ (basedTo_mem xs _ i ⟨hi, hb⟩ hi) (by rw [List.length_replicate]; exact hr)
/-- one cell alone needs its own height -/
theorem need_one (R : Nat) (x : Cell) (hr : x.row.toNat < R) (h0 : 0 ≤ x.base) : needOf (linesC R [x]) x = x.high := by
  unfold needOf
  split
  · rename_i hb
    have h : 0 < [x].length ∧ isB ([x][0]?.getD default) = true := ⟨by simp, by simpa using hb⟩
    have e : linesC R [x] = lineStep [x] (List.replicate R 0) ⟨0, h⟩ := by
      show List.foldl (lineStep [x]) (List.replicate R 0) (basedTo [x] 1) = _
      rw [basedTo_yes h]
      rfl
    have : lineAt (linesC R [x]) x = x.base := by
      rw [e]
      unfold lineAt lineStep
      simp only [List.getElem?_cons_zero, Option.getD_some]
      rw [List.getElem?_set_self (by rw [List.length_replicate]; exact hr)]
      simp [hr]
      omega
    omega
  · rfl

end Go.Proofs.Ytgpcoljgpgamdaa
