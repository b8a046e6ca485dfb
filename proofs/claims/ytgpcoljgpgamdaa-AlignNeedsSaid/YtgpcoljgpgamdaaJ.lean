/- The contract of align.Needs: for wrong cells an error, for right ones what each needs. -/
import Derived.Test.YtgpcoljgpgamdaaI
import Derived.Test.YtgpcoljgpgamdaaPG
namespace Go.Proofs.Ytgpcoljgpgamdaa
open Go.RowKit Go.Shelf
attribute [local go_sem] Oper.semAt_some
set_option linter.unusedVariables false

theorem needs13_wrong (A : Option Addr) (xs : List Cell) (c : Nat) (rows : Int) (w : World) (hx : Cells w A xs) (hl : xs.length ≤ 17592186044416) (hr : rightC rows xs = false) :
    Calls Try.prog 13 #[.int .i64 rows, .slice A xs.length c] w fun e w' => e = .returned (.tuple #[.slice none 0 0, .int .i64 170]) ∧ Below w.heap.size w w' := by
  have H := Lib.hid (lines12_wrong A xs c rows w hx hl hr)
  clear hx hr
  go_enter Try.func13, Try.ntmps13
  go_wp2_with (fail)
  refine H.out.mono ?_
  rintro e w1 ⟨rfl, hb⟩
  have HB := Lib.hid (hb.alloc hb.size (.cells #[.slice none 0 0] 25))
  clear hb
  go_wp2_with (fail)
  go_ret2
  exact ⟨rfl, HB.out⟩

/-- a cell's line -/
def lineAt (L : List Int) (c : Cell) : Int := L[c.row.toNat]?.getD 0
def needStep (L : List Int) (xs : List Cell) (out : List Int) (j : Bx xs) : List Int :=
  out.set j.1 (out[j.1]?.getD 0 + lineAt L (xs[j.1]?.getD default) + -(xs[j.1]?.getD default).base)
def needFold (L : List Int) (xs : List Cell) (pre : List (Bx xs)) : List Int := pre.foldl (needStep L xs) (xs.map Cell.high)
theorem needFold_snoc (L : List Int) (xs : List Cell) (pre : List (Bx xs)) (x : Bx xs) : needFold L xs (pre ++ [x]) = needStep L xs (needFold L xs pre) x := by simp [needFold]
theorem needFold_aux (L : List Int) (xs : List Cell) : ∀ (pre : List (Bx xs)) (out : List Int), (pre.foldl (needStep L xs) out).length = out.length
  | [], out => rfl
  | x :: pre, out => by rw [List.foldl_cons, needFold_aux L xs pre, needStep, List.length_set]
theorem needFold_len (L : List Int) (xs : List Cell) (pre : List (Bx xs)) : (needFold L xs pre).length = xs.length := by rw [needFold, needFold_aux, List.length_map]
def within (K : Int) (m : Nat) (out : List Int) : Prop := ∀ i, i < out.length → -(m * K) ≤ out[i]?.getD 0 ∧ out[i]?.getD 0 ≤ m * K
theorem needFold_within (L : List Int) (xs : List Cell) (K : Int) (hK : 0 ≤ K) (hL : ∀ j : Bx xs, -K ≤ lineAt L (xs[j.1]?.getD default) + -(xs[j.1]?.getD default).base ∧ lineAt L (xs[j.1]?.getD default) + -(xs[j.1]?.getD default).base ≤ K) :
    ∀ (pre : List (Bx xs)) (m : Nat) (out : List Int), within K m out → within K (m + pre.length) (pre.foldl (needStep L xs) out)
  | [], m, out, h => h
  | x :: pre, m, out, h => by
    rw [List.foldl_cons]
    have := needFold_within L xs K hK hL pre (m + 1) (needStep L xs out x) (fun i hi => by
      unfold needStep at hi ⊢
      rw [List.length_set] at hi
      have h1 := h i hi
      have h2 := hL x
      have e : ((m + 1 : Nat) : Int) * K = m * K + K := by rw [Int.natCast_add, Int.add_mul]; simp
      rw [e]
      rw [List.getElem?_set]
      by_cases hx : x.1 = i
      · subst hx
        rw [if_pos rfl, if_pos hi, Option.getD_some]
        omega
      · rw [if_neg hx]; omega)
    rw [show m + (x :: pre).length = m + 1 + pre.length by simp; omega]
    exact this

/-- what a cell needs -/
def needOf (L : List Int) (c : Cell) : Int := if isB c = true then c.high + lineAt L c + -c.base else c.high
theorem needFold_eq (L : List Int) (xs : List Cell) : ∀ k, k ≤ xs.length → ∀ i, i < xs.length → (needFold L xs (basedTo xs k))[i]?.getD 0 = if i < k then needOf L (xs[i]?.getD default) else (xs[i]?.getD default).high
  | 0, _, i, hi => by simp [needFold, basedTo, hi]
  | k + 1, hk, i, hi => by
    have ih := needFold_eq L xs k (by omega)
    by_cases hb : isB (xs[k]?.getD default) = true
    · rw [basedTo_yes ⟨by omega, hb⟩, needFold_snoc]
      unfold needStep
      dsimp only
      rw [List.getElem?_set]
      by_cases hki : k = i
      · subst hki
        rw [if_pos rfl, needFold_len, if_pos hi, Option.getD_some, ih k hi, if_neg (by omega), if_pos (by omega)]
        unfold needOf
        rw [if_pos hb]
      · rw [if_neg hki, ih i hi]
        by_cases h : i < k
        · rw [if_pos h, if_pos (by omega)]
        · rw [if_neg h, if_neg (by omega)]
    · rw [basedTo_no (by simpa using hb), ih i hi]
      by_cases h : i < k
      · rw [if_pos h, if_pos (by omega)]
      · rw [if_neg h]
        by_cases hki : i = k
        · subst hki; rw [if_pos (by omega)]; unfold needOf; rw [if_neg hb]
        · rw [if_neg (by omega)]
theorem needFold_all (L : List Int) (xs : List Cell) : needFold L xs (basedTo xs xs.length) = xs.map (needOf L) := by
  apply List.ext_getElem?
  intro i
  by_cases hi : i < xs.length
  · have h := needFold_eq L xs xs.length (Nat.le_refl _) i hi
    rw [if_pos hi] at h
    rw [List.getElem?_map, List.getElem?_eq_getElem (by rw [needFold_len]; exact hi), List.getElem?_eq_getElem hi] at *
    simpa using h
  · rw [List.getElem?_eq_none (by rw [needFold_len]; omega), List.getElem?_eq_none (by simp; omega)]

/-- bounds of lines -/
theorem linesOf_bound {xs : List Cell} {K : Int} (hK : 0 ≤ K) (hb : ∀ j : Bx xs, (xs[j.1]?.getD default).base ≤ K) : ∀ (pre : List (Bx xs)) (out : List Int), (∀ i : Nat, 0 ≤ out[i]?.getD 0 ∧ out[i]?.getD 0 ≤ K) → ∀ i : Nat, 0 ≤ (pre.foldl (lineStep xs) out)[i]?.getD 0 ∧ (pre.foldl (lineStep xs) out)[i]?.getD 0 ≤ K
  | [], out, h, i => h i
  | x :: pre, out, h, i => by
    rw [List.foldl_cons]
    refine linesOf_bound hK hb pre _ (fun i => ?_) i
    unfold lineStep
    rw [List.getElem?_set]
    have h1 := h i
    have h2 := h (xs[x.1]?.getD default).row.toNat
    have h3 := hb x
    split
    · split
      · rw [Option.getD_some]; omega
      · simp; omega
    · exact h1
theorem lines_bound (R : Nat) {xs : List Cell} {K : Int} (hK : 0 ≤ K) (hb : ∀ j : Bx xs, (xs[j.1]?.getD default).base ≤ K) (pre : List (Bx xs)) (i : Nat) : 0 ≤ (linesOf R xs pre)[i]?.getD 0 ∧ (linesOf R xs pre)[i]?.getD 0 ≤ K := by
  refine linesOf_bound hK hb pre _ (fun i => ?_) i
  rw [List.getElem?_replicate]
  split <;> simp <;> omega

end Go.Proofs.Ytgpcoljgpgamdaa
