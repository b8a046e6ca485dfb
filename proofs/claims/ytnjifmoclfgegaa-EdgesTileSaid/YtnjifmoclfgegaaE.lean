/- The contract of fixed.Add where no sum leaves the bounds. -/
import Derived.Test.YtnjifmoclfgegaaD
namespace Go.Proofs.Ytnjifmoclfgegaa
open Go.RowKit Go.Shelf

/-- the sum of the first k -/
def sm (xs : List Int) : Nat → Int
  | 0 => 0
  | k + 1 => sm xs k + xs[k]?.getD 0

set_option maxRecDepth 100000 in
set_option maxHeartbeats 2000000 in
/-- fixed.Add, where no sum leaves the bounds -/
theorem c28 (A : Option Addr) (xs : List Int) (c : Nat) (w : World) (hx : Ints w A xs) (hl : xs.length ≤ 17592186044416)
    (hb : ∀ k, k ≤ xs.length → -4611686018427387904 ≤ sm xs k ∧ sm xs k ≤ 4611686018427387904) (hb' : ∀ k, k < xs.length → -4611686018427387904 ≤ xs[k]?.getD 0 ∧ xs[k]?.getD 0 ≤ 4611686018427387904) :
    Calls Try.prog 28 #[.slice A xs.length c] w fun e w' => e = .returned (.int .i64 (sm xs xs.length)) ∧ w = w' := by
  have Hx := Lib.hid hx
  have Hb := Lib.hid hb
  have Hb' := Lib.hid hb'
  clear hx hb hb'
  go_enter Try.func28, Try.ntmps28
  go_wp2
  refine wp_scope_jumps 0 (fun a w' => w' = w ∧ ∃ (k : Nat) (s : Int) (v5 v6 v7 v8 v9 v10 v11 v12 v13 v14 v15 v16 v17 v18 v19 v20 v21 v22 v23 v24 v25 v26 v27 v28 v29 v30 v31 v32 v33 v34 v35 v36 v37 v38 v39 v40 v41 : Value), k ≤ xs.length ∧ Hid (s = sm xs k) ∧ a = { tmps := #[.slice A xs.length c, undef, .int .i64 0, .int .i64 s, .int .i64 k, v5, v6, v7, v8, v9, v10, v11, v12, v13, v14, v15, v16, v17, v18, v19, v20, v21, v22, v23, v24, v25, v26, v27, v28, v29, v30, v31, v32, v33, v34, v35, v36, v37, v38, v39, v40, v41], defers := [] })
    (fun a _ => xs.length - (intOf (a.tmps.getD 4 undef)).toNat) rfl ?first ?pass
  case first =>
    by_cases hlt : 0 < xs.length
    · obtain ⟨x, b, off, hxk, rfl, hc⟩ := Hx.out.get 0 hlt
      rw [Nat.add_zero] at hc
      have hxb := Hb'.out 0 hlt
      rw [hxk.out] at hxb
      have hsn : x = sm xs 1 := by simp only [sm]; rw [hxk.out]; omega
      have Hsn := Lib.hid hsn
      clear hsn
      have t1 : ((0 : Int) == (xs.length : Int)) = false := by rw [beq_eq_false_iff_ne]; omega
      have t2 : (0 == xs.length) = false := by rw [beq_eq_false_iff_ne]; omega
      rcases Int.lt_trichotomy x 0 with hx0 | hx0 | hx0
      · have t3 : ¬ 0 < x := by omega
        go_wp2_with (refine wp_label ?_)
        refine wp_goto ?_
        exact ⟨rfl, rfl, 1, x, _, _, _, _, _, _, _, _, _, _, _, _, _, _, _, _, _, _, _, _, _, _, _, _, _, _, _, _, _, _, _, _, _, _, _, _, _, by omega, Hsn, rfl⟩
      · subst hx0
        go_wp2_with (refine wp_label ?_)
        refine wp_goto ?_
        exact ⟨rfl, rfl, 1, 0, _, _, _, _, _, _, _, _, _, _, _, _, _, _, _, _, _, _, _, _, _, _, _, _, _, _, _, _, _, _, _, _, _, _, _, _, _, by omega, Hsn, rfl⟩
      · have t3 : ¬ x < 0 := by omega
        go_wp2_with (refine wp_label ?_)
        refine wp_goto ?_
        exact ⟨rfl, rfl, 1, x, _, _, _, _, _, _, _, _, _, _, _, _, _, _, _, _, _, _, _, _, _, _, _, _, _, _, _, _, _, _, _, _, _, _, _, _, _, by omega, Hsn, rfl⟩
    · have h0 : xs.length = 0 := by omega
      have t1 : ((0 : Int) == (xs.length : Int)) = true := by rw [beq_iff_eq]; omega
      have t2 : (0 == xs.length) = true := by rw [beq_iff_eq]; omega
      have H0 := Lib.hid h0
      clear h0 hlt
      go_wp2_with (refine wp_label ?_)
      exact ⟨rfl, _, results_tmp rfl _ _ _, by rw [H0.out]; rfl, rfl⟩
  case pass =>
    rintro a w' ⟨rfl, k, s, v5, v6, v7, v8, v9, v10, v11, v12, v13, v14, v15, v16, v17, v18, v19, v20, v21, v22, v23, v24, v25, v26, v27, v28, v29, v30, v31, v32, v33, v34, v35, v36, v37, v38, v39, v40, v41, hk, hs, rfl⟩
    have hsb := Hb.out k hk
    rw [← hs.out] at hsb
    by_cases hlt : k < xs.length
    · obtain ⟨x, b, off, hxk, rfl, hc⟩ := Hx.out.get k hlt
      have hxb := Hb'.out k hlt
      rw [hxk.out] at hxb
      have t1 : (k == xs.length) = false := by rw [beq_eq_false_iff_ne]; omega
      have hsn : s + x = sm xs (k + 1) := by simp only [sm]; rw [hxk.out, hs.out]
      have hsx := Hb.out (k + 1) hlt
      rw [← hsn] at hsx
      have Hsn := Lib.hid hsn
      clear hsn
      rcases Int.lt_trichotomy x 0 with hx0 | hx0 | hx0
      · have t3 : ¬ 0 < x := by omega
        have t4 : ¬ s < s + x := by omega
        go_wp2
        refine wp_goto ?_
        exact ⟨rfl, ⟨rfl, k + 1, s + x, _, _, _, _, _, _, _, _, _, _, _, _, _, _, _, _, _, _, _, _, _, _, _, _, _, _, _, _, _, _, _, _, _, _, _, _, _, by omega, Hsn, rfl⟩, by simp [intOf]; omega⟩
      · subst hx0
        rw [Int.add_zero] at Hsn
        go_wp2
        refine wp_goto ?_
        exact ⟨rfl, ⟨rfl, k + 1, s, _, _, _, _, _, _, _, _, _, _, _, _, _, _, _, _, _, _, _, _, _, _, _, _, _, _, _, _, _, _, _, _, _, _, _, _, _, by omega, Hsn, rfl⟩, by simp [intOf]; omega⟩
      · have t3 : ¬ x < 0 := by omega
        have t4 : s < s + x := by omega
        go_wp2
        refine wp_goto ?_
        exact ⟨rfl, ⟨rfl, k + 1, s + x, _, _, _, _, _, _, _, _, _, _, _, _, _, _, _, _, _, _, _, _, _, _, _, _, _, _, _, _, _, _, _, _, _, _, _, _, _, by omega, Hsn, rfl⟩, by simp [intOf]; omega⟩
    · obtain rfl : k = xs.length := by omega
      go_wp2
      exact ⟨rfl, _, results_tmp rfl _ _ _, by rw [← hs.out]; rfl, rfl⟩

end Go.Proofs.Ytnjifmoclfgegaa
