/- A cell's hidden border wins: the plain law of CollapseHidden. -/
import Derived.Test.YtmlcjiabnmdfeaaBE
namespace Go.Proofs.Ytmlcjiabnmdfeaa
open Go Go.RowKit Go.Shelf CT
set_option linter.unusedVariables false

theorem hid_wins {L : List CT.Side} {h : CT.Side} (hm : h ∈ L) (hh : h.style = 1) : (winY L).width = 0 := by
  unfold winY
  cases hb : bad L with
  | true => rfl
  | false =>
    rw [if_neg (by simp)]
    unfold bad at hb
    rw [Bool.or_eq_false_iff] at hb
    have hne : L ≠ [] := fun e => by subst e; cases hm
    have hw := wrongs_iff.1 hb.2 _ (led_mem L hne _ (Nat.le_refl _))
    have hl := leS_iff.1 (led_all hm)
    generalize led L L.length = y at *
    by_cases hy : y.style = 1
    · unfold CT.right CT.rightW at hw
      have hd : CT.drawn y.style = false := by rw [hy]; rfl
      rw [hd] at hw
      simp at hw
      omega
    · refine absurd ?_ hl
      unfold ord rank
      rw [if_pos hh, if_neg hy]
      rw [lex_cons, if_neg (by decide), if_pos (by decide)]
      decide
/-- a place has the slots that it lies on -/
theorem who_cov {f : Fr} (hR : 0 ≤ f.R) (hC : 0 ≤ f.C) (hok : okS f.pl f.R.toNat f.C.toNat = true) {k : Nat} (hk : k < f.pl.length) {r c : Int} (h : covI (f.pl[k]?.getD default) r c) : who f r c = k := by
  have key : ∀ m, k + 1 ≤ m → m ≤ f.pl.length → whoK f m r c = k := fun m h1 => by
    induction m with
    | zero => omega
    | succ m ih =>
      intro h2
      have ho := okP_of hok (show m < f.pl.length by omega)
      rw [whoK_succ hR hC (fit_of ho)]
      by_cases hkm : k = m
      · subst hkm; rw [if_pos h]
      · have i := ih (by omega) (by omega)
        rw [if_neg, i]
        intro hc
        have := whoK_free ho r c hc
        omega
  rw [whoK_all]
  exact key _ hk (Nat.le_refl _)
def hid4 : L4 := ⟨1, 0, 0, 1, 0, 0, 1, 0, 0, 1, 0, 0⟩
theorem hid_ask {f : Fr} {k : Nat} (hk : f.cl[k]?.getD default = hid4) (line : Nat) (hl : line < 4) : ∃ h ∈ cellAsk f k line, h.style = 1 := by
  refine ⟨cellSide f k line, ?_, ?_⟩
  · unfold cellAsk
    rw [if_neg (by omega), Int.toNat_natCast]
    exact List.mem_singleton.2 rfl
  · unfold cellSide
    rw [hk]
    rcases line with _ | _ | _ | _ | line
    · rfl
    · rfl
    · rfl
    · rfl
    · omega
/-- an edge at a side of a place whose borders are hidden has no width -/
theorem hid_edge {f : Fr} (hR : 0 ≤ f.R) (hC : 0 ≤ f.C) (hok : okS f.pl f.R.toNat f.C.toNat = true) {k : Nat} (hk : k < f.pl.length) (hh : f.cl[k]?.getD default = hid4) {x : Edge} (hx : x ∈ allE f) {s : Nat} (ht : hit (boxP (f.pl[k]?.getD default)) s x = true) : x.width = 0 := by
  have hfit := fit_of (okP_of hok hk)
  unfold fitP at hfit
  have hfit := of_decide_eq_true hfit
  have hcov : ∀ r c, covI (f.pl[k]?.getD default) r c → who f r c = k := fun r c h => who_cov hR hC hok hk h
  unfold covI at hcov
  generalize f.pl[k]?.getD default = p at *
  unfold hit inCols inRows boxP at ht
  dsimp only at ht
  unfold allE at hx
  rw [List.mem_append] at hx
  rcases hx with hx | hx
  · unfold lieAll at hx
    obtain ⟨r, hr, hx⟩ := List.mem_flatMap.1 hx
    unfold lieRow at hx
    obtain ⟨c, hc, hx⟩ := List.mem_flatMap.1 hx
    have hr := List.mem_range.1 hr
    have hc := List.mem_range.1 hc
    unfold lieAt at hx
    split at hx
    · cases hx
    · obtain rfl := List.mem_singleton.1 hx
      show (winY _).width = 0
      simp only [edgeOf] at ht
      by_cases s0 : s = 0
      · rw [if_pos s0] at ht
        simp at ht
        obtain ⟨⟨t1, t2⟩, t3⟩ := ht
        have t1 := of_decide_eq_true t1
        have t2 := of_decide_eq_true t2
        obtain ⟨y, hy, hs⟩ := hid_ask hh 0 (by decide)
        refine hid_wins (h := y) ?_ hs
        have hb := hcov r c ⟨by omega, by omega, by omega, by omega⟩
        unfold asked
        rw [hb]
        exact List.mem_append_right _ (List.mem_append_left _ hy)
      · rw [if_neg s0] at ht
        by_cases s2 : s = 2
        · rw [if_pos s2] at ht
          simp at ht
          obtain ⟨⟨t1, t2⟩, t3⟩ := ht
          have t1 := of_decide_eq_true t1
          have t2 := of_decide_eq_true t2
          obtain ⟨y, hy, hs⟩ := hid_ask hh 2 (by decide)
          refine hid_wins (h := y) ?_ hs
          have hb := hcov ((r : Int) - 1) c ⟨by omega, by omega, by omega, by omega⟩
          unfold asked
          rw [hb]
          exact List.mem_append_left _ hy
        · rw [if_neg s2] at ht
          split at ht <;> simp at ht
  · unfold standAll at hx
    obtain ⟨r, hr, hx⟩ := List.mem_flatMap.1 hx
    unfold standRow at hx
    obtain ⟨c, hc, hx⟩ := List.mem_flatMap.1 hx
    have hr := List.mem_range.1 hr
    have hc := List.mem_range.1 hc
    unfold standAt at hx
    split at hx
    · cases hx
    · obtain rfl := List.mem_singleton.1 hx
      show (winY _).width = 0
      simp only [edgeOf] at ht
      by_cases s0 : s = 0
      · rw [if_pos s0] at ht
        simp at ht
      · rw [if_neg s0] at ht
        by_cases s2 : s = 2
        · rw [if_pos s2] at ht
          simp at ht
        · rw [if_neg s2] at ht
          by_cases s3 : s = 3
          · rw [if_pos s3] at ht
            simp at ht
            obtain ⟨⟨t1, t2⟩, t3⟩ := ht
            have t1 := of_decide_eq_true t1
            have t2 := of_decide_eq_true t2
            obtain ⟨y, hy, hs⟩ := hid_ask hh 3 (by decide)
            refine hid_wins (h := y) ?_ hs
            have hb := hcov r c ⟨by omega, by omega, by omega, by omega⟩
            unfold asked
            rw [hb]
            exact List.mem_append_right _ (List.mem_append_left _ hy)
          · rw [if_neg s3] at ht
            simp at ht
            obtain ⟨⟨t1, t2⟩, t3⟩ := ht
            have t1 := of_decide_eq_true t1
            have t2 := of_decide_eq_true t2
            obtain ⟨y, hy, hs⟩ := hid_ask hh 1 (by decide)
            refine hid_wins (h := y) ?_ hs
            have hb := hcov r ((c : Int) - 1) ⟨by omega, by omega, by omega, by omega⟩
            unfold asked
            rw [hb]
            exact List.mem_append_left _ hy
theorem no_halves {l : List Edge} {b : Bx} {wi : Bool} {k : Nat} (h : ∀ x ∈ l, hit b k x = true → x.width = 0) : halvesOf l b wi k = 0 := by
  have key : ∀ (l : List Edge), (∀ x ∈ l, hit b k x = true → x.width = 0) → l.foldl (stepH b wi k) 0 = 0 := fun l => by
    induction l with
    | nil => intro _; rfl
    | cons x l ih =>
      intro h
      rw [List.foldl_cons]
      have e : stepH b wi k 0 x = 0 := by
        unfold stepH
        split
        · rename_i hx
          rw [h x List.mem_cons_self hx]
          cases (firstS k == wi) <;> rfl
        · rfl
      rw [e]
      exact ih fun y hy => h y (List.mem_cons_of_mem _ hy)
  exact key l h
/-- borders do not reach into a place whose own are hidden -/
theorem hid_inset {f : Fr} (hR : 0 ≤ f.R) (hC : 0 ≤ f.C) (hok : okS f.pl f.R.toNat f.C.toNat = true) {k : Nat} (hk : k < f.pl.length) (hh : f.cl[k]?.getD default = hid4) : insetP (allE f) (f.pl[k]?.getD default) = ⟨0, 0, 0, 0⟩ := by
  have h : ∀ s, halvesOf (allE f) (boxP (f.pl[k]?.getD default)) true s = 0 := fun s => no_halves fun x hx ht => hid_edge hR hC hok hk hh hx ht
  unfold insetP halves4
  rw [h, h, h, h]
end Go.Proofs.Ytmlcjiabnmdfeaa
