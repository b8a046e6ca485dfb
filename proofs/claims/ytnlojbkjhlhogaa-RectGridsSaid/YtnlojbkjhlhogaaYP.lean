/- Plain law: what the reference's Tiles asks is what rect.Tiles asks. -/
import Derived.Test.YtnlojbkjhlhogaaYA
namespace Go.Proofs.Ytnlojbkjhlhogaa
open Go Go.RowKit IV
set_option linter.unusedVariables false

def XR (r : Rect) (l : List Rect) (k : Nat) : List Int := xsTo r (fl l k) (fl l k).length
def YR (r : Rect) (l : List Rect) (k : Nat) : List Int := ysTo r (fl l k) (fl l k).length
theorem xsTo_all (r : Rect) (l : List Rect) : xsTo r l l.length = r.x :: l.flatMap fun a => [a.x, a.x + a.w] := by unfold xsTo; rw [List.take_length]
theorem ysTo_all (r : Rect) (l : List Rect) : ysTo r l l.length = r.y :: l.flatMap fun a => [a.y, a.y + a.h] := by unfold ysTo; rw [List.take_length]
theorem XR_no {r : Rect} {l : List Rect} {k : Nat} (hk : k < l.length) (h : pts (l[k]?.getD default) = false) : XR r l (k + 1) = XR r l k := by unfold XR; rw [fl_no hk h]
theorem YR_no {r : Rect} {l : List Rect} {k : Nat} (hk : k < l.length) (h : pts (l[k]?.getD default) = false) : YR r l (k + 1) = YR r l k := by unfold YR; rw [fl_no hk h]
theorem XR_yes {r : Rect} {l : List Rect} {k : Nat} (hk : k < l.length) (h : pts (l[k]?.getD default) = true) : XR r l (k + 1) = XR r l k ++ [(l[k]?.getD default).x, (l[k]?.getD default).x + (l[k]?.getD default).w] := by
  unfold XR; rw [fl_yes hk h, xsTo_all, xsTo_all, List.flatMap_append]; simp
theorem YR_yes {r : Rect} {l : List Rect} {k : Nat} (hk : k < l.length) (h : pts (l[k]?.getD default) = true) : YR r l (k + 1) = YR r l k ++ [(l[k]?.getD default).y, (l[k]?.getD default).y + (l[k]?.getD default).h] := by
  unfold YR; rw [fl_yes hk h, ysTo_all, ysTo_all, List.flatMap_append]; simp
theorem fl_len (l : List Rect) (k : Nat) : (fl l k).length ≤ k := by
  unfold fl
  exact Nat.le_trans (List.length_filter_le _ _) (by rw [List.length_take]; omega)
theorem XR_len (r : Rect) (l : List Rect) (k : Nat) : 0 < (XR r l k).length ∧ (XR r l k).length ≤ 1 + 2 * k := by
  unfold XR
  rw [xsTo_len r _ _ (Nat.le_refl _)]
  have := fl_len l k
  omega
theorem YR_len (r : Rect) (l : List Rect) (k : Nat) : 0 < (YR r l k).length ∧ (YR r l k).length ≤ 1 + 2 * k := by
  unfold YR
  rw [ysTo_len r _ _ (Nat.le_refl _)]
  have := fl_len l k
  omega
theorem fl_all (l : List Rect) : fl l l.length = l.filter pts := by unfold fl; rw [List.take_length]

def TR (r : Rect) (l : List Rect) : Prop :=
  (∀ i, i < l.length → pts (l[i]?.getD default) = true → meet r (l[i]?.getD default) = l[i]?.getD default ∧ ∀ k, k < i → pts (meet (l[k]?.getD default) (l[i]?.getD default)) = false) ∧
  (∀ i, i < (XR r l l.length).length → ∀ j, j < (YR r l l.length).length → atR r ((XR r l l.length)[i]?.getD 0) ((YR r l l.length)[j]?.getD 0) = true → hasR l ((XR r l l.length)[i]?.getD 0) ((YR r l l.length)[j]?.getD 0) = true)

theorem meet_nopts {a b : Rect} (h : pts a = false) (ha : right a = true) : pts (meet a b) = false := by
  have hb := right_iff.1 ha
  unfold meet
  split
  · next q =>
    exfalso
    unfold pts at h
    simp only [Bool.and_eq_false_iff, decide_eq_false_iff_not] at h
    omega
  · decide
theorem atR_pts {a : Rect} {x y : Int} (h : atR a x y = true) : pts a = true := by
  unfold atR at h
  unfold pts
  simp only [Bool.and_eq_true, decide_eq_true_eq] at h ⊢
  omega
theorem hasR_iff {l : List Rect} {x y : Int} : hasR l x y = true ↔ ∃ a ∈ l.filter pts, atR a x y = true := by
  unfold hasR
  rw [List.any_eq_true]
  constructor
  · rintro ⟨a, h1, h2⟩; exact ⟨a, List.mem_filter.2 ⟨h1, atR_pts h2⟩, h2⟩
  · rintro ⟨a, h1, h2⟩; exact ⟨a, (List.mem_filter.1 h1).1, h2⟩
theorem getD_at {l : List Rect} {i : Nat} (h : i < l.length) : l[i]?.getD default = l[i] := by rw [List.getElem?_eq_getElem h]; rfl

theorem pair_iff {l : List Rect} : (∀ p ∈ pairTo l l.length, pts (meet p.1 p.2) = false) ↔ l.Pairwise fun a b => pts (meet b a) = false := by
  rw [List.pairwise_iff_getElem]
  constructor
  · intro h i j hi hj hij
    have := h (l[j], l[i]) (pairTo_mem.2 ⟨j, i, hij, hj, by rw [getD_at hi, getD_at hj]⟩)
    exact this
  · intro h p hp
    obtain ⟨i, q, h1, h2, rfl⟩ := pairTo_mem.1 hp
    rw [getD_at h2, getD_at (show q < l.length by omega)]
    exact h q i (by omega) h2 h1

theorem tl_iff {r : Rect} {l : List Rect} (hl : ∀ a ∈ l, right a = true) : Tl r (l.filter pts) ↔ TR r l := by
  unfold Tl TR
  rw [pair_iff, List.pairwise_filter, List.pairwise_iff_getElem]
  have e3 : (∀ p ∈ cov r (l.filter pts) r, ∃ a ∈ l.filter pts, p ∈ cov r (l.filter pts) a) ↔ (∀ i, i < (XR r l l.length).length → ∀ j, j < (YR r l l.length).length → atR r ((XR r l l.length)[i]?.getD 0) ((YR r l l.length)[j]?.getD 0) = true → hasR l ((XR r l l.length)[i]?.getD 0) ((YR r l l.length)[j]?.getD 0) = true) := by
    unfold cov XR YR xsOf ysOf
    rw [fl_all]
    constructor
    · intro h i hi j hj ha
      obtain ⟨a, h1, h2⟩ := h (i, j) (covTo_mem.2 ⟨hi, hj, ha⟩)
      exact hasR_iff.2 ⟨a, h1, (covTo_mem.1 h2).2.2⟩
    · intro h p hp
      obtain ⟨h1, h2, h3⟩ := covTo_mem.1 hp
      obtain ⟨a, h4, h5⟩ := hasR_iff.1 (h p.1 h1 p.2 h2 h3)
      exact ⟨a, h4, covTo_mem.2 ⟨h1, h2, h5⟩⟩
  rw [e3]
  constructor
  · rintro ⟨h1, h2, h3⟩
    refine ⟨fun i hi hp => ?_, h3⟩
    rw [getD_at hi] at hp ⊢
    refine ⟨h1 _ (List.mem_filter.2 ⟨List.getElem_mem hi, hp⟩), fun k hk => ?_⟩
    have hk' : k < l.length := by omega
    rw [getD_at hk']
    cases hpk : pts l[k] with
    | false => exact meet_nopts hpk (hl _ (List.getElem_mem hk'))
    | true => rw [meet_comm]; exact h2 k i hk' hi hk hpk hp
  · rintro ⟨h1, h3⟩
    refine ⟨fun a ha => ?_, fun k i hk hi hki hpk hp => ?_, h3⟩
    · obtain ⟨h4, h5⟩ := List.mem_filter.1 ha
      obtain ⟨i, hi, rfl⟩ := List.getElem_of_mem h4
      have := (h1 i hi (by rw [getD_at hi]; exact h5)).1
      rw [getD_at hi] at this
      exact this
    · have := (h1 i hi (by rw [getD_at hi]; exact hp)).2 k hki
      rw [getD_at hi, getD_at hk] at this
      rw [meet_comm]
      exact this
theorem none_meet (a b : Rect) : (decide ((meet a b).w = 0) || decide ((meet a b).h = 0)) = !pts (meet a b) := by
  unfold meet
  split
  · next q =>
    unfold pts
    dsimp only
    rw [decide_eq_false (by omega), decide_eq_false (by omega), decide_eq_true (by omega), decide_eq_true (by omega)]
    rfl
  · decide
end Go.Proofs.Ytnlojbkjhlhogaa
