/- How many edges there are. -/
import Derived.Test.YtmlcjiabnmdfeaaBD
namespace Go.Proofs.Ytmlcjiabnmdfeaa
open Go Go.RowKit Go.Shelf CT
set_option linter.unusedVariables false

/-- who has a slot, where k places are laid -/
def whoK (f : Fr) (k : Nat) (r c : Int) : Int := if r < 0 ∨ f.R ≤ r ∨ c < 0 ∨ f.C ≤ c then -1 else whoTo f.pl k r.toNat c.toNat
theorem whoK_all (f : Fr) (r c : Int) : who f r c = whoK f f.pl.length r c := rfl
theorem whoK_lt (f : Fr) (k : Nat) (r c : Int) : whoK f k r c < k := by
  unfold whoK
  split
  · omega
  · exact (whoTo_low f.pl k _ _).2
/-- is it within one place, of the first k? -/
def skL (f : Fr) (k : Nat) (s : Nat × Nat) : Bool := decide (0 ≤ whoK f k ((s.1 : Int) - 1) s.2 ∧ whoK f k ((s.1 : Int) - 1) s.2 = whoK f k s.1 s.2)
def skS (f : Fr) (k : Nat) (s : Nat × Nat) : Bool := decide (0 ≤ whoK f k s.1 ((s.2 : Int) - 1) ∧ whoK f k s.1 ((s.2 : Int) - 1) = whoK f k s.1 s.2)
def covI (p : Place) (r c : Int) : Prop := p.row ≤ r ∧ r < p.row + p.rows ∧ p.col ≤ c ∧ c < p.col + p.cols
instance (p : Place) (r c : Int) : Decidable (covI p r c) := inferInstanceAs (Decidable (_ ∧ _))
/-- a place more -/
theorem whoK_succ {f : Fr} {k : Nat} (hR : 0 ≤ f.R) (hC : 0 ≤ f.C) (hfit : fitP (f.pl[k]?.getD default) f.R.toNat f.C.toNat = true) (r c : Int) :
    whoK f (k + 1) r c = if covI (f.pl[k]?.getD default) r c then (k : Int) else whoK f k r c := by
  obtain ⟨p, hp⟩ : ∃ p, f.pl[k]?.getD default = p := ⟨_, rfl⟩
  rw [hp] at hfit ⊢
  unfold fitP at hfit
  have hf := of_decide_eq_true hfit
  unfold whoK
  by_cases ho : r < 0 ∨ f.R ≤ r ∨ c < 0 ∨ f.C ≤ c
  · rw [if_pos ho, if_pos ho, if_neg]
    unfold covI
    omega
  · rw [if_neg ho, if_neg ho]
    have e : whoTo f.pl (k + 1) r.toNat c.toNat = if cov (f.pl[k]?.getD default) r.toNat c.toNat = true then (k : Int) else whoTo f.pl k r.toNat c.toNat := rfl
    rw [e, hp]
    by_cases hc : covI p r c
    · rw [if_pos hc, if_pos]
      unfold cov
      unfold covI at hc
      exact decide_eq_true (by omega)
    · rw [if_neg hc, if_neg]
      unfold cov
      unfold covI at hc
      intro h
      have := of_decide_eq_true h
      omega
/-- where a place lies nobody was -/
theorem whoK_free {f : Fr} {k : Nat} (hok : okP f.pl f.R.toNat f.C.toNat k = true) (r c : Int) (h : covI (f.pl[k]?.getD default) r c) : whoK f k r c = -1 := by
  obtain ⟨p, hp⟩ : ∃ p, f.pl[k]?.getD default = p := ⟨_, rfl⟩
  unfold okP at hok
  rw [Bool.and_eq_true] at hok
  have hfit := hok.1
  have hf := hok.1
  unfold fitP at hf
  have hf := of_decide_eq_true hf
  rw [hp] at h hf
  unfold covI at h
  unfold whoK
  split
  · rfl
  · rename_i ho
    have hfree := hok.2
    unfold freeP at hfree
    have hm : (r.toNat, c.toNat) ∈ slotsOf (f.pl[k]?.getD default) := by
      rw [slotsOf_mem hfit, hp]
      unfold cov
      exact decide_eq_true (by omega)
    have h1 := (List.all_eq_true.1 hfree) _ hm
    have h2 := of_decide_eq_true h1
    have h3 := (whoTo_low f.pl k r.toNat c.toNat).1
    dsimp only at h2
    omega
def inL (p : Place) (s : Nat × Nat) : Bool := decide ((p.row.toNat + 1) ≤ s.1 ∧ s.1 < p.row.toNat + p.rows.toNat) && decide (p.col.toNat ≤ s.2 ∧ s.2 < p.col.toNat + p.cols.toNat)
def inS (p : Place) (s : Nat × Nat) : Bool := decide (p.row.toNat ≤ s.1 ∧ s.1 < p.row.toNat + p.rows.toNat) && decide ((p.col.toNat + 1) ≤ s.2 ∧ s.2 < p.col.toNat + p.cols.toNat)
theorem fit_of {f : Fr} {k : Nat} (hok : okP f.pl f.R.toNat f.C.toNat k = true) : fitP (f.pl[k]?.getD default) f.R.toNat f.C.toNat = true := by
  unfold okP at hok
  rw [Bool.and_eq_true] at hok
  exact hok.1
section
variable {f : Fr} {k : Nat} (hR : 0 ≤ f.R) (hC : 0 ≤ f.C) (hok : okP f.pl f.R.toNat f.C.toNat k = true)
include hR hC hok
theorem skL_succ (s : Nat × Nat) : skL f (k + 1) s = (skL f k s || inL (f.pl[k]?.getD default) s) ∧ ¬ (skL f k s = true ∧ inL (f.pl[k]?.getD default) s = true) := by
  have hfit := fit_of hok
  have hf := hfit
  unfold fitP at hf
  have hf := of_decide_eq_true hf
  have e1 := whoK_succ hR hC hfit ((s.1 : Int) - 1) s.2
  have e2 := whoK_succ hR hC hfit (s.1 : Int) s.2
  have l1 := whoK_lt f k ((s.1 : Int) - 1) s.2
  have l2 := whoK_lt f k (s.1 : Int) s.2
  have f1 := whoK_free hok ((s.1 : Int) - 1) s.2
  have f2 := whoK_free hok (s.1 : Int) s.2
  obtain ⟨p, hp⟩ : ∃ p, f.pl[k]?.getD default = p := ⟨_, rfl⟩
  rw [hp] at hf e1 e2 f1 f2 ⊢
  unfold skL
  rw [e1, e2]
  generalize whoK f k ((s.1 : Int) - 1) s.2 = va at *
  generalize whoK f k (s.1 : Int) s.2 = vb at *
  have hin : inL p s = decide (covI p ((s.1 : Int) - 1) s.2 ∧ covI p (s.1 : Int) s.2) := by
    unfold inL covI
    rw [← Bool.decide_and]
    refine decide_eq_decide.2 ?_
    omega
  rw [hin]
  by_cases c1 : covI p ((s.1 : Int) - 1) s.2 <;> by_cases c2 : covI p (s.1 : Int) s.2
  · have := f1 c1
    have := f2 c2
    subst va vb
    simp [c1, c2]
  · have := f1 c1
    subst va
    simp [c1, c2]
    omega
  · have := f2 c2
    subst vb
    rw [if_neg c1, if_pos c2]
    simp [c1]
    rw [← Bool.decide_and, ← Bool.decide_and]
    exact decide_eq_decide.2 (by omega)
  · simp [c1, c2]
theorem skS_succ (s : Nat × Nat) : skS f (k + 1) s = (skS f k s || inS (f.pl[k]?.getD default) s) ∧ ¬ (skS f k s = true ∧ inS (f.pl[k]?.getD default) s = true) := by
  have hfit := fit_of hok
  have hf := hfit
  unfold fitP at hf
  have hf := of_decide_eq_true hf
  have e1 := whoK_succ hR hC hfit (s.1 : Int) ((s.2 : Int) - 1)
  have e2 := whoK_succ hR hC hfit (s.1 : Int) s.2
  have l1 := whoK_lt f k (s.1 : Int) ((s.2 : Int) - 1)
  have l2 := whoK_lt f k (s.1 : Int) s.2
  have f1 := whoK_free hok (s.1 : Int) ((s.2 : Int) - 1)
  have f2 := whoK_free hok (s.1 : Int) s.2
  obtain ⟨p, hp⟩ : ∃ p, f.pl[k]?.getD default = p := ⟨_, rfl⟩
  rw [hp] at hf e1 e2 f1 f2 ⊢
  unfold skS
  rw [e1, e2]
  generalize whoK f k (s.1 : Int) ((s.2 : Int) - 1) = va at *
  generalize whoK f k (s.1 : Int) s.2 = vb at *
  have hin : inS p s = decide (covI p (s.1 : Int) ((s.2 : Int) - 1) ∧ covI p (s.1 : Int) s.2) := by
    unfold inS covI
    rw [← Bool.decide_and]
    refine decide_eq_decide.2 ?_
    omega
  rw [hin]
  by_cases c1 : covI p (s.1 : Int) ((s.2 : Int) - 1) <;> by_cases c2 : covI p (s.1 : Int) s.2
  · have := f1 c1
    have := f2 c2
    subst va vb
    simp [c1, c2]
  · have := f1 c1
    subst va
    simp [c1, c2]
    omega
  · have := f2 c2
    subst vb
    rw [if_neg c1, if_pos c2]
    simp [c1]
    rw [← Bool.decide_and, ← Bool.decide_and]
    exact decide_eq_decide.2 (by omega)
  · simp [c1, c2]
end
/-- the length of a list of lists, each of one or none -/
theorem len_flat {α β : Type} (F : α → List β) (p : α → Bool) : ∀ l : List α, (∀ x ∈ l, (F x).length = if p x = true then 1 else 0) → (l.flatMap F).length = l.countP p
  | [], _ => rfl
  | x :: l, h => by
    rw [List.flatMap_cons, List.length_append, len_flat F p l fun y hy => h y (List.mem_cons_of_mem _ hy), h x List.mem_cons_self, List.countP_cons]
    omega
theorem count_not {α : Type} (p : α → Bool) (l : List α) : l.countP p + l.countP (fun x => !p x) = l.length := by
  rw [List.length_eq_countP_add_countP p]
  congr 1
  exact List.countP_congr fun x _ => by simp
theorem flat_cells {β : Type} (F : Nat → Nat → List β) (m n : Nat) : ((List.range m).flatMap fun r => (List.range n).flatMap (F r)) = (cells2 m n).flatMap fun s => F s.1 s.2 := by
  unfold cells2
  rw [List.flatMap_assoc]
  congr 1
  funext r
  rw [List.flatMap_map]
/-- what a place takes away -/
def lessL (p : Place) : Nat := (p.rows.toNat - 1) * p.cols.toNat
def lessS (p : Place) : Nat := p.rows.toNat * (p.cols.toNat - 1)
theorem okP_of {f : Fr} (hok : okS f.pl f.R.toNat f.C.toNat = true) {k : Nat} (hk : k < f.pl.length) : okP f.pl f.R.toNat f.C.toNat k = true := by
  unfold okS at hok
  exact (List.all_eq_true.1 hok) k (List.mem_range.2 hk)
section
variable {f : Fr} (hR : 0 ≤ f.R) (hC : 0 ≤ f.C) (hok : okS f.pl f.R.toNat f.C.toNat = true)
include hR hC hok
theorem count_skL : ∀ k, k ≤ f.pl.length → (cells2 (f.R.toNat + 1) f.C.toNat).countP (skL f k) = ((f.pl.take k).map lessL).sum
  | 0, _ => by
    rw [List.take_zero, List.map_nil, List.sum_nil, List.countP_eq_zero]
    intro s _
    unfold skL
    have := whoK_lt f 0 ((s.1 : Int) - 1) s.2
    simp
    omega
  | k + 1, hk => by
    have ho := okP_of hok (show k < f.pl.length by omega)
    have e : (cells2 (f.R.toNat + 1) f.C.toNat).countP (skL f (k + 1)) = (cells2 (f.R.toNat + 1) f.C.toNat).countP (fun s => skL f k s || inL (f.pl[k]?.getD default) s) := List.countP_congr fun s _ => by rw [(skL_succ hR hC ho s).1]
    have e2 : (cells2 (f.R.toNat + 1) f.C.toNat).countP (inL (f.pl[k]?.getD default)) = lessL (f.pl[k]?.getD default) := by
      have hf := of_decide_eq_true (show _ = true from fit_of ho)
      unfold inL
      rw [cells2_count (fun r => decide ((f.pl[k]?.getD default).row.toNat + 1 ≤ r ∧ r < (f.pl[k]?.getD default).row.toNat + (f.pl[k]?.getD default).rows.toNat)) (fun c => decide ((f.pl[k]?.getD default).col.toNat ≤ c ∧ c < (f.pl[k]?.getD default).col.toNat + (f.pl[k]?.getD default).cols.toNat)),
        count_between _ _ _ (by omega) (by omega), count_between _ _ _ (by omega) (by omega)]
      unfold lessL
      congr 1
      · omega
      · omega
    rw [e, count_or _ _ _ fun s _ => (skL_succ hR hC ho s).2, count_skL k (by omega), e2, List.take_succ_eq_append_getElem (show k < f.pl.length by omega), List.map_append, List.sum_append]
    rw [List.getElem?_eq_getElem (show k < f.pl.length by omega)]
    simp
theorem count_skS : ∀ k, k ≤ f.pl.length → (cells2 f.R.toNat (f.C.toNat + 1)).countP (skS f k) = ((f.pl.take k).map lessS).sum
  | 0, _ => by
    rw [List.take_zero, List.map_nil, List.sum_nil, List.countP_eq_zero]
    intro s _
    unfold skS
    have := whoK_lt f 0 (s.1 : Int) ((s.2 : Int) - 1)
    simp
    omega
  | k + 1, hk => by
    have ho := okP_of hok (show k < f.pl.length by omega)
    have e : (cells2 f.R.toNat (f.C.toNat + 1)).countP (skS f (k + 1)) = (cells2 f.R.toNat (f.C.toNat + 1)).countP (fun s => skS f k s || inS (f.pl[k]?.getD default) s) := List.countP_congr fun s _ => by rw [(skS_succ hR hC ho s).1]
    have e2 : (cells2 f.R.toNat (f.C.toNat + 1)).countP (inS (f.pl[k]?.getD default)) = lessS (f.pl[k]?.getD default) := by
      have hf := of_decide_eq_true (show _ = true from fit_of ho)
      unfold inS
      rw [cells2_count (fun r => decide ((f.pl[k]?.getD default).row.toNat ≤ r ∧ r < (f.pl[k]?.getD default).row.toNat + (f.pl[k]?.getD default).rows.toNat)) (fun c => decide ((f.pl[k]?.getD default).col.toNat + 1 ≤ c ∧ c < (f.pl[k]?.getD default).col.toNat + (f.pl[k]?.getD default).cols.toNat)),
        count_between _ _ _ (by omega) (by omega), count_between _ _ _ (by omega) (by omega)]
      unfold lessS
      congr 1
      · omega
      · omega
    rw [e, count_or _ _ _ fun s _ => (skS_succ hR hC ho s).2, count_skS k (by omega), e2, List.take_succ_eq_append_getElem (show k < f.pl.length by omega), List.map_append, List.sum_append]
    rw [List.getElem?_eq_getElem (show k < f.pl.length by omega)]
    simp
/-- how many edges there are -/
theorem allE_count : (allE f).length + (f.pl.map lessL).sum + (f.pl.map lessS).sum = (f.R.toNat + 1) * f.C.toNat + f.R.toNat * (f.C.toNat + 1) := by
  have h1 : (lieAll f (f.R.toNat + 1)).length = (cells2 (f.R.toNat + 1) f.C.toNat).countP (fun s => !skL f f.pl.length s) := by
    unfold lieAll lieRow
    rw [flat_cells]
    refine len_flat _ _ _ fun s _ => ?_
    unfold lieAt skL
    rw [whoK_all, whoK_all]
    split
    · rename_i h; rw [decide_eq_true h]; rfl
    · rename_i h; rw [decide_eq_false h]; rfl
  have h2 : (standAll f f.R.toNat).length = (cells2 f.R.toNat (f.C.toNat + 1)).countP (fun s => !skS f f.pl.length s) := by
    unfold standAll standRow
    rw [flat_cells]
    refine len_flat _ _ _ fun s _ => ?_
    unfold standAt skS
    rw [whoK_all, whoK_all]
    split
    · rename_i h; rw [decide_eq_true h]; rfl
    · rename_i h; rw [decide_eq_false h]; rfl
  have h3 := count_not (skL f f.pl.length) (cells2 (f.R.toNat + 1) f.C.toNat)
  have h4 := count_not (skS f f.pl.length) (cells2 f.R.toNat (f.C.toNat + 1))
  rw [count_skL hR hC hok _ (Nat.le_refl _), List.take_length, cells2_len] at h3
  rw [count_skS hR hC hok _ (Nat.le_refl _), List.take_length, cells2_len] at h4
  unfold allE
  rw [List.length_append, h1, h2]
  omega
end
end Go.Proofs.Ytmlcjiabnmdfeaa
