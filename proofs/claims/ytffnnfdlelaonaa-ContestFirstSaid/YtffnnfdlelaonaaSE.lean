/- Plain laws: sides in order hang not on how they came; the first is who leads; putting each in its place orders them. -/
import Derived.Test.YtffnnfdlelaonaaSD
import Derived.Test.YtffnnfdlelaonaaM
namespace Go.Proofs.Ytffnnfdlelaonaa
open Go Go.RowKit Go.Shelf
set_option linter.unusedVariables false

def leS (x y : Side) : Bool := !decide (ord y x < 0)
theorem leS_iff {x y : Side} : leS x y = true ↔ ¬ ord y x < 0 := by unfold leS; simp
theorem leS_trans (a b c : Side) (h1 : leS a b = true) (h2 : leS b c = true) : leS a c = true := by
  rw [leS_iff] at *
  intro h
  by_cases h0 : ord b a = 0
  · rw [← ord_zero h0] at h; exact h2 h
  · have h3 := ord_neg b a
    exact h2 (ord_trans h (show ord a b < 0 by omega))
theorem leS_total (a b : Side) : (leS a b || leS b a) = true := by
  rw [Bool.or_eq_true, leS_iff, leS_iff]
  have := ord_neg a b
  omega
theorem leS_anti {a b : Side} (h1 : leS a b = true) (h2 : leS b a = true) : a = b := by
  rw [leS_iff] at *
  have h3 := ord_neg a b
  exact ord_zero (by omega)
theorem srt_sorted (xs : List Side) : (srt xs).Pairwise fun a b => leS a b = true := List.pairwise_mergeSort leS_trans leS_total xs
theorem srt_perm (xs : List Side) : (srt xs).Perm xs := List.mergeSort_perm _ _
theorem srt_unique {l m : List Side} (h1 : l.Pairwise fun a b => leS a b = true) (h2 : m.Pairwise fun a b => leS a b = true) (hp : l.Perm m) : l = m :=
  List.Perm.eq_of_pairwise (le := fun a b => leS a b = true) (fun a b _ _ h1 h2 => leS_anti h1 h2) h1 h2 hp
theorem srt_of_perm {l m : List Side} (h : l.Perm m) : srt l = srt m := srt_unique (srt_sorted l) (srt_sorted m) (((srt_perm l).trans h).trans (srt_perm m).symm)
theorem wrongs_perm {l m : List Side} (h : l.Perm m) : wrongs l = wrongs m := by
  cases h1 : wrongs m with
  | false => rw [wrongs_iff] at *; exact fun x hx => h1 x (h.mem_iff.1 hx)
  | true =>
    cases h2 : wrongs l with
    | true => rfl
    | false => rw [wrongs_iff] at h2; rw [wrongs_iff.2 fun x hx => h2 x (h.mem_iff.2 hx)] at h1; cases h1

theorem led_le (xs : List Side) : ∀ k, k ≤ xs.length → ∀ j, j < k → leS (led xs k) (xs[j]?.getD default) = true
  | 0, _, j, h => absurd h (Nat.not_lt_zero _)
  | k + 1, hk, j, hj => by
    show leS (if ord (xs[k]?.getD default) (led xs k) < 0 then xs[k]?.getD default else led xs k) _ = true
    have self : ∀ x, leS x x = true := fun x => by rw [leS_iff, ord_self]; omega
    by_cases hjk : j < k
    · have ih := led_le xs k (by omega) j hjk
      by_cases h : ord (xs[k]?.getD default) (led xs k) < 0
      · rw [if_pos h]
        refine leS_trans _ (led xs k) _ ?_ ih
        rw [leS_iff]
        have := ord_neg (xs[k]?.getD default) (led xs k)
        omega
      · rw [if_neg h]; exact ih
    · obtain rfl : j = k := by omega
      by_cases h : ord (xs[j]?.getD default) (led xs j) < 0
      · rw [if_pos h]; exact self _
      · rw [if_neg h, leS_iff]; exact h
theorem led_all {xs : List Side} {x : Side} (hx : x ∈ xs) : leS (led xs xs.length) x = true := by
  obtain ⟨j, hj, rfl⟩ := List.getElem_of_mem hx
  have := led_le xs xs.length (Nat.le_refl _) j hj
  rw [List.getElem?_eq_getElem hj] at this
  exact this
theorem srt_head {xs : List Side} (h : xs ≠ []) : (srt xs)[0]?.getD default = led xs xs.length := by
  have hs := srt_sorted xs
  have hp := srt_perm xs
  have hm := led_mem xs h xs.length (Nat.le_refl _)
  cases hl : srt xs with
  | nil => rw [hl] at hp; exact absurd hp.nil_eq.symm h
  | cons y l =>
    rw [hl] at hs hp
    show y = _
    have hy := hp.mem_iff.1 (List.mem_cons_self (a := y) (l := l))
    refine leS_anti ?_ (led_all hy)
    rcases List.mem_cons.1 (hp.mem_iff.2 hm) with e | e
    · rw [e, leS_iff, ord_self]; omega
    · exact (List.pairwise_cons.1 hs).1 _ e
theorem led_perm {l m : List Side} (h : l.Perm m) : led l l.length = led m m.length := by
  by_cases hl : l = []
  · subst hl; rw [h.nil_eq]
  · have hm : m ≠ [] := fun e => hl (by rw [e] at h; exact h.symm.nil_eq.symm)
    rw [← srt_head hl, ← srt_head hm, srt_of_perm h]
theorem win_perm {l m : List Side} (h : l.Perm m) : winY l = winY m ∧ winF l = winF m ∧ srtY l = srtY m ∧ srtE l = srtE m := by
  have hb : bad l = bad m := by
    unfold bad
    rw [wrongs_perm h]
    congr 1
    rw [Bool.eq_iff_iff, List.isEmpty_iff, List.isEmpty_iff]
    exact ⟨fun e => by rw [e] at h; exact h.nil_eq.symm, fun e => by rw [e] at h; exact h.symm.nil_eq.symm⟩
  unfold winY winF srtY srtE
  rw [hb, wrongs_perm h, led_perm h, srt_of_perm h]
  exact ⟨rfl, rfl, rfl, rfl⟩

/-- the place of one among others -/
def plc (x : Side) : List Side → Nat
  | [] => 0
  | y :: l => if ord x y < 0 then 0 else plc x l + 1
theorem plc_le (x : Side) : ∀ l, plc x l ≤ l.length
  | [] => Nat.le_refl _
  | y :: l => by unfold plc; split; omega; have := plc_le x l; simp; omega
theorem plc_stop (x : Side) : ∀ l, plc x l < l.length → ord x (l[plc x l]?.getD default) < 0
  | [], h => absurd h (Nat.not_lt_zero _)
  | y :: l, h => by
    unfold plc at h ⊢
    by_cases hy : ord x y < 0
    · rw [if_pos hy]; exact hy
    · rw [if_neg hy] at h ⊢
      exact plc_stop x l (by simpa using h)
theorem plc_pass (x : Side) : ∀ l j, j < plc x l → ¬ ord x (l[j]?.getD default) < 0
  | [], j, h => absurd h (Nat.not_lt_zero _)
  | y :: l, j, h => by
    unfold plc at h
    by_cases hy : ord x y < 0
    · rw [if_pos hy] at h; omega
    · rw [if_neg hy] at h
      cases j with
      | zero => exact hy
      | succ j => exact plc_pass x l j (by omega)
def insS (x : Side) (l : List Side) : List Side := l.take (plc x l) ++ [x] ++ l.drop (plc x l)
/-- each put in its place, one behind the other -/
def insTo (xs : List Side) : Nat → List Side
  | 0 => []
  | k + 1 => insS (xs[k]?.getD default) (insTo xs k)
theorem insS_perm (x : Side) (l : List Side) : (insS x l).Perm (x :: l) := by
  unfold insS
  rw [List.append_assoc]
  show (l.take (plc x l) ++ x :: l.drop (plc x l)).Perm (x :: l)
  refine List.perm_middle.trans ?_
  rw [List.take_append_drop]
theorem insTo_perm (xs : List Side) : ∀ k, k ≤ xs.length → (insTo xs k).Perm (xs.take k)
  | 0, _ => by simp [insTo]
  | k + 1, h => by
    rw [insTo, List.take_add_one, List.getElem?_eq_getElem h]
    refine (insS_perm _ _).trans ?_
    refine ((insTo_perm xs k (by omega)).cons _).trans ?_
    exact (List.perm_append_comm (l₁ := [xs[k]]) (l₂ := xs.take k))
theorem insTo_len (xs : List Side) (k : Nat) (h : k ≤ xs.length) : (insTo xs k).length = k := by
  rw [(insTo_perm xs k h).length_eq, List.length_take]; omega
theorem insS_sorted {x : Side} {l : List Side} (h : l.Pairwise fun a b => leS a b = true) : (insS x l).Pairwise fun a b => leS a b = true := by
  have self : ∀ x, leS x x = true := fun x => by rw [leS_iff, ord_self]; omega
  have hx1 : ∀ a ∈ l.take (plc x l), leS a x = true := fun a ha => by
    obtain ⟨j, hj, rfl⟩ := List.getElem_of_mem ha
    have hj2 : j < plc x l ∧ j < l.length := by rw [List.length_take] at hj; omega
    have := plc_pass x l j hj2.1
    rw [List.getElem?_eq_getElem hj2.2] at this
    rw [leS_iff, List.getElem_take]
    exact this
  have hx2 : ∀ b ∈ l.drop (plc x l), leS x b = true := fun b hb => by
    have hlt : plc x l < l.length := by
      rcases Nat.lt_or_ge (plc x l) l.length with h | h
      · exact h
      · rw [List.drop_eq_nil_of_le h] at hb; cases hb
    have h0 := plc_stop x l hlt
    have h1 : leS x (l[plc x l]?.getD default) = true := by
      rw [leS_iff]
      have := ord_neg x (l[plc x l]?.getD default)
      omega
    rw [List.getElem?_eq_getElem hlt] at h1
    have hd := List.drop_eq_getElem_cons hlt
    rw [hd] at hb
    rcases List.mem_cons.1 hb with rfl | hb
    · exact h1
    · refine leS_trans _ _ _ h1 ?_
      have hp : (l.drop (plc x l)).Pairwise fun a b => leS a b = true := h.sublist (List.drop_sublist _ _)
      rw [hd] at hp
      exact (List.pairwise_cons.1 hp).1 b hb
  have hcut : (l.take (plc x l) ++ l.drop (plc x l)).Pairwise fun a b => leS a b = true := by rw [List.take_append_drop]; exact h
  obtain ⟨p1, p2, p3⟩ := List.pairwise_append.1 hcut
  unfold insS
  rw [List.append_assoc]
  refine List.pairwise_append.2 ⟨p1, List.pairwise_cons.2 ⟨hx2, p2⟩, fun a ha b hb => ?_⟩
  rcases List.mem_cons.1 hb with rfl | hb
  · exact hx1 a ha
  · exact p3 a ha b hb
theorem insTo_sorted (xs : List Side) : ∀ k, (insTo xs k).Pairwise fun a b => leS a b = true
  | 0 => List.Pairwise.nil
  | k + 1 => insS_sorted (insTo_sorted xs k)
theorem insTo_srt (xs : List Side) : insTo xs xs.length = srt xs := by
  refine srt_unique (insTo_sorted xs _) (srt_sorted xs) ((insTo_perm xs _ (Nat.le_refl _)).trans ?_)
  rw [List.take_length]
  exact (srt_perm xs).symm

end Go.Proofs.Ytffnnfdlelaonaa
