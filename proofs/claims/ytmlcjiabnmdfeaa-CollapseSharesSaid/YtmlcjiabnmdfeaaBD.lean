/- Edges are in order, and how many there are: the plain law of CollapseAll. -/
import Derived.Test.YtmlcjiabnmdfeaaX
namespace Go.Proofs.Ytmlcjiabnmdfeaa
open Go Go.RowKit Go.Shelf CT
set_option linter.unusedVariables false

/-- one edge stands ahead of another -/
def ahead (a b : Edge) : Prop := (a.lies = true ∧ b.lies = false) ∨ (a.lies = b.lies ∧ (a.row < b.row ∨ (a.row = b.row ∧ a.col < b.col)))
theorem lieAt_mem {f : Fr} {r c : Nat} {x : Edge} (h : x ∈ lieAt f r c) : x.lies = true ∧ x.row = r ∧ x.col = c := by
  unfold lieAt at h
  split at h
  · cases h
  · obtain rfl := List.mem_singleton.1 h
    exact ⟨rfl, rfl, rfl⟩
theorem standAt_mem {f : Fr} {r c : Nat} {x : Edge} (h : x ∈ standAt f r c) : x.lies = false ∧ x.row = r ∧ x.col = c := by
  unfold standAt at h
  split at h
  · cases h
  · obtain rfl := List.mem_singleton.1 h
    exact ⟨rfl, rfl, rfl⟩
theorem lieRow_mem {f : Fr} {r k : Nat} {x : Edge} (h : x ∈ lieRow f r k) : x.lies = true ∧ x.row = r := by
  unfold lieRow at h
  obtain ⟨c, _, hx⟩ := List.mem_flatMap.1 h
  exact ⟨(lieAt_mem hx).1, (lieAt_mem hx).2.1⟩
theorem standRow_mem {f : Fr} {r k : Nat} {x : Edge} (h : x ∈ standRow f r k) : x.lies = false ∧ x.row = r := by
  unfold standRow at h
  obtain ⟨c, _, hx⟩ := List.mem_flatMap.1 h
  exact ⟨(standAt_mem hx).1, (standAt_mem hx).2.1⟩
theorem single_pair {α : Type} {R : α → α → Prop} {l : List α} (h : l.length ≤ 1) : l.Pairwise R := by
  cases l with
  | nil => exact List.Pairwise.nil
  | cons x l => cases l with
    | nil => exact List.pairwise_singleton _ _
    | cons y l => simp at h
theorem lieRow_sorted (f : Fr) (r k : Nat) : (lieRow f r k).Pairwise ahead := by
  unfold lieRow
  rw [List.pairwise_flatMap]
  refine ⟨fun c _ => single_pair (lieAt_len f r c), List.pairwise_lt_range.imp fun {a b} hab x hx y hy => ?_⟩
  obtain ⟨h1, h2, h3⟩ := lieAt_mem hx
  obtain ⟨k1, k2, k3⟩ := lieAt_mem hy
  exact .inr ⟨h1.trans k1.symm, .inr ⟨h2.trans k2.symm, by omega⟩⟩
theorem standRow_sorted (f : Fr) (r k : Nat) : (standRow f r k).Pairwise ahead := by
  unfold standRow
  rw [List.pairwise_flatMap]
  refine ⟨fun c _ => single_pair (standAt_len f r c), List.pairwise_lt_range.imp fun {a b} hab x hx y hy => ?_⟩
  obtain ⟨h1, h2, h3⟩ := standAt_mem hx
  obtain ⟨k1, k2, k3⟩ := standAt_mem hy
  exact .inr ⟨h1.trans k1.symm, .inr ⟨h2.trans k2.symm, by omega⟩⟩
theorem allE_sorted (f : Fr) : (allE f).Pairwise ahead := by
  unfold allE
  rw [List.pairwise_append]
  refine ⟨?_, ?_, fun x hx y hy => ?_⟩
  · unfold lieAll
    rw [List.pairwise_flatMap]
    refine ⟨fun r _ => lieRow_sorted f r _, List.pairwise_lt_range.imp fun {a b} hab x hx y hy => ?_⟩
    obtain ⟨h1, h2⟩ := lieRow_mem hx
    obtain ⟨k1, k2⟩ := lieRow_mem hy
    exact .inr ⟨h1.trans k1.symm, .inl (by omega)⟩
  · unfold standAll
    rw [List.pairwise_flatMap]
    refine ⟨fun r _ => standRow_sorted f r _, List.pairwise_lt_range.imp fun {a b} hab x hx y hy => ?_⟩
    obtain ⟨h1, h2⟩ := standRow_mem hx
    obtain ⟨k1, k2⟩ := standRow_mem hy
    exact .inr ⟨h1.trans k1.symm, .inl (by omega)⟩
  · unfold lieAll at hx
    unfold standAll at hy
    obtain ⟨r, _, hx⟩ := List.mem_flatMap.1 hx
    obtain ⟨q, _, hy⟩ := List.mem_flatMap.1 hy
    exact .inl ⟨(lieRow_mem hx).1, (standRow_mem hy).1⟩
/-- each edge but the first stands behind the one before it -/
theorem allE_next (f : Fr) {i : Nat} (h : i + 1 < (allE f).length) : ahead ((allE f)[i]?.getD default) ((allE f)[i + 1]?.getD default) := by
  have := List.pairwise_iff_getElem.1 (allE_sorted f) i (i + 1) (by omega) h (by omega)
  rw [List.getElem?_eq_getElem h, List.getElem?_eq_getElem (show i < (allE f).length by omega)]
  exact this

/-- how many numbers below a bound lie between two -/
theorem count_between (a b : Nat) : ∀ n, a ≤ b → b ≤ n → (List.range n).countP (fun r => decide (a ≤ r ∧ r < b)) = b - a
  | 0, h1, h2 => by simp; omega
  | n + 1, h1, h2 => by
    rw [List.range_succ, List.countP_append, List.countP_singleton]
    by_cases hb : b ≤ n
    · rw [count_between a b n h1 hb, if_neg (by simp; omega)]
      rfl
    · obtain rfl : b = n + 1 := by omega
      by_cases ha : a ≤ n
      · have e : (List.range n).countP (fun r => decide (a ≤ r ∧ r < n + 1)) = (List.range n).countP (fun r => decide (a ≤ r ∧ r < n)) := by
          refine List.countP_congr fun x hx => ?_
          have := List.mem_range.1 hx
          simp
          omega
        rw [e, count_between a n n ha (Nat.le_refl _), if_pos (by simp; omega)]
        omega
      · obtain rfl : a = n + 1 := by omega
        rw [if_neg (by simp)]
        have e : (List.range n).countP (fun r => decide (n + 1 ≤ r ∧ r < n + 1)) = 0 := by
          rw [List.countP_eq_zero]
          intro x hx
          simp
        rw [e]
        omega
/-- pairs below two bounds -/
def cells2 (m n : Nat) : List (Nat × Nat) := (List.range m).flatMap fun r => (List.range n).map fun c => (r, c)
theorem cells2_mem {m n : Nat} {s : Nat × Nat} : s ∈ cells2 m n ↔ s.1 < m ∧ s.2 < n := by
  unfold cells2
  simp only [List.mem_flatMap, List.mem_range, List.mem_map]
  constructor
  · rintro ⟨r, hr, c, hc, rfl⟩; exact ⟨hr, hc⟩
  · rintro ⟨h1, h2⟩; exact ⟨s.1, h1, s.2, h2, rfl⟩
theorem cells2_len (m n : Nat) : (cells2 m n).length = m * n := by
  unfold cells2
  induction m with
  | zero => simp
  | succ m ih => rw [List.range_succ, List.flatMap_append, List.length_append, ih, Nat.succ_mul]; simp
theorem cells2_count (p q : Nat → Bool) (n : Nat) : ∀ m, (cells2 m n).countP (fun s => p s.1 && q s.2) = (List.range m).countP p * (List.range n).countP q
  | 0 => by simp [cells2]
  | m + 1 => by
    have e : cells2 (m + 1) n = cells2 m n ++ (List.range n).map fun c => (m, c) := by simp [cells2, List.range_succ, List.flatMap_append]
    rw [e, List.countP_append, cells2_count p q n m, List.range_succ, List.countP_append, List.countP_singleton, List.countP_map, Nat.add_mul]
    congr 1
    cases hp : p m with
    | true =>
      rw [if_pos rfl, Nat.one_mul]
      exact List.countP_congr fun x _ => by simp [hp]
    | false =>
      rw [if_neg (by simp), Nat.zero_mul, List.countP_eq_zero]
      intro x _
      simp [hp]
theorem count_or {α : Type} (p q : α → Bool) : ∀ l : List α, (∀ x ∈ l, ¬ (p x = true ∧ q x = true)) → l.countP (fun x => p x || q x) = l.countP p + l.countP q
  | [], _ => rfl
  | x :: l, h => by
    have ih := count_or p q l fun y hy => h y (List.mem_cons_of_mem _ hy)
    have hx := h x List.mem_cons_self
    rw [List.countP_cons, List.countP_cons, List.countP_cons, ih]
    cases hp : p x <;> cases hq : q x <;> simp_all <;> omega
end Go.Proofs.Ytmlcjiabnmdfeaa
