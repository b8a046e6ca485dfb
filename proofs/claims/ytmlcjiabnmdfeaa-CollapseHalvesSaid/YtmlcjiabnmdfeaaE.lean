/- Who has slots, in plain words. -/
import Derived.Test.YtmlcjiabnmdfeaaC
import Derived.Test.YtmlcjiabnmdfeaaD
namespace Go.Proofs.Ytmlcjiabnmdfeaa
open Go Go.RowKit Go.Shelf
set_option linter.unusedVariables false

def cov (p : Place) (r c : Nat) : Bool := decide (p.row ≤ r ∧ (r : Int) < p.row + p.rows ∧ p.col ≤ c ∧ (c : Int) < p.col + p.cols)
/-- who has a slot, of the first places; -1: nobody -/
def whoTo (ps : List Place) : Nat → Nat → Nat → Int
  | 0, _, _ => -1
  | k + 1, r, c => if cov (ps[k]?.getD default) r c = true then k else whoTo ps k r c
def fitP (p : Place) (R C : Nat) : Bool := decide ((0 ≤ p.row ∧ p.row ≤ R) ∧ (0 ≤ p.col ∧ p.col ≤ C) ∧ (1 ≤ p.rows ∧ p.rows ≤ R - p.row) ∧ (1 ≤ p.cols ∧ p.cols ≤ C - p.col))
def slotsOf (p : Place) : List (Nat × Nat) := ownTo p.row.toNat p.col.toNat p.cols.toNat p.rows.toNat
def freeP (ps : List Place) (k : Nat) : Bool := (slotsOf (ps[k]?.getD default)).all fun s => decide (whoTo ps k s.1 s.2 < 0)
def okP (ps : List Place) (R C k : Nat) : Bool := fitP (ps[k]?.getD default) R C && freeP ps k
def okS (ps : List Place) (R C : Nat) : Bool := (List.range ps.length).all fun k => okP ps R C k
theorem okS_no {ps : List Place} {R C k : Nat} (hk : k < ps.length) (h : okP ps R C k = false) : okS ps R C = false := by
  unfold okS
  rw [List.all_eq_false]
  exact ⟨k, List.mem_range.2 hk, by rw [h]; simp⟩
theorem okS_yes {ps : List Place} {R C : Nat} (h : ∀ k, k < ps.length → okP ps R C k = true) : okS ps R C = true := by
  unfold okS
  rw [List.all_eq_true]
  exact fun k hk => h k (List.mem_range.1 hk)
theorem ownRow_mem {r0 c0 i : Nat} {s : Nat × Nat} : ∀ {k}, s ∈ ownRow r0 c0 i k ↔ s.1 = r0 + i ∧ c0 ≤ s.2 ∧ s.2 < c0 + k
  | 0 => by simp [ownRow]
  | k + 1 => by
    obtain ⟨a, b⟩ := s
    rw [ownRow, List.mem_append, ownRow_mem, List.mem_singleton, Prod.mk.injEq]
    dsimp only
    omega
theorem ownTo_mem {r0 c0 q : Nat} {s : Nat × Nat} : ∀ {m}, s ∈ ownTo r0 c0 q m ↔ (r0 ≤ s.1 ∧ s.1 < r0 + m) ∧ (c0 ≤ s.2 ∧ s.2 < c0 + q)
  | 0 => by simp [ownTo]; omega
  | m + 1 => by
    rw [ownTo, List.mem_append, ownTo_mem, ownRow_mem]
    omega
theorem slotsOf_mem {p : Place} {R C : Nat} (h : fitP p R C = true) {r c : Nat} : (r, c) ∈ slotsOf p ↔ cov p r c = true := by
  unfold fitP at h
  rw [decide_eq_true_eq] at h
  unfold slotsOf cov
  rw [ownTo_mem, decide_eq_true_eq]
  dsimp only
  omega
/-- some slots are marked -/
def markL (f : Nat → Nat → Int) (i : Int) (pre : List (Nat × Nat)) : Nat → Nat → Int := fun r c => if (r, c) ∈ pre then i else f r c
theorem markL_nil (f : Nat → Nat → Int) (i : Int) : markL f i [] = f := by funext r c; simp [markL]
theorem markL_next (f : Nat → Nat → Int) (i : Int) (pre : List (Nat × Nat)) (s : Nat × Nat) : markL f i (pre ++ [s]) = upd (markL f i pre) s.1 (upd (markL f i pre s.1) s.2 i) := by
  funext r c
  obtain ⟨a, b⟩ := s
  unfold markL upd
  dsimp only
  by_cases h1 : r = a
  · subst h1
    rw [if_pos rfl]
    by_cases h2 : c = b
    · subst h2
      rw [if_pos rfl, if_pos (by simp)]
    · rw [if_neg h2]
      simp [h2]
  · rw [if_neg h1]
    simp [h1]
theorem markL_all {ps : List Place} {R C k : Nat} (h : fitP (ps[k]?.getD default) R C = true) : markL (whoTo ps k) k (slotsOf (ps[k]?.getD default)) = whoTo ps (k + 1) := by
  funext r c
  unfold markL
  show _ = if cov (ps[k]?.getD default) r c = true then (k : Int) else whoTo ps k r c
  by_cases hc : cov (ps[k]?.getD default) r c = true
  · rw [if_pos hc, if_pos ((slotsOf_mem h).2 hc)]
  · rw [if_neg hc, if_neg fun e => hc ((slotsOf_mem h).1 e)]
theorem whoTo_low (ps : List Place) : ∀ k r c, -1 ≤ whoTo ps k r c ∧ whoTo ps k r c < k
  | 0, r, c => by simp [whoTo]
  | k + 1, r, c => by
    unfold whoTo
    have := whoTo_low ps k r c
    split <;> omega
/-- a prefix of a place's slots does not hold the next one -/
theorem own_fresh {r0 c0 q m i k : Nat} (hi : i < m) (hk : k < q) : (r0 + i, c0 + k) ∉ ownTo r0 c0 q i ++ ownRow r0 c0 i k := by
  rw [List.mem_append, ownTo_mem, ownRow_mem]
  dsimp only
  omega

def SlotsSaid (ps : List Place) (R C : Nat) (w : World) (e : Ending) (w' : World) : Prop :=
  ((okS ps R C = true → ∃ g vs, e = .returned (.tuple #[.slice (some ⟨g, 0, none⟩) R R, .int .i64 0]) ∧ Tab w' w.heap.size g R vs (fun _ => C) (whoTo ps ps.length)) ∧
    (okS ps R C = false → e = .returned (.tuple #[.slice none 0 0, .int .i64 70]))) ∧ Below w.heap.size w w'

theorem info90 : (Try.prog.info? 90).map (fun i => (i.zero, i.size, i.bytes)) = some (some (.slice none 0 0), 1, 24) := by kernel_rfl
theorem info3 : (Try.prog.info? 3).map (fun i => (i.zero, i.size, i.bytes)) = some (some (.int .i64 0), 1, 8) := by kernel_rfl
/-- the table as it is made -/
theorem tab_made (W : World) (base R : Nat) (hb : base ≤ W.heap.size) : Tab (W.alloc (.cells (madeCells #[.slice none 0 0] R) 90)) base W.heap.size R (fun _ => .slice none 0 0) (fun _ => 0) (fun _ _ => -1) := by
  refine ⟨hb, ⟨_, heap_alloc_new _ _, size_madeCells _ _, fun r hr => ?_⟩, fun r hr => ⟨by simp [ints, upto], .inl ⟨rfl, rfl⟩⟩, fun r r' _ _ _ b hb => by simp [Value.ownBlock] at hb, fun r _ => by simp [Value.ownBlock]⟩
  simp [madeCells, hr, Nat.mod_one]

end Go.Proofs.Ytmlcjiabnmdfeaa
