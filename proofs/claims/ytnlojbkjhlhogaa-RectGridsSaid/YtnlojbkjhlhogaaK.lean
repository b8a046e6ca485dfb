/- Contracts of rect.corner and rect.covers. -/
import Derived.Test.YtnlojbkjhlhogaaJ
namespace Go.Proofs.Ytnlojbkjhlhogaa
open Go Go.RowKit IV
set_option linter.unusedVariables false

theorem c45 (i k : Nat) (w : World) : Calls Try.prog 45 #[.int .i64 i, .int .i64 k] w fun e w' => e = .returned (encC (i, k)) ∧ w = w' := by
  unfold encC
  dsimp only
  go_enter Try.func45, Try.ntmps45
  go_wp2
  go_ret
  exact ⟨rfl, rfl⟩

/-- has a rectangle a point? -/
def atR (r : Rect) (x y : Int) : Bool := decide (r.x ≤ x) && decide (x < r.x + r.w) && (decide (r.y ≤ y) && decide (y < r.y + r.h))
def covRow (r : Rect) (xs ys : List Int) (i : Nat) : Nat → List (Nat × Nat)
  | 0 => []
  | k + 1 => covRow r xs ys i k ++ (if atR r (xs[i]?.getD 0) (ys[k]?.getD 0) = true then [(i, k)] else [])
def covTo (r : Rect) (xs ys : List Int) : Nat → List (Nat × Nat)
  | 0 => []
  | i + 1 => covTo r xs ys i ++ covRow r xs ys i ys.length
theorem covRow_mem {r : Rect} {xs ys : List Int} {i : Nat} {p : Nat × Nat} : ∀ {k}, p ∈ covRow r xs ys i k ↔ p.1 = i ∧ p.2 < k ∧ atR r (xs[p.1]?.getD 0) (ys[p.2]?.getD 0) = true
  | 0 => by simp [covRow]
  | k + 1 => by
    rw [covRow, List.mem_append, covRow_mem]
    obtain ⟨a, b⟩ := p
    dsimp only
    constructor
    · rintro (⟨h1, h2, h3⟩ | h)
      · exact ⟨h1, by omega, h3⟩
      · split at h
        · simp at h; obtain ⟨rfl, rfl⟩ := h; rename_i h'; exact ⟨rfl, by omega, h'⟩
        · simp at h
    · rintro ⟨rfl, h2, h3⟩
      by_cases e : b = k
      · subst e; rw [if_pos h3]; exact .inr (by simp)
      · exact .inl ⟨rfl, by omega, h3⟩
theorem covTo_mem {r : Rect} {xs ys : List Int} {p : Nat × Nat} : ∀ {i}, p ∈ covTo r xs ys i ↔ p.1 < i ∧ p.2 < ys.length ∧ atR r (xs[p.1]?.getD 0) (ys[p.2]?.getD 0) = true
  | 0 => by simp [covTo]
  | i + 1 => by
    rw [covTo, List.mem_append, covTo_mem, covRow_mem]
    constructor
    · rintro (⟨h1, h2⟩ | ⟨h1, h2⟩)
      · exact ⟨by omega, h2⟩
      · exact ⟨by omega, h2⟩
    · rintro ⟨h1, h2⟩
      by_cases e : p.1 = i
      · exact .inr ⟨e, h2⟩
      · exact .inl ⟨by omega, h2⟩
theorem covRow_len (r : Rect) (xs ys : List Int) (i : Nat) : ∀ k, (covRow r xs ys i k).length ≤ k
  | 0 => Nat.le_refl _
  | k + 1 => by
    have := covRow_len r xs ys i k
    rw [covRow, List.length_append]
    split <;> simp <;> omega
theorem covTo_len (r : Rect) (xs ys : List Int) : ∀ i, (covTo r xs ys i).length ≤ i * ys.length
  | 0 => by simp [covTo]
  | i + 1 => by
    have := covTo_len r xs ys i
    have := covRow_len r xs ys i ys.length
    rw [covTo, List.length_append, Nat.succ_mul]; omega

/-- corners in memory -/
def Corners (w : World) (A : Option Addr) (l : List (Nat × Nat)) : Prop :=
  ∀ j, j < l.length → ∃ b off, A = some ⟨b, off, none⟩ ∧ w.cell? ⟨b, off + j, none⟩ = some (encC (l[j]?.getD (0, 0)))
theorem Corners.below {w w' : World} {A : Option Addr} {l : List (Nat × Nat)} (h : Corners w A l) (hb : Below w.heap.size w w') : Corners w' A l := fun j hj =>
  let ⟨b, off, hA, hc⟩ := h j hj
  ⟨b, off, hA, (hb.cell (p := ⟨b, off + j, none⟩) (World.block_lt_of_cell? w _ hc)).trans hc⟩
theorem corners_of_own {w : World} {base n : Nat} {v : Value} {l : List (Nat × Nat)} (h : w.ownsRow base 62 1 v n (l.map encC)) (hn : n = l.length) : ∃ A c, v = .slice A n c ∧ Corners w A l ∧ n ≤ c := by
  have hc := fun g hg => h.cells (g := g) hg
  rcases h.2 with ⟨rfl, h0⟩ | ⟨g, cap, cur, rfl, hb, hg, h4, _⟩
  · subst h0; exact ⟨none, 0, rfl, fun j hj => by omega, Nat.le_refl _⟩
  · refine ⟨_, cap, rfl, fun j hj => ⟨g, 0, rfl, ?_⟩, h4⟩
    have := hc g rfl j (encC (l[j]?.getD (0, 0))) (by simp [List.getElem?_eq_getElem hj])
    rw [addr_add'] at this
    exact this
theorem oneC (p : Nat × Nat) : (encC p).oneCell' = true := rfl
theorem cell_newC (w : World) (p : Nat × Nat) : ∀ j u, [encC p][j]? = some u → (w.alloc (.cells #[encC p] 62)).cell? ((⟨w.heap.size, 0, none⟩ : Addr).add j) = some u := by
  intro j u hu
  have hj : j = 0 := by have := (List.getElem?_eq_some_iff.1 hu).1; simp at this; exact this
  subst hj
  rw [addr_add']
  unfold World.cell?
  rw [heap_alloc_new]
  exact hu
theorem info62 : (Try.prog.info? 62).map (fun i => (i.zero, i.size, i.bytes)) = some (some (.complex .f64 0 0), 1, 16) := by kernel_rfl

end Go.Proofs.Ytnlojbkjhlhogaa
