/- Sides in memory of the call's own: rows of cells, and appending to them. -/
import Derived.Test.YtffnnfdlelaonaaP
import Derived.Laws.MakeOwn
import Derived.Maps.AppendAt
namespace Go.Proofs.Ytffnnfdlelaonaa
open Go.RowKit Go.Shelf
set_option linter.unusedVariables false

def flat (l : List Side) : List Value := l.flatMap Side.cells
theorem flat_cons (s : Side) (l : List Side) : flat (s :: l) = s.cells ++ flat l := by simp [flat]
theorem flat_append (l m : List Side) : flat (l ++ m) = flat l ++ flat m := by simp [flat]
theorem flat_length (l : List Side) : (flat l).length = l.length * 6 := by
  induction l with
  | nil => rfl
  | cons s l ih => rw [flat_cons, List.length_append, ih, List.length_cons]; show 6 + _ = _; omega
theorem flat_get : ∀ (l : List Side) (q r : Nat), q < l.length → r < 6 → (flat l)[q * 6 + r]? = ((l[q]?.getD default).cells)[r]?
  | [], q, r, h, _ => by simp at h
  | s :: l, 0, r, _, hr => by
    rw [flat_cons, List.getElem?_append_left (by show 0 * 6 + r < 6; omega), Nat.zero_mul, Nat.zero_add]; rfl
  | s :: l, q + 1, r, h, hr => by
    rw [flat_cons, List.getElem?_append_right (by show 6 ≤ _; omega), show (q + 1) * 6 + r - s.cells.length = q * 6 + r from by show _ - 6 = _; omega, flat_get l q r (by simpa using h) hr]
    rfl
theorem flat_one (l : List Side) : ∀ u ∈ flat l, u.oneCell' = true := by
  intro u hu
  simp only [flat, List.mem_flatMap] at hu
  obtain ⟨s, _, hs⟩ := hu
  simp only [Side.cells, List.mem_cons, List.not_mem_nil, or_false] at hs
  rcases hs with rfl | rfl | rfl | rfl | rfl | rfl <;> rfl
theorem addr_add' (b o i : Nat) : (⟨b, o, none⟩ : Addr).add i = ⟨b, o + i, none⟩ := by
  unfold Addr.add
  split
  · rename_i h; subst h; rfl
  · rfl
theorem Sides.flat {w : World} {b off : Nat} {l : List Side} (h : Sides w (some ⟨b, off, none⟩) l) : ∀ j u, (flat l)[j]? = some u → w.cell? ((⟨b, off, none⟩ : Addr).add j) = some u := by
  intro j u hu
  have hj : j < l.length * 6 := by rw [← flat_length]; exact (List.getElem?_eq_some_iff.1 hu).1
  have hq : j / 6 < l.length := by omega
  rw [show j = (j / 6) * 6 + j % 6 from by omega, flat_get l _ _ hq (by omega)] at hu
  obtain ⟨b', o', e, h0, h1, h2, h3, h4, h5⟩ := h (j / 6) hq
  cases e
  rw [addr_add', show off + j = off + (j / 6) * 6 + j % 6 from by omega]
  generalize j / 6 = q at *
  have hr : j % 6 < 6 := by omega
  generalize j % 6 = r at *
  match r, hr with
  | 0, _ => rw [Nat.add_zero, h0]; exact hu
  | 1, _ => rw [h1]; exact hu
  | 2, _ => rw [h2]; exact hu
  | 3, _ => rw [h3]; exact hu
  | 4, _ => rw [h4]; exact hu
  | 5, _ => rw [h5]; exact hu
theorem sides_flat {w : World} {b : Nat} {l : List Side} (h : ∀ j u, (Go.Proofs.Ytffnnfdlelaonaa.flat l)[j]? = some u → w.cell? ((⟨b, 0, none⟩ : Addr).add j) = some u) : Sides w (some ⟨b, 0, none⟩) l := fun j hj => by
  refine ⟨b, 0, rfl, ?_⟩
  have g : ∀ r, r < 6 → w.cell? ⟨b, 0 + j * 6 + r, none⟩ = ((l[j]?.getD default).cells)[r]? := fun r hr => by
    have e := flat_get l j r hj hr
    have hs : ∃ u, ((l[j]?.getD default).cells)[r]? = some u := ⟨_, List.getElem?_eq_getElem (show r < 6 from hr)⟩
    obtain ⟨u, hu⟩ := hs
    have := h _ u (e.trans hu)
    rw [addr_add'] at this
    rw [hu, ← this, Nat.add_assoc]
  exact ⟨g 0 (by omega), g 1 (by omega), g 2 (by omega), g 3 (by omega), g 4 (by omega), g 5 (by omega)⟩
theorem own_keep {w w' : World} {base e size n : Nat} {v : Value} {xs : List Value} (h : w.ownsRow base e size v n xs) (hk : ∀ g, v.ownBlock = some g → g < w.heap.size → w'.heap[g]? = w.heap[g]?) : w'.ownsRow base e size v n xs := by
  refine ⟨h.1, ?_⟩
  rcases h.2 with h' | ⟨g, cap, cur, rfl, hb, hg, h1, h2, h3, h4⟩
  · exact .inl h'
  · exact .inr ⟨g, cap, cur, rfl, hb, (hk g rfl (Array.getElem?_eq_some_iff.1 hg).1).trans hg, h1, h2, h3, h4⟩
theorem own_block {w : World} {base e size n : Nat} {v : Value} {xs : List Value} (h : w.ownsRow base e size v n xs) {g : Nat} (hg : v.ownBlock = some g) : base ≤ g ∧ g < w.heap.size := by
  rcases h.2 with ⟨rfl, _⟩ | ⟨g', cap, cur, rfl, hb, hg', _⟩
  · simp [Value.ownBlock] at hg
  · simp only [Value.ownBlock, Option.some.injEq] at hg
    subst hg
    exact ⟨hb, (Array.getElem?_eq_some_iff.1 hg').1⟩
/-- a row of the call's own that holds sides -/
theorem own_sides {w : World} {base n : Nat} {v : Value} {l : List Side} (h : w.ownsRow base 30 6 v n (flat l)) (hn : n = l.length) (hp : 0 < n) : ∃ g cap, v = .slice (some ⟨g, 0, none⟩) n cap ∧ Sides w (some ⟨g, 0, none⟩) l := by
  have hc := fun g hg => h.cells (g := g) hg
  rcases h.2 with ⟨rfl, h0⟩ | ⟨g, cap, cur, rfl, hb, hg, _⟩
  · omega
  · exact ⟨g, cap, rfl, sides_flat (hc g rfl)⟩

theorem below_grown {w w' : World} (h : w.grownBy w' none) : Below w.heap.size w w' := ⟨h.os, h.tape, h.output, h.size, fun k hk => h.block k hk (by simp)⟩

/-- appending nothing -/
theorem run_append_none (W : World) (g cap : Nat) : (Builtin.append_ #[25, 25] 25 #[.slice (some ⟨g, 0, none⟩) 0 cap, .slice none 0 0]).run Try.prog W = .ok (.slice (some ⟨g, 0, none⟩) 0 cap) W := by
  obtain ⟨i, hi⟩ : ∃ i, Try.prog.info? 30 = some i := ⟨_, rfl⟩
  simp [Builtin.append_, run_underlying Try.underlying25, sizeOf, typeInfo, Builtin.lenOf, Builtin.firstCells, loadCells, loadCellsFrom, go_sem, hi]

end Go.Proofs.Ytffnnfdlelaonaa
