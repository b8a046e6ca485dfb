/- Rectangles in memory of the call's own: rows of cells, and appending to them. -/
import Derived.Test.YtnjifmoclfgegaaJ
import Derived.Maps.AppendAt
import Derived.OwnWalk
namespace Go.Proofs.Ytnjifmoclfgegaa
open Go.RowKit Go.Shelf
set_option linter.unusedVariables false

def flat (l : List Rect) : List Value := l.flatMap Rect.cells
theorem flat_cons (s : Rect) (l : List Rect) : flat (s :: l) = s.cells ++ flat l := by simp [flat]
theorem flat_append (l m : List Rect) : flat (l ++ m) = flat l ++ flat m := by simp [flat]
theorem flat_length (l : List Rect) : (flat l).length = l.length * 4 := by
  induction l with
  | nil => rfl
  | cons s l ih => rw [flat_cons, List.length_append, ih, List.length_cons]; show 4 + _ = _; omega
theorem flat_get : ∀ (l : List Rect) (q r : Nat), q < l.length → r < 4 → (flat l)[q * 4 + r]? = ((l[q]?.getD default).cells)[r]?
  | [], q, r, h, _ => by simp at h
  | s :: l, 0, r, _, hr => by
    rw [flat_cons, List.getElem?_append_left (by show 0 * 4 + r < 4; omega), Nat.zero_mul, Nat.zero_add]; rfl
  | s :: l, q + 1, r, h, hr => by
    rw [flat_cons, List.getElem?_append_right (by show 4 ≤ _; omega), show (q + 1) * 4 + r - s.cells.length = q * 4 + r from by show _ - 4 = _; omega, flat_get l q r (by simpa using h) hr]
    rfl
theorem flat_one (l : List Rect) : ∀ u ∈ flat l, u.oneCell' = true := by
  intro u hu
  simp only [flat, List.mem_flatMap] at hu
  obtain ⟨s, _, hs⟩ := hu
  simp only [Rect.cells, List.mem_cons, List.not_mem_nil, or_false] at hs
  rcases hs with rfl | rfl | rfl | rfl <;> rfl
theorem addr_add' (b o i : Nat) : (⟨b, o, none⟩ : Addr).add i = ⟨b, o + i, none⟩ := by
  unfold Addr.add
  split
  · rename_i h; subst h; rfl
  · rfl
theorem rects_flat {w : World} {b : Nat} {l : List Rect} (h : ∀ j u, (flat l)[j]? = some u → w.cell? ((⟨b, 0, none⟩ : Addr).add j) = some u) : Rects w (some ⟨b, 0, none⟩) l := fun j hj => by
  refine ⟨b, 0, rfl, ?_⟩
  have g : ∀ r, r < 4 → w.cell? ⟨b, 0 + j * 4 + r, none⟩ = ((l[j]?.getD default).cells)[r]? := fun r hr => by
    have e := flat_get l j r hj hr
    have hs : ∃ u, ((l[j]?.getD default).cells)[r]? = some u := ⟨_, List.getElem?_eq_getElem (show r < 4 from hr)⟩
    obtain ⟨u, hu⟩ := hs
    have := h _ u (e.trans hu)
    rw [addr_add'] at this
    rw [hu, ← this, Nat.add_assoc]
  exact ⟨g 0 (by omega), g 1 (by omega), g 2 (by omega), g 3 (by omega)⟩
theorem own_keep {w w' : World} {base e size n : Nat} {v : Value} {xs : List Value} (h : w.ownsRow base e size v n xs) (hk : ∀ g, v.ownBlock = some g → g < w.heap.size → w'.heap[g]? = w.heap[g]?) : w'.ownsRow base e size v n xs := by
  refine ⟨h.1, ?_⟩
  rcases h.2 with h' | ⟨g, cap, cur, rfl, hb, hg, h1, h2, h3, h4⟩
  · exact .inl h'
  · exact .inr ⟨g, cap, cur, rfl, hb, (hk g rfl (Array.getElem?_eq_some_iff.1 hg).1).trans hg, h1, h2, h3, h4⟩
theorem own_turn {W W' : World} {base e size n : Nat} {v : Value} {l : List Value} (h : W.ownsRow base e size v n l) (hb : Below W.heap.size W W') : W'.ownsRow base e size v n l := own_keep h fun g _ hg => hb.block g hg
theorem own_block {w : World} {base e size n : Nat} {v : Value} {xs : List Value} (h : w.ownsRow base e size v n xs) {g : Nat} (hg : v.ownBlock = some g) : base ≤ g ∧ g < w.heap.size := by
  rcases h.2 with ⟨rfl, _⟩ | ⟨g', cap, cur, rfl, hb, hg', _⟩
  · simp [Value.ownBlock] at hg
  · simp only [Value.ownBlock, Option.some.injEq] at hg
    subst hg
    exact ⟨hb, (Array.getElem?_eq_some_iff.1 hg').1⟩
/-- a row of the call's own that holds rectangles -/
theorem own_rects {w : World} {base n : Nat} {v : Value} {l : List Rect} (h : w.ownsRow base 47 4 v n (flat l)) (hn : n = l.length) : ∃ A cap, v = .slice A n cap ∧ Rects w A l := by
  have hc := fun g hg => h.cells (g := g) hg
  rcases h.2 with ⟨rfl, h0⟩ | ⟨g, cap, cur, rfl, hb, hg, _⟩
  · subst h0; exact ⟨none, 0, rfl, fun j hj => by omega⟩
  · exact ⟨_, cap, rfl, rects_flat (hc g rfl)⟩

/-- a block that is one rectangle -/
structure RRow (W : World) (B : Nat) (s : Rect) : Prop where
  at_ : W.heap[B]? = some (.cells s.arr 47 (0, 0))
theorem RRow.lt {W : World} {B : Nat} {s : Rect} (h : RRow W B s) : B < W.heap.size := (Array.getElem?_eq_some_iff.1 h.at_).1
theorem RRow.new (W : World) (s : Rect) : RRow (W.alloc (.cells s.arr 47)) W.heap.size s := ⟨heap_alloc_new _ _⟩
theorem RRow.turn {W W' : World} {B : Nat} {s : Rect} (h : RRow W B s) (hb : Below W.heap.size W W') : RRow W' B s := ⟨(hb.block B h.lt).trans h.at_⟩
/-- a block that is one place -/
structure PRow (W : World) (B : Nat) (s : Place) : Prop where
  at_ : W.heap[B]? = some (.cells s.arr 45 (0, 0))
theorem PRow.lt {W : World} {B : Nat} {s : Place} (h : PRow W B s) : B < W.heap.size := (Array.getElem?_eq_some_iff.1 h.at_).1
theorem PRow.new (W : World) (s : Place) : PRow (W.alloc (.cells s.arr 45)) W.heap.size s := ⟨heap_alloc_new _ _⟩
theorem PRow.turn {W W' : World} {B : Nat} {s : Place} (h : PRow W B s) (hb : Below W.heap.size W W') : PRow W' B s := ⟨(hb.block B h.lt).trans h.at_⟩
theorem PRow.cells {W : World} {B : Nat} {s : Place} (h : PRow W B s) :
    W.cell? ⟨B, 0, none⟩ = some (.int .i64 s.node) ∧ W.cell? ⟨B, 1, none⟩ = some (.int .i64 s.row) ∧ W.cell? ⟨B, 2, none⟩ = some (.int .i64 s.col) ∧
    W.cell? ⟨B, 3, none⟩ = some (.int .i64 s.rows) ∧ W.cell? ⟨B, 4, none⟩ = some (.int .i64 s.cols) := by
  simp [World.cell?, h.at_, Place.arr]

theorem info47 : (Try.prog.info? 47).map (fun i => (i.zero, i.size, i.bytes)) = some (some (.agg #[.int .i64 0, .int .i64 0, .int .i64 0, .int .i64 0]), 4, 32) := by kernel_rfl

/-- a rectangle is appended to a row of the call's own -/
theorem wp_append_rect {o : Oper} {a : Act} {w : World} {K : Act → World → Prop} {Q : Exit → Act → World → Prop} (base : Nat) (x z : Operand) (ho : o.op = .call { callee := .builtin .append, args := #[x, z], argTypes := #[39, 39] })
    (v : Value) (n : Nat) (l : List Rect) (hx : a.eval x = v) (hown : w.ownsRow base 47 4 v n (flat l)) (M : Nat) (r : Rect) (hz : a.eval z = .slice (some ⟨M, 0, none⟩) 1 1) (hm : RRow w M r) (hn : n ≤ 1000000) (hbase : base ≤ w.heap.size)
    (h : ∀ v' W', W'.ownsRow base 47 4 v' (n + 1) (flat (l ++ [r])) → w.grownBy W' v.ownBlock → K (a.put o.dst v') W') : o.wp Try.prog a w K Q := by
  obtain ⟨i0, hi, hz0, hz1, hz2⟩ := info_parts info47
  have hc : ∀ j u, (flat [r])[j]? = some u → w.cell? ((⟨M, 0, none⟩ : Addr).add j) = some u := by
    intro j u hu
    have hj : j < 4 := by have := (List.getElem?_eq_some_iff.1 hu).1; rw [flat_length] at this; simpa using this
    rw [addr_add', Nat.zero_add]
    have e : (flat [r])[j]? = r.cells[j]? := by simp [flat]
    rw [e] at hu
    rw [← hu]
    match j, hj with
    | 0, _ => simp [World.cell?, hm.at_, Rect.arr, Rect.cells]
    | 1, _ => simp [World.cell?, hm.at_, Rect.arr, Rect.cells]
    | 2, _ => simp [World.cell?, hm.at_, Rect.arr, Rect.cells]
    | 3, _ => simp [World.cell?, hm.at_, Rect.arr, Rect.cells]
  obtain ⟨v', W', hr, ho', hg, _, _⟩ := run_append_own_at (P := Try.prog) w base 39 o.type 47 i0 _ 4 32 Try.underlying39 hi hz0 hz1 hz2 rfl (by decide) v n (flat l) hown ⟨M, 0, none⟩ 1 1 (flat [r]) (flat_length [r]) hc (flat_one [r]) (by unfold maxLen; omega) (by omega) hbase
  unfold Oper.wp execOp
  simp only [ho, resolve, invoke, builtin, Sem.run_bind, Sem.run_pure, Result.andThen_ok, List.map_toArray, List.map_cons, List.map_nil, hx, hz, hr]
  exact h v' W' (by rw [flat_append]; exact ho') hg

end Go.Proofs.Ytnjifmoclfgegaa
