/- The walk of the law ContestMore by the contracts. -/
import Derived.Test.YtffnnfdlelaonaaM1
import Derived.Test.YtffnnfdlelaonaaInv2
import Derived.Laws.OwnMore
import Derived.OwnWalk
namespace Go.Proofs.Ytffnnfdlelaonaa
open Go.RowKit Go.Shelf
set_option linter.unusedVariables false

def CutSaid (A : Option Addr) (n c : Nat) (w : World) (e : Ending) (w' : World) : Prop := ∃ m, (m = min n 60 ∧ e = .returned (.slice A m c)) ∧ w = w'
/-- purflinglaw11.cut -/
theorem c14 (A : Option Addr) (n c : Nat) (w : World) (hc : n ≤ c) (hl : n ≤ 17592186044416) :
    Calls Try.prog 14 #[.slice A n c] w (CutSaid A n c w) := by
  by_cases h : n ≤ 60
  · go_enter Try.func14, Try.ntmps14
    go_wp2
    go_ret
    exact ⟨_, ⟨by omega, rfl⟩, rfl⟩
  · go_enter Try.func14, Try.ntmps14
    go_wp2
    go_ret
    exact ⟨_, ⟨by omega, rfl⟩, rfl⟩
theorem Sides.take {w : World} {A : Option Addr} {xs : List Side} (h : Sides w A xs) (n : Nat) : Sides w A (xs.take n) := fun j hj => by
  obtain ⟨b, off, hA, hc⟩ := h j (by rw [List.length_take] at hj; omega)
  refine ⟨b, off, hA, ?_⟩
  rw [List.getElem?_take, if_pos (by rw [List.length_take] at hj; omega)]
  exact hc

/-- the memory of the call's own while the sides are put together -/
structure Mem (base : Nat) (xs : List Side) (s y : Side) (W : World) (d0 d2 d4 d5 d10 d11 : Bool) (v8 v19 v21 v23 v24 : Value) : Prop where
  le : base ≤ W.heap.size
  row : d0 = true → ∃ N, v19 = .slice (some ⟨N, 0, none⟩) 0 61 ∧ base ≤ N ∧ (d2 = true → v21 = .slice (some ⟨N, 0, none⟩) xs.length 61) ∧ (d5 = true → v24 = .slice (some ⟨N, 0, none⟩) (xs.length + 1) 61) ∧
    (d2 = false → W.ownsRow base 30 6 (.slice (some ⟨N, 0, none⟩) 0 61) 0 []) ∧ (d2 = true → d5 = false → W.ownsRow base 30 6 (.slice (some ⟨N, 0, none⟩) xs.length 61) xs.length (flat xs)) ∧
    (d5 = true → W.ownsRow base 30 6 (.slice (some ⟨N, 0, none⟩) (xs.length + 1) 61) (xs.length + 1) (flat (xs ++ [s]))) ∧
    N < W.heap.size ∧ (d4 = true → v23 ≠ .slice (some ⟨N, 0, none⟩) 1 1) ∧ (d10 = true → v8 ≠ .pointer (some ⟨N, 0, none⟩))
  one : d4 = true → ∃ M, v23 = .slice (some ⟨M, 0, none⟩) 1 1 ∧ base ≤ M ∧ Row W M s ∧ (d10 = true → v8 ≠ .pointer (some ⟨M, 0, none⟩))
  box : d10 = true → ∃ K, v8 = .pointer (some ⟨K, 0, none⟩) ∧ base ≤ K ∧ Row W K (if d11 = true then y else default)
  o20 : d2 = true → d0 = true
  o52 : d5 = true → d2 = true
  o11 : d11 = true → d10 = true

variable {base : Nat} {xs : List Side} {s y : Side} {W W' : World} {d0 d2 d4 d5 d10 d11 : Bool} {v8 v19 v21 v23 v24 : Value}
theorem own_turn {e size n : Nat} {v : Value} {l : List Value} (h : W.ownsRow base e size v n l) (hb : Below W.heap.size W W') : W'.ownsRow base e size v n l := own_keep h fun g _ hg => hb.block g hg
theorem Mem.turn (h : Mem base xs s y W d0 d2 d4 d5 d10 d11 v8 v19 v21 v23 v24) (hb : Below W.heap.size W W') : Mem base xs s y W' d0 d2 d4 d5 d10 d11 v8 v19 v21 v23 v24 :=
  ⟨Nat.le_trans h.le hb.size, fun e => by
    obtain ⟨N, h1, h2, h3, h4, h5, h6, h7, h8, h9, h10⟩ := h.row e
    exact ⟨N, h1, h2, h3, h4, fun q => own_turn (h5 q) hb, fun q r => own_turn (h6 q r) hb, fun q => own_turn (h7 q) hb, Nat.lt_of_lt_of_le h8 hb.size, h9, h10⟩,
   fun e => by
    obtain ⟨M, h1, h2, h3, h4⟩ := h.one e
    exact ⟨M, h1, h2, h3.turn hb, h4⟩,
   fun e => by
    obtain ⟨K, h1, h2, h3⟩ := h.box e
    exact ⟨K, h1, h2, h3.turn hb⟩, h.o20, h.o52, h.o11⟩
/-- the slice is made -/
theorem Mem.make (h : Mem base xs s y W false d2 d4 d5 d10 d11 v8 v19 v21 v23 v24) (hb : Below W.heap.size W W') (hs : W.heap.size < W'.heap.size)
    (ho : W'.ownsRow base 30 6 (.slice (some ⟨W.heap.size, 0, none⟩) 0 61) 0 []) : Mem base xs s y W' true d2 d4 d5 d10 d11 v8 (.slice (some ⟨W.heap.size, 0, none⟩) 0 61) v21 v23 v24 := by
  have k := h.turn hb
  have q2 : d2 = true → False := fun e => by have := h.o20 e; simp at this
  refine ⟨k.le, fun _ => ⟨W.heap.size, rfl, h.le, fun e => (q2 e).elim, fun e => (q2 (h.o52 e)).elim, fun _ => ho, fun e => (q2 e).elim, fun e => (q2 (h.o52 e)).elim, hs, fun e e' => ?_, fun e e' => ?_⟩, k.one, k.box, fun _ => rfl, h.o52, h.o11⟩
  · obtain ⟨M, h1, _, h3, _⟩ := h.one e
    have := h3.lt; rw [h1] at e'; simp at e' <;> omega
  · obtain ⟨K, h1, _, h3⟩ := h.box e
    have := h3.lt; rw [h1] at e'; simp at e' <;> omega
/-- the one side is laid -/
theorem Mem.lay (h : Mem base xs s y W d0 d2 false d5 d10 d11 v8 v19 v21 v23 v24) : Mem base xs s y (W.alloc (.cells s.arr 30)) d0 d2 true d5 d10 d11 v8 v19 v21 (.slice (some ⟨W.heap.size, 0, none⟩) 1 1) v24 := by
  have hb : Below W.heap.size W (W.alloc (.cells s.arr 30)) := (Below.refl _ _).alloc (Nat.le_refl _) _
  have k := h.turn hb
  refine ⟨k.le, fun e => ?_, fun _ => ⟨W.heap.size, rfl, h.le, Row.new _ _, fun e e' => ?_⟩, k.box, h.o20, h.o52, h.o11⟩
  · obtain ⟨N, h1, h2, h3, h4, h5, h6, h7, h8, h9, h10⟩ := k.row e
    obtain ⟨N', g1, _, _, _, _, _, _, g8, _⟩ := h.row e
    rw [h1] at g1
    simp at g1
    subst g1
    exact ⟨N, h1, h2, h3, h4, h5, h6, h7, h8, fun _ e' => by simp at e' <;> omega, h10⟩
  · obtain ⟨K, h1, _, h3⟩ := h.box e
    have := h3.lt; rw [h1] at e'; simp at e' <;> omega
/-- the box is made -/
theorem Mem.boxed (h : Mem base xs s y W d0 d2 d4 d5 false d11 v8 v19 v21 v23 v24) : Mem base xs s y (W.alloc (.cells (default : Side).arr 30)) d0 d2 d4 d5 true d11 (.pointer (some ⟨W.heap.size, 0, none⟩)) v19 v21 v23 v24 := by
  have hb : Below W.heap.size W (W.alloc (.cells (default : Side).arr 30)) := (Below.refl _ _).alloc (Nat.le_refl _) _
  have k := h.turn hb
  have q : d11 = false := by cases hd : d11 with
    | false => rfl
    | true => exact absurd (h.o11 hd) (by simp)
  subst q
  refine ⟨k.le, fun e => ?_, fun e => ?_, fun _ => ⟨W.heap.size, rfl, h.le, Row.new _ _⟩, h.o20, h.o52, fun e => by simp at e⟩
  · obtain ⟨N, h1, h2, h3, h4, h5, h6, h7, h8, h9, h10⟩ := k.row e
    obtain ⟨N', g1, _, _, _, _, _, _, g8, _⟩ := h.row e
    rw [h1] at g1
    simp at g1
    subst g1
    exact ⟨N, h1, h2, h3, h4, h5, h6, h7, h8, h9, fun _ e' => by simp at e' <;> omega⟩
  · obtain ⟨M, h1, h2, h3, h4⟩ := k.one e
    obtain ⟨M', g1, _, g3, _⟩ := h.one e
    rw [h1] at g1
    simp at g1
    subst g1
    have := g3.lt
    exact ⟨M, h1, h2, h3, fun _ e' => by simp at e' <;> omega⟩
/-- what a write into one row leaves -/
theorem Mem.wrote {N : Nat} (h : Mem base xs s y W true d2 d4 d5 d10 d11 v8 (.slice (some ⟨N, 0, none⟩) 0 61) v21 v23 v24) (hg : W.grownBy W' (some N)) :
    (d4 = true → ∃ M, v23 = .slice (some ⟨M, 0, none⟩) 1 1 ∧ base ≤ M ∧ Row W' M s ∧ (d10 = true → v8 ≠ .pointer (some ⟨M, 0, none⟩))) ∧
    (d10 = true → ∃ K, v8 = .pointer (some ⟨K, 0, none⟩) ∧ base ≤ K ∧ Row W' K (if d11 = true then y else default)) := by
  obtain ⟨N', g1, _, _, _, _, _, _, _, g9, g10⟩ := h.row rfl
  simp at g1
  subst g1
  refine ⟨fun e => ?_, fun e => ?_⟩
  · obtain ⟨M, h1, h2, h3, h4⟩ := h.one e
    refine ⟨M, h1, h2, ⟨(hg.block M h3.lt (fun q => g9 e (by rw [h1]; simp at q; rw [q]))).trans h3.at_⟩, h4⟩
  · obtain ⟨K, h1, h2, h3⟩ := h.box e
    refine ⟨K, h1, h2, ⟨(hg.block K h3.lt (fun q => g10 e (by rw [h1]; simp at q; rw [q]))).trans h3.at_⟩⟩
theorem Mem.first {N : Nat} (h : Mem base xs s y W true false d4 d5 d10 d11 v8 (.slice (some ⟨N, 0, none⟩) 0 61) v21 v23 v24) (hg : W.grownBy W' (some N)) (ho : W'.ownsRow base 30 6 (.slice (some ⟨N, 0, none⟩) xs.length 61) xs.length (flat xs)) :
    Mem base xs s y W' true true d4 d5 d10 d11 v8 (.slice (some ⟨N, 0, none⟩) 0 61) (.slice (some ⟨N, 0, none⟩) xs.length 61) v23 v24 := by
  obtain ⟨k1, k2⟩ := h.wrote hg
  have q5 : d5 = true → False := fun e => by have := h.o52 e; simp at this
  obtain ⟨N', g1, g2, _, _, _, _, _, g8, g9, g10⟩ := h.row rfl
  simp at g1
  subst g1
  exact ⟨Nat.le_trans h.le hg.size, fun _ => ⟨N, rfl, g2, fun _ => rfl, fun e => (q5 e).elim, fun e => by simp at e, fun _ _ => ho, fun e => (q5 e).elim, Nat.lt_of_lt_of_le g8 hg.size, g9, g10⟩, k1, k2, fun _ => rfl, fun _ => rfl, h.o11⟩
theorem Mem.last {N : Nat} (h : Mem base xs s y W true true d4 false d10 d11 v8 (.slice (some ⟨N, 0, none⟩) 0 61) v21 v23 v24) (hg : W.grownBy W' (some N)) (ho : W'.ownsRow base 30 6 (.slice (some ⟨N, 0, none⟩) (xs.length + 1) 61) (xs.length + 1) (flat (xs ++ [s]))) :
    Mem base xs s y W' true true d4 true d10 d11 v8 (.slice (some ⟨N, 0, none⟩) 0 61) v21 v23 (.slice (some ⟨N, 0, none⟩) (xs.length + 1) 61) := by
  obtain ⟨k1, k2⟩ := h.wrote hg
  obtain ⟨N', g1, g2, g3, _, _, _, _, g8, g9, g10⟩ := h.row rfl
  simp at g1
  subst g1
  exact ⟨Nat.le_trans h.le hg.size, fun _ => ⟨N, rfl, g2, g3, fun _ => rfl, fun e => by simp at e, fun _ e => by simp at e, fun _ => ho, Nat.lt_of_lt_of_le g8 hg.size, g9, g10⟩, k1, k2, fun _ => rfl, fun _ => rfl, h.o11⟩
theorem Mem.put {K : Nat} (h : Mem base xs s y W d0 d2 d4 d5 true false (.pointer (some ⟨K, 0, none⟩)) v19 v21 v23 v24) :
    Mem base xs s y (W.setRow K y.arr) d0 d2 d4 d5 true true (.pointer (some ⟨K, 0, none⟩)) v19 v21 v23 v24 := by
  obtain ⟨K', h1, h2, h3⟩ := h.box rfl
  simp at h1
  subst h1
  have ho : ∀ k, k ≠ K → (W.setRow K y.arr).heap[k]? = W.heap[k]? := fun k hk => setRow_other _ _ _ _ hk
  refine ⟨by simpa using h.le, fun e => ?_, fun e => ?_, fun _ => ⟨K, rfl, h2, ⟨setRow_heap _ _ _ _ _ _ h3.at_⟩⟩, h.o20, h.o52, fun _ => rfl⟩
  · obtain ⟨N, g1, g2, g3, g4, g5, g6, g7, g8, g9, g10⟩ := h.row e
    have hN : ∀ (n : Nat) (g : Nat), (Value.slice (some ⟨N, 0, none⟩) n 61).ownBlock = some g → g < W.heap.size → (W.setRow K y.arr).heap[g]? = W.heap[g]? := fun n g hg _ => ho g (fun q => g10 rfl (by simp [Value.ownBlock] at hg; rw [hg, q]))
    exact ⟨N, g1, g2, g3, g4, fun q => own_keep (g5 q) (hN _), fun q r => own_keep (g6 q r) (hN _), fun q => own_keep (g7 q) (hN _), by simpa using g8, g9, g10⟩
  · obtain ⟨M, g1, g2, g3, g4⟩ := h.one e
    exact ⟨M, g1, g2, ⟨(ho M (fun q => g4 rfl (by rw [q]))).trans g3.at_⟩, g4⟩

theorem info30 : (Try.prog.info? 30).map (fun i => (i.zero, i.size, i.bytes)) = some (some (.agg #[.int .i64 0, .int .i64 0, .int .u32 0, .int .i64 0, .int .i64 0, .int .i64 0]), 6, 48) := by kernel_rfl

theorem sides_cells {w : World} {ad : Addr} {m : List Side} (h : Sides w (some ad) m) : ∀ j u, (flat m)[j]? = some u → w.cell? (ad.add j) = some u := by
  cases m with
  | nil => intro j u hu; simp [flat] at hu
  | cons x l =>
    obtain ⟨b, off, e, _⟩ := h 0 (by simp)
    cases e
    exact h.flat
section
variable {o : Oper} {a : Act} {w : World} {K : Act → World → Prop} {Q : Exit → Act → World → Prop}
theorem wp_make (base : Nat) (x z : Operand) (ho : o.op = .makeSlice 25 x z) (hx : a.eval x = .int .i64 0) (hz : a.eval z = .int .i64 61) (hbase : base ≤ w.heap.size)
    (h : ∀ W', W'.ownsRow base 30 6 (.slice (some ⟨w.heap.size, 0, none⟩) 0 61) 0 [] → w.grownBy W' none → K (a.put o.dst (.slice (some ⟨w.heap.size, 0, none⟩) 0 61)) W') : o.wp Try.prog a w K Q := by
  obtain ⟨i0, hi, hz0, hz1, hz2⟩ := info_parts info30
  obtain ⟨W', hr, hown, hg⟩ := run_makeSlice_owned (P := Try.prog) w base 25 30 i0 _ 6 Try.underlying25 hi hz0 hz1 .i64 .i64 61 (by decide) (by rw [hz2]; decide) (by decide) hbase
  have hr' : (Instr.makeSlice 25 (.int .i64 0) (.int .i64 61)).run Try.prog w = .ok (.slice (some ⟨w.heap.size, 0, none⟩) 0 61) W' := hr
  unfold Oper.wp execOp
  simp only [ho, hx, hz, Sem.run_bind, Sem.run_pure, Result.andThen_ok, hr']
  exact h W' hown hg
theorem wp_append_fits (base : Nat) (x z : Operand) (ho : o.op = .call { callee := .builtin .append, args := #[x, z], argTypes := #[25, 25] }) (g n : Nat) (l : List Side) (hx : a.eval x = .slice (some ⟨g, 0, none⟩) n 61)
    (hown : w.ownsRow base 30 6 (.slice (some ⟨g, 0, none⟩) n 61) n (flat l)) (ad : Addr) (c : Nat) (m : List Side) (hz : a.eval z = .slice (some ad) m.length c) (hm : Sides w (some ad) m) (hroom : n + m.length ≤ 61)
    (h : ∀ W', W'.ownsRow base 30 6 (.slice (some ⟨g, 0, none⟩) (n + m.length) 61) (n + m.length) (flat (l ++ m)) → w.grownBy W' (some g) → K (a.put o.dst (.slice (some ⟨g, 0, none⟩) (n + m.length) 61)) W') : o.wp Try.prog a w K Q := by
  obtain ⟨i0, hi, hz0, hz1, hz2⟩ := info_parts info30
  obtain ⟨W', hr, ho', hg⟩ := run_append_fits (P := Try.prog) w base 25 o.type 30 i0 6 Try.underlying25 hi hz1 g n 61 (flat l) hown ad m.length c (flat m) (flat_length m) (sides_cells hm) (flat_one m) hroom
  unfold Oper.wp execOp
  simp only [ho, resolve, invoke, builtin, Sem.run_bind, Sem.run_pure, Result.andThen_ok, List.map_toArray, List.map_cons, List.map_nil, hx, hz, hr]
  exact h W' (by rw [flat_append]; exact ho') hg
theorem wp_append_none (base : Nat) (x z : Operand) (ho : o.op = .call { callee := .builtin .append, args := #[x, z], argTypes := #[25, 25] }) (v : Value) (n : Nat) (l : List Value) (hx : a.eval x = v)
    (hown : w.ownsRow base 30 6 v n l) (hz : a.eval z = .slice none 0 0) (h : K (a.put o.dst v) w) : o.wp Try.prog a w K Q := by
  obtain ⟨i0, hi, hz0, hz1, hz2⟩ := info_parts info30
  have hr := run_append_owned_none (P := Try.prog) w base 25 o.type 30 i0 6 Try.underlying25 hi v n l hown
  unfold Oper.wp execOp
  simp only [ho, resolve, invoke, builtin, Sem.run_bind, Sem.run_pure, Result.andThen_ok, List.map_toArray, List.map_cons, List.map_nil, hx, hz, hr]
  exact h
end
end Go.Proofs.Ytffnnfdlelaonaa
