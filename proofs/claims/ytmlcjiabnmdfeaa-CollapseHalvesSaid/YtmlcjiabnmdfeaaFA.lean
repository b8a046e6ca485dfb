/- Memory while a table of slots is filled: its rows, its boxes. -/
import Derived.Test.YtmlcjiabnmdfeaaE
import Derived.RangeFuncNested
namespace Go.Proofs.Ytmlcjiabnmdfeaa
open Go Go.RowKit Go.Shelf CT
set_option linter.unusedVariables false

/-- what lies where while the table is filled -/
structure SlW (w W : World) (H0 R : Nat) (vs : Nat → Value) (n : Nat → Nat) (f : Nat → Nat → Int) : Prop where
  tab : Tab W H0 (H0 + 4) R vs n f
  b0 : Boxed W H0 63 (.slice none 0 0)
  b1 : Boxed W (H0 + 1) 35 (.int .i64 0)
  b5 : Boxed W (H0 + 5) 63 (.slice (some ⟨H0 + 4, 0, none⟩) R R)
  nb : ∀ r, r < R → ∀ b, (vs r).ownBlock = some b → H0 + 6 ≤ b
  bl : Below H0 w W
section
variable {w W W' : World} {H0 R : Nat} {vs : Nat → Value} {n : Nat → Nat} {f : Nat → Nat → Int}
theorem SlW.turn (h : SlW w W H0 R vs n f) (hb : Below W.heap.size W W') : SlW w W' H0 R vs n f := by
  have hs := h.tab.lt
  have h5 : H0 + 5 < W.heap.size := (Array.getElem?_eq_some_iff.1 h.b5).1
  exact ⟨h.tab.turn hb, (hb.block _ (by omega)).trans h.b0, (hb.block _ (by omega)).trans h.b1, (hb.block _ (by omega)).trans h.b5, h.nb, h.bl.trans (hb.mono (by omega))⟩
theorem SlW.size (h : SlW w W H0 R vs n f) : H0 + 6 ≤ W.heap.size := (Array.getElem?_eq_some_iff.1 h.b5).1
/-- a row grows by one number, and is laid at its place -/
theorem SlW.grow (h : SlW w W H0 R vs n f) {r : Nat} (hr : r < R) {W1 : World} {v' : Value} {x : Int} (hown : W1.ownsRow H0 3 1 v' (n r + 1) (ints (f r) (n r) ++ [.int .i64 x]))
    (hg : W.grownBy W1 (vs r).ownBlock) (hb : v'.ownBlock = (vs r).ownBlock ∨ v'.ownBlock = some W.heap.size) : SlW w (W1.setCell ⟨H0 + 4, r, none⟩ v') H0 R (upd vs r v') (upd n r (n r + 1)) (upd f r (upd (f r) (n r) x)) := by
  have hs := h.size
  have hn := h.nb r hr
  have k : ∀ B t v, B ≠ H0 + 4 → B < H0 + 6 → Boxed W B t v → Boxed (W1.setCell ⟨H0 + 4, r, none⟩ v') B t v := fun B t v h1 h2 h3 => by
    show (W1.setCell ⟨H0 + 4, r, none⟩ v').heap[B]? = _
    rw [heap_set_other W1 r v' h1, hg.block B (by omega) fun e => by have := hn B e.symm; omega]
    exact h3
  refine ⟨h.tab.grow hr hown hg hb, k _ _ _ (by omega) (by omega) h.b0, k _ _ _ (by omega) (by omega) h.b1, k _ _ _ (by omega) (by omega) h.b5, fun r' hr' b hb' => ?_, ?_⟩
  · by_cases e : r' = r
    · subst e
      rw [upd_same] at hb'
      rcases hb with hb | hb
      · exact hn b (by rw [← hb, hb'])
      · rw [hb] at hb'; injection hb' with hb'; omega
    · rw [upd_ne _ _ e] at hb'; exact h.nb r' hr' b hb'
  · exact (h.bl.grown hg (by omega) fun k hk => by have := hn k hk; omega).setCell (p := ⟨H0 + 4, r, none⟩) (by show H0 ≤ H0 + 4; omega) v'
theorem SlW.set (h : SlW w W H0 R vs n f) {r c b cap : Nat} (hr : r < R) (hc : c < n r) (hv : vs r = .slice (some ⟨b, 0, none⟩) (n r) cap) (x : Int) : SlW w (W.setCell ⟨b, c, none⟩ (.int .i64 x)) H0 R vs n (upd f r (upd (f r) c x)) := by
  have hn := h.nb r hr b (by rw [hv]; rfl)
  have k : ∀ B t v, B < H0 + 6 → Boxed W B t v → Boxed (W.setCell ⟨b, c, none⟩ (.int .i64 x)) B t v := fun B t v h2 h3 => (heap_set_other W c _ (by omega)).trans h3
  exact ⟨h.tab.set hr hc hv x, k _ _ _ (by omega) h.b0, k _ _ _ (by omega) h.b1, k _ _ _ (by omega) h.b5, h.nb, h.bl.setCell (p := ⟨b, c, none⟩) (by show H0 ≤ b; omega) _⟩
theorem SlW.cell4 (h : SlW w W H0 R vs n f) {r : Nat} (hr : r < R) {W1 : World} (hg : W.grownBy W1 (vs r).ownBlock) : W1.cell? ⟨H0 + 4, r, none⟩ = some (vs r) ∧ W1.frozen? ⟨H0 + 4, r, none⟩ = false := by
  have hs := h.size
  have e : W1.heap[H0 + 4]? = W.heap[H0 + 4]? := hg.block _ (by omega) fun e => by have := h.nb r hr _ e.symm; omega
  exact ⟨(World.cell?_of_block (w := W) (a := ⟨H0 + 4, r, none⟩) e).trans (h.tab.cell hr).1, (World.frozen?_of_block (w := W) (a := ⟨H0 + 4, r, none⟩) e).trans (h.tab.cell hr).2⟩
theorem grown_ext {W W1 W2 : World} {row : Option Nat} (hg : W.grownBy W1 row) (hb : Below W1.heap.size W1 W2) : W.grownBy W2 row :=
  ⟨hb.os.trans hg.os, hb.tape.trans hg.tape, hb.output.trans hg.output, Nat.le_trans hg.size hb.size, fun k hk hn => (hb.block k (Nat.lt_of_lt_of_le hk hg.size)).trans (hg.block k hk hn)⟩
theorem upd_const (i c : Nat) : upd (fun _ _ => (-1 : Int)) i (upd (fun _ => -1) c (-1)) = fun _ _ => -1 := by
  funext r k
  unfold upd
  split
  · dsimp only; split <;> rfl
  · rfl
theorem upd_step (C i k : Nat) : upd (fun r => if r < i then C else if r = i then k else 0) i (k + 1) = fun r => if r < i then C else if r = i then k + 1 else 0 := by
  funext r
  unfold upd
  by_cases e : r = i
  · subst e; simp
  · simp [e]
theorem upd_full (C i : Nat) : (fun r => if r < i then C else if r = i then C else 0) = fun r => if r < i + 1 then C else 0 := by
  funext r
  by_cases e : r < i
  · rw [if_pos e, if_pos (by omega)]
  · rw [if_neg e]
    by_cases e2 : r = i
    · rw [if_pos e2, if_pos (by omega)]
    · rw [if_neg e2, if_neg (by omega)]
theorem own_some {W : World} {base e size n : Nat} {v : Value} {l : List Value} (h : W.ownsRow base e size v n l) (hn : n ≠ 0) : ∃ b c, v = .slice (some ⟨b, 0, none⟩) n c := by
  rcases h.2 with ⟨_, h0⟩ | ⟨g, cap, cur, hv, _⟩
  · exact absurd h0 hn
  · exact ⟨g, cap, hv⟩
theorem SlW.congr_n (h : SlW w W H0 R vs n f) {n' : Nat → Nat} (e : ∀ r, r < R → n r = n' r) : SlW w W H0 R vs n' f :=
  ⟨⟨h.tab.le, h.tab.blk, fun r hr => by rw [← e r hr]; exact h.tab.row r hr, h.tab.dist, h.tab.ne⟩, h.b0, h.b1, h.b5, h.nb, h.bl⟩
theorem SlW.start (h : SlW w W H0 R vs n (fun _ _ => -1)) (ps : List Place) : SlW w W H0 R vs n (whoTo ps 0) := h
theorem slw_made {w : World} {H0 R : Nat} (hH : H0 = w.heap.size) (C : Nat) : SlW w ((((((w.alloc (.cells #[.slice none 0 0] 63)).alloc (.cells #[.int .i64 0] 35)).alloc (.cells #[.int .i64 R] 3)).alloc (.cells #[.int .i64 C] 3)).alloc (.cells (madeCells #[.slice none 0 0] R) 90)).alloc (.cells #[.slice (some ⟨H0 + 4, 0, none⟩) R R] 63)) H0 R (fun _ => .slice none 0 0) (fun _ => 0) (fun _ _ => -1) := by
  subst hH
  refine ⟨?_, ?_, ?_, ?_, fun r _ b hb => by simp [Value.ownBlock] at hb, ?_⟩
  · have h := tab_made ((((w.alloc (.cells #[.slice none 0 0] 63)).alloc (.cells #[.int .i64 0] 35)).alloc (.cells #[.int .i64 R] 3)).alloc (.cells #[.int .i64 C] 3)) w.heap.size R (by simp; omega)
    have e : ((((w.alloc (.cells #[.slice none 0 0] 63)).alloc (.cells #[.int .i64 0] 35)).alloc (.cells #[.int .i64 R] 3)).alloc (.cells #[.int .i64 C] 3)).heap.size = w.heap.size + 4 := by simp
    rw [e] at h
    exact h.turn ((Below.refl _ _).alloc (Nat.le_refl _) _)
  · exact (((((Boxed.new w 63 _).alloc _).alloc _).alloc _).alloc _).alloc _
  · have h := (((((Boxed.new (w.alloc (.cells #[.slice none 0 0] 63)) 35 (.int .i64 0)).alloc (.cells #[.int .i64 R] 3)).alloc (.cells #[.int .i64 C] 3)).alloc (.cells (madeCells #[.slice none 0 0] R) 90)).alloc (.cells #[.slice (some ⟨w.heap.size + 4, 0, none⟩) R R] 63))
    have e : (w.alloc (.cells #[.slice none 0 0] 63)).heap.size = w.heap.size + 1 := by simp
    rw [e] at h
    exact h
  · have h := Boxed.new (((((w.alloc (.cells #[.slice none 0 0] 63)).alloc (.cells #[.int .i64 0] 35)).alloc (.cells #[.int .i64 R] 3)).alloc (.cells #[.int .i64 C] 3)).alloc (.cells (madeCells #[.slice none 0 0] R) 90)) 63 (.slice (some ⟨w.heap.size + 4, 0, none⟩) R R)
    have e : (((((w.alloc (.cells #[.slice none 0 0] 63)).alloc (.cells #[.int .i64 0] 35)).alloc (.cells #[.int .i64 R] 3)).alloc (.cells #[.int .i64 C] 3)).alloc (.cells (madeCells #[.slice none 0 0] R) 90)).heap.size = w.heap.size + 5 := by simp
    rw [e] at h
    exact h
  · exact ((((((Below.refl _ w).alloc (by simp) _).alloc (by simp; try omega) _).alloc (by simp; try omega) _).alloc (by simp; try omega) _).alloc (by simp; try omega) _).alloc (by simp; try omega) _
end

/-! ### Marks of ranges over functions that have ended -/
def coll (D : Nat) : Deferred := { target := .collected D, args := #[] }
structure Marks (W : World) (B : Nat) (Ds : List Nat) : Prop where
  nd : Ds.Nodup
  at_ : ∀ D ∈ Ds, B ≤ D ∧ W.heap[D]? = some (.deferred (some []))
theorem Marks.nil (W : World) (B : Nat) : Marks W B [] := ⟨List.nodup_nil, fun D h => by cases h⟩
theorem Marks.lt {W : World} {B : Nat} {Ds : List Nat} (h : Marks W B Ds) {D : Nat} (hD : D ∈ Ds) : D < W.heap.size := (Array.getElem?_eq_some_iff.1 (h.at_ D hD).2).1
theorem Marks.keep {W W' : World} {B : Nat} {Ds : List Nat} (h : Marks W B Ds) (hk : ∀ D ∈ Ds, W'.heap[D]? = W.heap[D]?) : Marks W' B Ds := ⟨h.nd, fun D hD => ⟨(h.at_ D hD).1, (hk D hD).trans (h.at_ D hD).2⟩⟩
theorem Marks.turn {W W' : World} {B : Nat} {Ds : List Nat} (h : Marks W B Ds) (hb : Below W.heap.size W W') : Marks W' B Ds := h.keep fun D hD => hb.block D (h.lt hD)
theorem Marks.cons {W : World} {B D : Nat} {Ds : List Nat} (h : Marks W B Ds) (hB : B ≤ D) (hD : W.heap[D]? = some (.deferred (some []))) (hn : D ∉ Ds) : Marks W B (D :: Ds) := ⟨List.nodup_cons.2 ⟨hn, h.nd⟩, fun E hE => by
  rcases List.mem_cons.1 hE with rfl | hE
  · exact ⟨hB, hD⟩
  · exact h.at_ E hE⟩
theorem Marks.set {W : World} {B : Nat} {Ds : List Nat} (h : Marks W B Ds) {b i : Nat} {v u : Value} (hc : W.cell? ⟨b, i, none⟩ = some u) : Marks (W.setCell ⟨b, i, none⟩ v) B Ds := h.keep fun D hD => heap_set_other W i v fun e => by
  subst e
  simp [World.cell?, (h.at_ D hD).2] at hc
/-- the marks are shut, all cells are as they were -/
structure ShutD (B : Nat) (W W' : World) : Prop where
  os : W'.os = W.os
  tape : W'.tape = W.tape
  output : W'.output = W.output
  size : W.heap.size ≤ W'.heap.size
  low : ∀ b : Nat, b < B → W'.heap[b]? = W.heap[b]?
  cells : ∀ (b : Nat) cs t fr, W.heap[b]? = some (Obj.cells cs t fr) → W'.heap[b]? = some (Obj.cells cs t fr)
theorem ShutD.below {B : Nat} {W W' : World} (h : ShutD B W W') : Below B W W' := ⟨h.os, h.tape, h.output, h.size, h.low⟩
theorem ShutD.boxed {B : Nat} {W W' : World} (h : ShutD B W W') {b : Nat} {t : TypeId} {v : Value} (hb : Boxed W b t v) : Boxed W' b t v := h.cells b _ _ _ hb
theorem ShutD.tab {B : Nat} {W W' : World} (h : ShutD B W W') {base g R : Nat} {vs : Nat → Value} {n : Nat → Nat} {f : Nat → Nat → Int} (ht : Tab W base g R vs n f) : Tab W' base g R vs n f := by
  obtain ⟨cur, hc, h1, h2⟩ := ht.blk
  exact ⟨ht.le, ⟨cur, h.cells _ _ _ _ hc, h1, h2⟩, fun r hr => ⟨(ht.row r hr).1, (ht.row r hr).2.imp id fun ⟨q, cap, cu, e1, e2, e3, e4⟩ => ⟨q, cap, cu, e1, e2, h.cells _ _ _ _ e3, e4⟩⟩, ht.dist, ht.ne⟩
theorem leaves_coll {F : Fence} {n : Nat} {P : Program} {fn : Func} {tmps : Array Value} {R : Ending → World → Prop} {B : Nat} : ∀ (Ds : List Nat) (W : World), Marks W B Ds →
    (∀ W', ShutD B W W' → ∃ v, (results fn tmps).run P W' = .ok v W' ∧ R (.returned v) W') → LeavesInM F n P fn tmps R (Ds.map coll) .returning W
  | [], W, _, h => h W ⟨rfl, rfl, rfl, Nat.le_refl _, fun _ _ => rfl, fun _ _ _ _ h => h⟩
  | D :: Ds, W, hM, h => by
    obtain ⟨hn, hnd⟩ := List.nodup_cons.1 hM.nd
    have hD := hM.at_ D List.mem_cons_self
    refine ⟨by simp, .inl ⟨D, _, rfl, run_takeDeferred hD.2, ?_⟩⟩
    refine leaves_coll Ds _ ⟨hnd, fun E hE => ⟨(hM.at_ E (List.mem_cons_of_mem _ hE)).1, (World.putObj_heap_other fun e => hn (by rw [← e]; exact hE)).trans (hM.at_ E (List.mem_cons_of_mem _ hE)).2⟩⟩ fun W' hW' => h W' ?_
    refine ⟨hW'.os, hW'.tape, hW'.output, by have := hW'.size; simpa using this, fun b hb => (hW'.low b hb).trans (World.putObj_heap_other fun e => by omega), fun b cs t fr hb => hW'.cells b cs t fr ((World.putObj_heap_other fun e => ?_).trans hb)⟩
    rw [e, hD.2] at hb
    cases hb
section
variable {P : Program} {Q : Exit → Act → World → Prop}
theorem info_parts3 {P : Program} {e size bytes : Nat} {z0 : Value} (hi : (P.info? e).map (fun i => (i.zero, i.size, i.bytes)) = some (some z0, size, bytes)) : ∃ i, P.info? e = some i ∧ i.zero = some z0 ∧ i.size = size ∧ i.bytes = bytes := by
  cases h : P.info? e with
  | none => rw [h] at hi; cases hi
  | some i =>
    rw [h] at hi
    simp only [Option.map_some, Option.some.injEq, Prod.mk.injEq] at hi
    exact ⟨i, rfl, hi.1, hi.2.1, hi.2.2⟩
/-- one number is appended to a row -/
theorem wp_app_int {o : Oper} {a : Act} {w : World} {K : Act → World → Prop} (base : Nat) (x z : Operand) (ho : o.op = .call { callee := .builtin .append, args := #[x, z], argTypes := #[90, 90] })
    (v : Value) (n : Nat) (l : List Value) (hx : a.eval x = v) (hown : w.ownsRow base 3 1 v n l) (M : Nat) (y : Int) (hz : a.eval z = .slice (some ⟨M, 0, none⟩) 1 1) (hy : w.cell? ⟨M, 0, none⟩ = some (.int .i64 y)) (hn : n ≤ 999999) (hbase : base ≤ w.heap.size)
    (h : ∀ v' W', W'.ownsRow base 3 1 v' (n + 1) (l ++ [.int .i64 y]) → w.grownBy W' v.ownBlock → (v'.ownBlock = v.ownBlock ∨ v'.ownBlock = some w.heap.size) → K (a.put o.dst v') W') : o.wp Try.prog a w K Q := by
  obtain ⟨i0, hi, hz1, hz2, hz3⟩ := info_parts3 info3
  obtain ⟨v', W', hr', ho', hg, _, hb⟩ := run_append_own_at (P := Try.prog) w base 90 o.type 3 i0 _ 1 8 (by kernel_rfl) hi hz1 hz2 hz3 rfl (by decide) v n l hown ⟨M, 0, none⟩ 1 1 [.int .i64 y] rfl (fun j u hj => by
    cases j with
    | zero => cases hj; rw [GR.addr_add']; exact hy
    | succ j => simp at hj) (by simp [Value.oneCell']) (by unfold maxLen; omega) (by omega) hbase
  unfold Oper.wp execOp
  simp only [ho, resolve, invoke, builtin, Sem.run_bind, Sem.run_pure, Result.andThen_ok, List.map_toArray, List.map_cons, List.map_nil, hx, hz, hr']
  exact h v' W' ho' hg hb
end
end Go.Proofs.Ytmlcjiabnmdfeaa
