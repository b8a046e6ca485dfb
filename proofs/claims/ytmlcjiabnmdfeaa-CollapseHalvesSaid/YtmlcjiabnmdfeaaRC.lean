/- A table of rows that was put together by appends: what lies where. -/
import Derived.Test.YtmlcjiabnmdfeaaFC
namespace Go.Proofs.Ytmlcjiabnmdfeaa
open Go Go.RowKit Go.Shelf CT
set_option linter.unusedVariables false

/-- rows of numbers; the rows and what holds them are the call's own -/
structure TabR (W : World) (base : Nat) (v : Value) (R : Nat) (vs : Nat → Value) (n : Nat → Nat) (f : Nat → Nat → Int) : Prop where
  own : W.ownsRow base 90 1 v R (upto vs R)
  row : ∀ r, r < R → W.ownsRow base 3 1 (vs r) (n r) (ints (f r) (n r))
  dist : ∀ r r', r < R → r' < R → r ≠ r' → ∀ b, (vs r).ownBlock = some b → (vs r').ownBlock ≠ some b
  ne : ∀ r, r < R → ∀ b, (vs r).ownBlock = some b → v.ownBlock ≠ some b
section
variable {W W' : World} {base R : Nat} {v : Value} {vs : Nat → Value} {n : Nat → Nat} {f : Nat → Nat → Int}
theorem TabR.nil (W : World) (base : Nat) (vs : Nat → Value) (n : Nat → Nat) (f : Nat → Nat → Int) : TabR W base (.slice none 0 0) 0 vs n f :=
  ⟨GR.own_nil _ _ _ _, fun r h => absurd h (Nat.not_lt_zero r), fun r _ h => absurd h (Nat.not_lt_zero r), fun r h => absurd h (Nat.not_lt_zero r)⟩
theorem TabR.turn (h : TabR W base v R vs n f) (hb : Below W.heap.size W W') : TabR W' base v R vs n f :=
  ⟨GR.own_turn h.own hb, fun r hr => GR.own_turn (h.row r hr) hb, h.dist, h.ne⟩
theorem TabR.lt (h : TabR W base v R vs n f) {r : Nat} (hr : r < R) {b : Nat} (hb : (vs r).ownBlock = some b) : base ≤ b ∧ b < W.heap.size := GR.own_block (h.row r hr) hb
theorem TabR.cell (h : TabR W base v R vs n f) {r : Nat} (hr : r < R) : ∃ g cap, v = .slice (some ⟨g, 0, none⟩) R cap ∧ W.cell? ⟨g, r, none⟩ = some (vs r) := by
  rcases h.own.2 with ⟨_, h0⟩ | ⟨g, cap, cur, hv, _⟩
  · omega
  · refine ⟨g, cap, hv, ?_⟩
    have := h.own.cells (g := g) (by rw [hv]; rfl) r _ (upto_get vs hr)
    rw [GR.addr_add', Nat.zero_add] at this
    exact this
/-- a row: where it lies, what its cells hold -/
theorem TabR.at_ (h : TabR W base v R vs n f) {r c : Nat} (hr : r < R) (hc : c < n r) : ∃ b cap, vs r = .slice (some ⟨b, 0, none⟩) (n r) cap ∧ base ≤ b ∧ b < W.heap.size ∧ W.cell? ⟨b, c, none⟩ = some (.int .i64 (f r c)) ∧ W.frozen? ⟨b, c, none⟩ = false := by
  have hrow := h.row r hr
  rcases hrow.2 with ⟨_, h0⟩ | ⟨b, cap, cur, hv, hb, hg, _⟩
  · omega
  · refine ⟨b, cap, hv, hb, (Array.getElem?_eq_some_iff.1 hg).1, ?_, ?_⟩
    · have := hrow.cells (g := b) (by rw [hv]; rfl) c _ (upto_get (fun c => Value.int .i64 (f r c)) hc)
      rw [GR.addr_add', Nat.zero_add] at this
      exact this
    · simp [World.frozen?, hg]
/-- a number of a row is turned -/
theorem TabR.set (h : TabR W base v R vs n f) {r c b cap : Nat} (hr : r < R) (hc : c < n r) (hv : vs r = .slice (some ⟨b, 0, none⟩) (n r) cap) (x : Int) : TabR (W.setCell ⟨b, c, none⟩ (.int .i64 x)) base v R vs n (upd f r (upd (f r) c x)) := by
  have hb0 : (vs r).ownBlock = some b := by rw [hv]; rfl
  refine ⟨GR.own_keep h.own fun g hg _ => heap_set_other W c _ fun e => h.ne r hr b hb0 (by rw [hg, e]), fun r' hr' => ?_, h.dist, h.ne⟩
  by_cases e : r' = r
  · subst e
    have hrow := h.row r' hr'
    rw [upd_same]
    rcases hrow.2 with ⟨hv', h0⟩ | ⟨b', cap', cu, hv', hb, hg, hn, hm, hs, ht⟩
    · omega
    · rw [hv] at hv'
      simp only [Value.slice.injEq, Option.some.injEq, Addr.mk.injEq, and_true] at hv'
      obtain ⟨rfl, _, rfl⟩ := hv'
      refine ⟨by simp [ints, upto_length], .inr ⟨b, cap, _, hv, hb, heap_set_self hg c _, hn, hm, by simpa using hs, ?_⟩⟩
      rw [Nat.mul_one] at ht ⊢
      rw [Array.toList_setIfInBounds, List.take_set, ht]
      apply List.ext_getElem?
      intro k
      unfold ints
      by_cases hk : k < n r'
      · rw [upto_get _ hk, List.getElem?_set]
        by_cases hck : c = k
        · subst hck
          rw [if_pos rfl, if_pos (by rw [upto_length]; exact hk), upd_same]
        · rw [if_neg hck, upto_get _ hk, upd_ne _ _ (fun e => hck e.symm)]
      · rw [List.getElem?_eq_none (by rw [List.length_set, upto_length]; omega), List.getElem?_eq_none (by rw [upto_length]; omega)]
  · rw [upd_ne _ _ e]
    refine GR.own_keep (h.row r' hr') fun b' hb' _ => heap_set_other W c _ fun e2 => ?_
    subst e2
    exact h.dist r' r hr' hr e b' hb' hb0
/-- a row is laid behind the others -/
theorem TabR.push (h : TabR W base v R vs n f) {W1 : World} {M : Nat} {u v' : Value} (hM : ∀ b, v.ownBlock = some b → b < M) (hMr : ∀ r, r < R → ∀ b, (vs r).ownBlock = some b → b < M) (hbM : base ≤ M)
    (hu : W.ownsRow M 3 1 u (n R) (ints (f R) (n R))) (hown : W1.ownsRow base 90 1 v' (R + 1) (upto vs R ++ [u])) (hg : W.grownBy W1 v.ownBlock) (hb : v'.ownBlock = v.ownBlock ∨ v'.ownBlock = some W.heap.size) : TabR W1 base v' (R + 1) (upd vs R u) n f := by
  have hub : ∀ b, u.ownBlock = some b → M ≤ b ∧ b < W.heap.size := fun b e => GR.own_block hu e
  have hvl : ∀ b, v.ownBlock = some b → b < W.heap.size := fun b e => (GR.own_block h.own e).2
  refine ⟨?_, fun r hr => ?_, fun r r' hr hr' hne b hb1 hb2 => ?_, fun r hr b hb1 hb2 => ?_⟩
  · rw [upto_succ, upd_same, upto_congr fun k hk => by rw [upd_ne _ _ (by omega)]]
    exact hown
  · by_cases e : r = R
    · subst e
      rw [upd_same]
      exact GR.own_base (GR.own_keep hu fun g hg1 hlt => hg.block g hlt fun e2 => by have := hM g e2.symm; have := (hub g hg1).1; omega) hbM
    · rw [upd_ne _ _ e]
      exact GR.own_keep (h.row r (by omega)) fun g hg1 hlt => hg.block g hlt fun e2 => h.ne r (by omega) g hg1 e2.symm
  · by_cases e : r = R
    · subst e
      rw [upd_same] at hb1
      rw [upd_ne _ _ (fun e => hne e.symm)] at hb2
      have := (hub b hb1).1
      have := hMr r' (by omega) b hb2
      omega
    · rw [upd_ne _ _ e] at hb1
      by_cases e' : r' = R
      · subst e'
        rw [upd_same] at hb2
        have := (hub b hb2).1
        have := hMr r (by omega) b hb1
        omega
      · rw [upd_ne _ _ e'] at hb2
        exact h.dist r r' (by omega) (by omega) hne b hb1 hb2
  · have hlt : b < W.heap.size ∧ v.ownBlock ≠ some b := by
      by_cases e : r = R
      · subst e
        rw [upd_same] at hb1
        refine ⟨(hub b hb1).2, fun e2 => ?_⟩
        have := (hub b hb1).1
        have := hM b e2
        omega
      · rw [upd_ne _ _ e] at hb1
        exact ⟨(h.lt (by omega) hb1).2, h.ne r (by omega) b hb1⟩
    rcases hb with hb | hb
    · rw [hb] at hb2; exact hlt.2 hb2
    · rw [hb] at hb2; injection hb2 with hb2; omega
end
section
variable {P : Program} {Q : Exit → Act → World → Prop}
/-- one value is appended to a row -/
theorem wp_app_val {o : Oper} {a : Act} {w : World} {K : Act → World → Prop} {T e bytes : Nat} {z0 : Value} (hT : P.underlying T = some (.slice e)) (hi : (P.info? e).map (fun i => (i.zero, i.size, i.bytes)) = some (some z0, 1, bytes)) (hz0 : z0.cells.size = 1) (hby : bytes ≤ 1000000)
    (base : Nat) (x z : Operand) (ho : o.op = .call { callee := .builtin .append, args := #[x, z], argTypes := #[T, T] })
    (v : Value) (n : Nat) (l : List Value) (hx : a.eval x = v) (hown : w.ownsRow base e 1 v n l) (M : Nat) (y : Value) (hz : a.eval z = .slice (some ⟨M, 0, none⟩) 1 1) (hy : w.cell? ⟨M, 0, none⟩ = some y) (hy1 : y.oneCell' = true) (hn : n ≤ 999999) (hbase : base ≤ w.heap.size)
    (h : ∀ v' W', W'.ownsRow base e 1 v' (n + 1) (l ++ [y]) → w.grownBy W' v.ownBlock → (v'.ownBlock = v.ownBlock ∨ v'.ownBlock = some w.heap.size) → K (a.put o.dst v') W') : o.wp P a w K Q := by
  obtain ⟨i0, hi, hz1, hz2, hz3⟩ := info_parts3 hi
  have hbb : (n + 1) * bytes ≤ 140737488355328 := Nat.le_trans (Nat.mul_le_mul (show n + 1 ≤ 1000000 by omega) hby) (by decide)
  obtain ⟨v', W', hr', ho', hg, _, hb⟩ := run_append_own_at (P := P) w base T o.type e i0 _ 1 bytes hT hi hz1 hz2 hz3 hz0 (by decide) v n l hown ⟨M, 0, none⟩ 1 1 [y] rfl (fun j u hj => by
    cases j with
    | zero => cases hj; rw [GR.addr_add']; exact hy
    | succ j => simp at hj) (by simp [hy1]) (by unfold maxLen; omega) hbb hbase
  unfold Oper.wp execOp
  simp only [ho, resolve, invoke, builtin, Sem.run_bind, Sem.run_pure, Result.andThen_ok, List.map_toArray, List.map_cons, List.map_nil, hx, hz, hr']
  exact h v' W' ho' hg hb
theorem wpList_app_val {ops : Array Oper} {rest : List Oper} {o : Oper} {a : Act} {w : World} (hgd : o.guard = none) {T e bytes : Nat} {z0 : Value} (hT : P.underlying T = some (.slice e)) (hi : (P.info? e).map (fun i => (i.zero, i.size, i.bytes)) = some (some z0, 1, bytes)) (hz0 : z0.cells.size = 1) (hby : bytes ≤ 1000000)
    (base : Nat) (x z : Operand) (ho : o.op = .call { callee := .builtin .append, args := #[x, z], argTypes := #[T, T] })
    (v : Value) (n : Nat) (l : List Value) (hx : a.eval x = v) (hown : w.ownsRow base e 1 v n l) (M : Nat) (y : Value) (hz : a.eval z = .slice (some ⟨M, 0, none⟩) 1 1) (hy : w.cell? ⟨M, 0, none⟩ = some y) (hy1 : y.oneCell' = true) (hn : n ≤ 999999) (hbase : base ≤ w.heap.size)
    (h : ∀ v' W', W'.ownsRow base e 1 v' (n + 1) (l ++ [y]) → w.grownBy W' v.ownBlock → (v'.ownBlock = v.ownBlock ∨ v'.ownBlock = some w.heap.size) → wpList P ops Q rest (a.put o.dst v') W') : wpList P ops Q (o :: rest) a w :=
  wpList_plain hgd fun K hK => wp_app_val hT hi hz0 hby base x z ho v n l hx hown M y hz hy hy1 hn hbase fun v' W' h1 h2 h3 => hK _ _ (h v' W' h1 h2 h3)
end
theorem own_one_cell {W : World} {base e size n : Nat} {v : Value} {l : List Value} (h : W.ownsRow base e size v n l) : v.oneCell' = true := by
  rcases h.2 with ⟨rfl, _⟩ | ⟨g, cap, cur, rfl, _⟩ <;> rfl
theorem own_slice {W : World} {base e size n : Nat} {v : Value} {l : List Value} (h : W.ownsRow base e size v n l) : ∃ A cap, v = .slice A n cap := by
  rcases h.2 with ⟨rfl, rfl⟩ | ⟨g, cap, cur, rfl, _⟩
  · exact ⟨_, _, rfl⟩
  · exact ⟨_, _, rfl⟩
/-- what the reference's Slots says -/
def SlotsR (ps : List Place) (R C : Nat) (w : World) (e : Ending) (w' : World) : Prop :=
  ((okS ps R C = true → ∃ v vs, e = .returned (.tuple #[v, .int .i64 0]) ∧ TabR w' w.heap.size v R vs (fun _ => C) (whoTo ps ps.length)) ∧
    (okS ps R C = false → e = .returned (.tuple #[.slice none 0 0, .int .i64 70]))) ∧ Below w.heap.size w w'
end Go.Proofs.Ytmlcjiabnmdfeaa
