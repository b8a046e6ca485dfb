/- A table in memory: a slice of slices of numbers, each a row of its own. -/
import Derived.Test.YtmlcjiabnmdfeaaGR
namespace Go.Proofs.Ytmlcjiabnmdfeaa
open Go Go.RowKit
set_option linter.unusedVariables false

def upto {α : Type} (f : Nat → α) (k : Nat) : List α := (List.range k).map f
theorem upto_succ {α : Type} (f : Nat → α) (k : Nat) : upto f (k + 1) = upto f k ++ [f k] := by simp [upto, List.range_succ]
theorem upto_length {α : Type} (f : Nat → α) (k : Nat) : (upto f k).length = k := by simp [upto]
theorem upto_get {α : Type} (f : Nat → α) {n k : Nat} (h : k < n) : (upto f n)[k]? = some (f k) := by simp [upto, h]
theorem upto_congr {α : Type} {f h : Nat → α} {n : Nat} (e : ∀ k, k < n → f k = h k) : upto f n = upto h n := by
  unfold upto
  exact List.map_congr_left fun k hk => e k (List.mem_range.1 hk)
def ints (f : Nat → Int) (n : Nat) : List Value := upto (fun c => Value.int .i64 (f c)) n
/-- a value at one place turned -/
def upd {α : Type} (f : Nat → α) (i : Nat) (x : α) : Nat → α := fun j => if j = i then x else f j
theorem upd_same {α : Type} (f : Nat → α) (i : Nat) (x : α) : upd f i x i = x := by unfold upd; rw [if_pos rfl]
theorem upd_ne {α : Type} (f : Nat → α) {i j : Nat} (x : α) (h : j ≠ i) : upd f i x j = f j := by unfold upd; rw [if_neg h]

/-- rows of numbers, row r holds n r of them -/
structure Tab (W : World) (base g R : Nat) (vs : Nat → Value) (n : Nat → Nat) (f : Nat → Nat → Int) : Prop where
  le : base ≤ g
  blk : ∃ cur, W.heap[g]? = some (.cells cur 90 (0, 0)) ∧ cur.size = R ∧ ∀ r, r < R → cur[r]? = some (vs r)
  row : ∀ r, r < R → W.ownsRow base 3 1 (vs r) (n r) (ints (f r) (n r))
  dist : ∀ r r', r < R → r' < R → r ≠ r' → ∀ b, (vs r).ownBlock = some b → (vs r').ownBlock ≠ some b
  ne : ∀ r, r < R → (vs r).ownBlock ≠ some g
section
variable {W W' : World} {base g R : Nat} {vs : Nat → Value} {n : Nat → Nat} {f : Nat → Nat → Int}
theorem Tab.lt (h : Tab W base g R vs n f) : g < W.heap.size := by obtain ⟨cur, hc, _⟩ := h.blk; exact (Array.getElem?_eq_some_iff.1 hc).1
theorem Tab.turn (h : Tab W base g R vs n f) (hb : Below W.heap.size W W') : Tab W' base g R vs n f := by
  obtain ⟨cur, hc, h1, h2⟩ := h.blk
  exact ⟨h.le, ⟨cur, (hb.block g h.lt).trans hc, h1, h2⟩, fun r hr => GR.own_turn (h.row r hr) hb, h.dist, h.ne⟩
theorem Tab.cell (h : Tab W base g R vs n f) {r : Nat} (hr : r < R) : W.cell? ⟨g, r, none⟩ = some (vs r) ∧ W.frozen? ⟨g, r, none⟩ = false := by
  obtain ⟨cur, hc, h1, h2⟩ := h.blk
  simp [World.cell?, World.frozen?, hc, h2 r hr]
/-- a row: where it lies, what its cells hold -/
theorem Tab.at_ (h : Tab W base g R vs n f) {r c : Nat} (hr : r < R) (hc : c < n r) : ∃ b cap, vs r = .slice (some ⟨b, 0, none⟩) (n r) cap ∧ base ≤ b ∧ b < W.heap.size ∧ b ≠ g ∧ W.cell? ⟨b, c, none⟩ = some (.int .i64 (f r c)) ∧ W.frozen? ⟨b, c, none⟩ = false := by
  have hrow := h.row r hr
  have hne := h.ne r hr
  rcases hrow.2 with ⟨_, h0⟩ | ⟨b, cap, cur, hv, hb, hg, _⟩
  · omega
  · refine ⟨b, cap, hv, hb, (Array.getElem?_eq_some_iff.1 hg).1, fun e => hne (by rw [hv, e]; rfl), ?_, ?_⟩
    · have := hrow.cells (g := b) (by rw [hv]; rfl) c _ (upto_get (fun c => Value.int .i64 (f r c)) hc)
      rw [GR.addr_add', Nat.zero_add] at this
      exact this
    · simp [World.frozen?, hg]
theorem heap_set_self {W : World} {b : Nat} {cs : Array Value} {t : TypeId} {fr : Nat × Nat} (h : W.heap[b]? = some (.cells cs t fr)) (i : Nat) (v : Value) : (W.setCell ⟨b, i, none⟩ v).heap[b]? = some (.cells (cs.setIfInBounds i v) t fr) := by
  simp [World.setCell, Array.getElem?_modify, h]
theorem heap_set_other (W : World) {b b' : Nat} (i : Nat) (v : Value) (h : b' ≠ b) : (W.setCell ⟨b, i, none⟩ v).heap[b']? = W.heap[b']? := Below.heap_setCell _ _ _ _ h
/-- a number of a row is turned -/
theorem Tab.set (h : Tab W base g R vs n f) {r c b cap : Nat} (hr : r < R) (hc : c < n r) (hv : vs r = .slice (some ⟨b, 0, none⟩) (n r) cap) (x : Int) : Tab (W.setCell ⟨b, c, none⟩ (.int .i64 x)) base g R vs n (upd f r (upd (f r) c x)) := by
  have hbg : g ≠ b := fun e => h.ne r hr (by rw [hv, ← e]; rfl)
  obtain ⟨cur, hcur, h1, h2⟩ := h.blk
  refine ⟨h.le, ⟨cur, (heap_set_other W c _ hbg).trans hcur, h1, h2⟩, fun r' hr' => ?_, h.dist, h.ne⟩
  by_cases e : r' = r
  · subst e
    have hrow := h.row r' hr'
    rw [upd_same]
    rcases hrow.2 with ⟨hv', h0⟩ | ⟨b', cap', cu, hv', hb, hg, hn, hm, hs, ht⟩
    · omega
    · rw [hv] at hv'
      simp only [Value.slice.injEq, Option.some.injEq, Addr.mk.injEq, and_true] at hv'
      obtain ⟨rfl, _, rfl⟩ := hv'
      refine ⟨by simp [ints, upto_length], .inr ⟨b, cap, _, hv, hb, heap_set_self hg c _, hn, hm, by simpa using hs, ?_⟩⟩
      rw [Nat.mul_one] at ht ⊢
      rw [Array.toList_setIfInBounds, List.take_set, ht]
      apply List.ext_getElem?
      intro k
      unfold ints
      by_cases hk : k < n r'
      · rw [upto_get _ hk, List.getElem?_set]
        by_cases hck : c = k
        · subst hck
          rw [if_pos rfl, if_pos (by rw [upto_length]; exact hk), upd_same]
        · rw [if_neg hck, upto_get _ hk, upd_ne _ _ (fun e => hck e.symm)]
      · rw [List.getElem?_eq_none (by rw [List.length_set, upto_length]; omega), List.getElem?_eq_none (by rw [upto_length]; omega)]
  · rw [upd_ne _ _ e]
    refine GR.own_keep (h.row r' hr') fun b' hb' _ => heap_set_other W c _ fun e2 => ?_
    subst e2
    exact h.dist r' r hr' hr e b' hb' (by rw [hv]; rfl)
/-- a row grows by one number, and is laid at its place -/
theorem Tab.grow (h : Tab W base g R vs n f) {r : Nat} (hr : r < R) {W1 : World} {v' : Value} {x : Int} (hown : W1.ownsRow base 3 1 v' (n r + 1) (ints (f r) (n r) ++ [.int .i64 x]))
    (hg : W.grownBy W1 (vs r).ownBlock) (hb : v'.ownBlock = (vs r).ownBlock ∨ v'.ownBlock = some W.heap.size) : Tab (W1.setCell ⟨g, r, none⟩ v') base g R (upd vs r v') (upd n r (n r + 1)) (upd f r (upd (f r) (n r) x)) := by
  obtain ⟨cur, hcur, h1, h2⟩ := h.blk
  have hgl := h.lt
  have hg1 : W1.heap[g]? = some (.cells cur 90 (0, 0)) := (hg.block g hgl (fun e => h.ne r hr e.symm)).trans hcur
  have hvg : v'.ownBlock ≠ some g := fun e => by
    rcases hb with hb | hb
    · rw [hb] at e; exact h.ne r hr e
    · rw [hb] at e; injection e with e; omega
  refine ⟨h.le, ⟨_, heap_set_self hg1 r v', by simpa using h1, fun r' hr' => ?_⟩, fun r' hr' => ?_, fun a b ha hb' hab q hq => ?_, fun r' hr' => ?_⟩
  · rw [Array.getElem?_setIfInBounds]
    by_cases e : r = r'
    · subst e; rw [if_pos rfl, if_pos (by omega), upd_same]
    · rw [if_neg e, upd_ne _ _ (fun e' => e e'.symm)]; exact h2 r' hr'
  · by_cases e : r' = r
    · subst e
      rw [upd_same, upd_same, upd_same]
      have he : ints (upd (f r') (n r') x) (n r' + 1) = ints (f r') (n r') ++ [.int .i64 x] := by
        unfold ints
        rw [upto_succ, upd_same, upto_congr fun k hk => by rw [upd_ne _ _ (by omega)]]
      rw [he]
      exact GR.own_keep hown fun b hb' _ => heap_set_other W1 r' _ fun e2 => hvg (by rw [hb', e2])
    · rw [upd_ne _ _ e, upd_ne _ _ e, upd_ne _ _ e]
      refine GR.own_keep (h.row r' hr') fun b hb' hlt => ?_
      rw [heap_set_other W1 r _ fun e2 => h.ne r' hr' (by rw [hb', e2])]
      exact hg.block b hlt fun e2 => h.dist r' r hr' hr e b hb' e2.symm
  · by_cases ea : a = r
    · subst ea
      rw [upd_same] at hq
      rw [upd_ne _ _ (fun e => hab e.symm)]
      intro hq'
      rcases hb with hb | hb
      · rw [hb] at hq; exact h.dist a b ha hb' hab q hq hq'
      · rw [hb] at hq
        injection hq with hq
        have := (GR.own_block (h.row b hb') hq').2
        omega
    · rw [upd_ne _ _ ea] at hq
      by_cases eb : b = r
      · subst eb
        rw [upd_same]
        intro hq'
        rcases hb with hb | hb
        · rw [hb] at hq'; exact h.dist a b ha hb' hab q hq hq'
        · rw [hb] at hq'
          injection hq' with hq'
          have := (GR.own_block (h.row a ha) hq).2
          omega
      · rw [upd_ne _ _ eb]; exact h.dist a b ha hb' hab q hq
  · by_cases e : r' = r
    · subst e; rw [upd_same]; exact hvg
    · rw [upd_ne _ _ e]; exact h.ne r' hr'
end
end Go.Proofs.Ytmlcjiabnmdfeaa
