/- Rows of elements of several cells in memory, whatever the element (its cells are told by an encoding): what lies there, slices of it, rows of the call's own, appends. -/
import Derived.WalkKit
import Derived.Below
import Derived.Lib.Hide
import Derived.Maps.AppendAt
import Derived.OwnWalk
import Derived.Laws.OwnMore
import Derived.Laws.MakeOwn
namespace Go.Proofs.Ytmlcjiabnmdfeaa.GR
open Go Go.RowKit
set_option linter.unusedVariables false
set_option linter.unusedSectionVars false

section
variable {α : Type} {enc : α → List Value} {k : Nat}

/-- an element lies at an offset -/
def At (enc : α → List Value) (w : World) (b o : Nat) (x : α) : Prop := ∀ r u, (enc x)[r]? = some u → w.cell? ⟨b, o + r, none⟩ = some u
theorem At.below {w w' : World} {b o : Nat} {x : α} (h : At enc w b o x) {B : Nat} (hb : Below B w w') (hB : b < B) : At enc w' b o x := fun r u hu => (hb.cell (p := ⟨b, o + r, none⟩) hB).trans (h r u hu)
theorem At.same {w w' : World} {b o : Nat} {x : α} (h : At enc w b o x) (hs : w'.heap[b]? = w.heap[b]?) : At enc w' b o x := fun r u hu => (World.cell?_of_block (w := w) (a := ⟨b, o + r, none⟩) hs).trans (h r u hu)
theorem At.lt {w : World} {b o : Nat} {x : α} (h : At enc w b o x) (hx : 0 < (enc x).length) : b < w.heap.size := World.block_lt_of_cell? w _ (h 0 _ (List.getElem?_eq_getElem hx))
theorem At.of_row {w : World} {b : Nat} {x : α} {t : TypeId} {fr : Nat × Nat} (h : w.heap[b]? = some (.cells (enc x).toArray t fr)) : At enc w b 0 x := fun r u hu => by
  rw [Nat.zero_add]
  simp [World.cell?, h, hu]
theorem At.new (w : World) (t : TypeId) (x : α) : At enc (w.alloc (.cells (enc x).toArray t)) w.heap.size 0 x := At.of_row (heap_alloc_new _ _)

/-- a block that is one element -/
structure One (enc : α → List Value) (t : TypeId) (W : World) (B : Nat) (s : α) : Prop where
  at_ : W.heap[B]? = some (.cells (enc s).toArray t (0, 0))
theorem One.lt {t : TypeId} {W : World} {B : Nat} {s : α} (h : One enc t W B s) : B < W.heap.size := (Array.getElem?_eq_some_iff.1 h.at_).1
theorem One.new (t : TypeId) (W : World) (s : α) : One enc t (W.alloc (.cells (enc s).toArray t)) W.heap.size s := ⟨heap_alloc_new _ _⟩
theorem One.turn {t : TypeId} {W W' : World} {B : Nat} {s : α} (h : One enc t W B s) (hb : Below W.heap.size W W') : One enc t W' B s := ⟨(hb.block B h.lt).trans h.at_⟩
theorem One.below {t : TypeId} {W W' : World} {B C : Nat} {s : α} (h : One enc t W B s) (hb : Below C W W') (hB : B < C) : One enc t W' B s := ⟨(hb.block B hB).trans h.at_⟩
theorem One.at0 {t : TypeId} {W : World} {B : Nat} {s : α} (h : One enc t W B s) : At enc W B 0 s := At.of_row h.at_

def flat (enc : α → List Value) (l : List α) : List Value := l.flatMap enc
theorem flat_cons (s : α) (l : List α) : flat enc (s :: l) = enc s ++ flat enc l := by simp [flat]
theorem flat_append (l m : List α) : flat enc (l ++ m) = flat enc l ++ flat enc m := by simp [flat]
theorem flat_single (s : α) : flat enc [s] = enc s := by simp [flat]
theorem flat_length (hk : ∀ x, (enc x).length = k) (l : List α) : (flat enc l).length = l.length * k := by
  induction l with
  | nil => simp [flat]
  | cons s l ih => rw [flat_cons, List.length_append, ih, hk, List.length_cons, Nat.succ_mul, Nat.add_comm]
theorem flat_one (h1 : ∀ x, ∀ u ∈ enc x, u.oneCell' = true) (l : List α) : ∀ u ∈ flat enc l, u.oneCell' = true := by
  intro u hu
  simp only [flat, List.mem_flatMap] at hu
  obtain ⟨s, _, hs⟩ := hu
  exact h1 s u hs
theorem addr_add' (b o i : Nat) : (⟨b, o, none⟩ : Addr).add i = ⟨b, o + i, none⟩ := by
  unfold Addr.add
  split
  · rename_i h; subst h; rfl
  · rfl
variable [Inhabited α]
theorem flat_get (hk : ∀ x, (enc x).length = k) : ∀ (l : List α) (q r : Nat), q < l.length → r < k → (flat enc l)[q * k + r]? = (enc (l[q]?.getD default))[r]?
  | [], q, r, h, _ => by simp at h
  | s :: l, 0, r, _, hr => by
    rw [flat_cons, List.getElem?_append_left (by rw [hk]; omega), Nat.zero_mul, Nat.zero_add]; rfl
  | s :: l, q + 1, r, h, hr => by
    rw [flat_cons, List.getElem?_append_right (by rw [hk, Nat.succ_mul]; omega), show (q + 1) * k + r - (enc s).length = q * k + r from by rw [hk, Nat.succ_mul]; omega, flat_get hk l q r (by simpa using h) hr]
    rfl

/-- a slice of elements -/
def Many (enc : α → List Value) (k : Nat) (w : World) (A : Option Addr) (xs : List α) : Prop :=
  ∀ j, j < xs.length → ∃ b off, A = some ⟨b, off, none⟩ ∧ At enc w b (off + j * k) (xs[j]?.getD default) ∧ b < w.heap.size
theorem Many.nil (w : World) (A : Option Addr) : Many enc k w A [] := fun j hj => absurd hj (Nat.not_lt_zero j)
theorem Many.get {w : World} {A : Option Addr} {xs : List α} (h : Many enc k w A xs) (j : Nat) (hj : j < xs.length) :
    ∃ x b off, Hid (xs[j]?.getD default = x) ∧ A = some ⟨b, off, none⟩ ∧ At enc w b (off + j * k) x ∧ b < w.heap.size :=
  let ⟨b, off, hA, hc⟩ := h j hj; ⟨_, b, off, Lib.hid rfl, hA, hc⟩
theorem Many.below {w w' : World} {A : Option Addr} {xs : List α} (h : Many enc k w A xs) (hb : Below w.heap.size w w') : Many enc k w' A xs := fun j hj =>
  let ⟨b, off, hA, hc, hl⟩ := h j hj
  ⟨b, off, hA, hc.below hb hl, Nat.lt_of_lt_of_le hl hb.size⟩
theorem Many.below' {w w' : World} {b0 o0 : Nat} {xs : List α} (h : Many enc k w (some ⟨b0, o0, none⟩) xs) {B : Nat} (hb : Below B w w') (hB : b0 < B) : Many enc k w' (some ⟨b0, o0, none⟩) xs := fun j hj => by
  obtain ⟨b, off, hA, hc, hl⟩ := h j hj
  have hA' := hA
  simp only [Option.some.injEq, Addr.mk.injEq] at hA'
  obtain ⟨rfl, rfl, _⟩ := hA'
  exact ⟨b0, o0, rfl, hc.below hb hB, Nat.lt_of_lt_of_le hl hb.size⟩
theorem Many.take {w : World} {A : Option Addr} {xs : List α} (h : Many enc k w A xs) (n : Nat) : Many enc k w A (xs.take n) := fun j hj => by
  have h1 : j < n ∧ j < xs.length := by rw [List.length_take] at hj; omega
  obtain ⟨b, o, hA, hr, hl⟩ := h j h1.2
  refine ⟨b, o, hA, ?_, hl⟩
  rw [List.getElem?_take_of_lt h1.1]
  exact hr
theorem Many.drop {w : World} {b o : Nat} {l : List α} (h : Many enc k w (some ⟨b, o, none⟩) l) (n : Nat) : Many enc k w (some ⟨b, o + n * k, none⟩) (l.drop n) := fun j hj => by
  rw [List.length_drop] at hj
  obtain ⟨b', o', hA, hr, hl⟩ := h (n + j) (by omega)
  simp only [Option.some.injEq, Addr.mk.injEq] at hA
  obtain ⟨rfl, rfl, _⟩ := hA
  refine ⟨b, _, rfl, ?_, hl⟩
  rw [List.getElem?_drop, Nat.add_assoc, ← Nat.add_mul]
  exact hr
theorem many_of_flat (hk : ∀ x, (enc x).length = k) {w : World} {b o : Nat} {l : List α} (hb : b < w.heap.size) (h : ∀ j u, (flat enc l)[j]? = some u → w.cell? ((⟨b, o, none⟩ : Addr).add j) = some u) : Many enc k w (some ⟨b, o, none⟩) l := fun j hj => by
  refine ⟨b, o, rfl, fun r u hu => ?_, hb⟩
  have hr : r < k := by have := (List.getElem?_eq_some_iff.1 hu).1; rw [hk] at this; exact this
  have := h _ u ((flat_get hk l j r hj hr).trans hu)
  rw [addr_add'] at this
  rw [← this, Nat.add_assoc]
theorem Many.flat (hk : ∀ x, (enc x).length = k) {w : World} {b o : Nat} {l : List α} (h : Many enc k w (some ⟨b, o, none⟩) l) : ∀ j u, (flat enc l)[j]? = some u → w.cell? ((⟨b, o, none⟩ : Addr).add j) = some u := fun j u hu => by
  have hj : j < l.length * k := by have := (List.getElem?_eq_some_iff.1 hu).1; rw [flat_length hk] at this; exact this
  have hk0 : 0 < k := by rcases Nat.eq_zero_or_pos k with h | h; rw [h, Nat.mul_zero] at hj; omega; exact h
  have hq : j / k < l.length := (Nat.div_lt_iff_lt_mul hk0).2 hj
  have hr := Nat.mod_lt j hk0
  obtain ⟨b', o', hA, hat, _⟩ := h (j / k) hq
  simp only [Option.some.injEq, Addr.mk.injEq] at hA
  obtain ⟨rfl, rfl, _⟩ := hA
  have hj2 : j / k * k + j % k = j := by rw [Nat.mul_comm]; exact Nat.div_add_mod j k
  rw [← hj2, flat_get hk l _ _ hq hr] at hu
  have := hat _ _ hu
  rw [Nat.add_assoc, hj2] at this
  rw [addr_add']; exact this
theorem one_many {t : TypeId} {W : World} {B : Nat} {s : α} (h : One enc t W B s) : Many enc k W (some ⟨B, 0, none⟩) [s] := fun j hj => by
  obtain rfl : j = 0 := by simpa using hj
  refine ⟨B, 0, rfl, ?_, h.lt⟩
  rw [Nat.zero_mul]
  exact h.at0

theorem own_keep {w w' : World} {base e size n : Nat} {v : Value} {xs : List Value} (h : w.ownsRow base e size v n xs) (hk : ∀ g, v.ownBlock = some g → g < w.heap.size → w'.heap[g]? = w.heap[g]?) : w'.ownsRow base e size v n xs := by
  refine ⟨h.1, ?_⟩
  rcases h.2 with h' | ⟨g, cap, cur, rfl, hb, hg, h1, h2, h3, h4⟩
  · exact .inl h'
  · exact .inr ⟨g, cap, cur, rfl, hb, (hk g rfl (Array.getElem?_eq_some_iff.1 hg).1).trans hg, h1, h2, h3, h4⟩
theorem own_turn {W W' : World} {base e size n : Nat} {v : Value} {l : List Value} (h : W.ownsRow base e size v n l) (hb : Below W.heap.size W W') : W'.ownsRow base e size v n l := own_keep h fun g _ hg => hb.block g hg
theorem own_block {w : World} {base e size n : Nat} {v : Value} {xs : List Value} (h : w.ownsRow base e size v n xs) {g : Nat} (hg : v.ownBlock = some g) : base ≤ g ∧ g < w.heap.size := by
  rcases h.2 with ⟨rfl, _⟩ | ⟨g', cap, cur, rfl, hb, hg', _⟩
  · simp [Value.ownBlock] at hg
  · simp only [Value.ownBlock, Option.some.injEq] at hg
    subst hg
    exact ⟨hb, (Array.getElem?_eq_some_iff.1 hg').1⟩
theorem own_base {w : World} {base base' e size n : Nat} {v : Value} {xs : List Value} (h : w.ownsRow base e size v n xs) (hb : base' ≤ base) : w.ownsRow base' e size v n xs := ⟨h.1, h.2.imp id fun ⟨g, cap, cur, h1, h2, h3⟩ => ⟨g, cap, cur, h1, Nat.le_trans hb h2, h3⟩⟩
theorem own_cap {w : World} {base e size n cap : Nat} {A : Option Addr} {xs : List Value} (h : w.ownsRow base e size (.slice A n cap) n xs) : n ≤ cap := by
  rcases h.2 with ⟨hv, h0⟩ | ⟨g', cap', cur, hv, _, _, h1, _⟩
  · cases hv; exact Nat.le_refl _
  · cases hv; exact h1
theorem own_nil (w : World) (base e size : Nat) : w.ownsRow base e size (.slice none 0 0) 0 [] := ⟨by simp, .inl ⟨rfl, rfl⟩⟩
theorem grown_below {base : Nat} {X W1 : World} {v : Value} {e size n : Nat} {l : List Value} (hown : X.ownsRow base e size v n l) (hg : X.grownBy W1 v.ownBlock) (hb : base ≤ X.heap.size) : Below base X W1 :=
  ⟨hg.os, hg.tape, hg.output, hg.size, fun q hq => hg.block q (Nat.lt_of_lt_of_le hq hb) (fun e => by have := (own_block hown e.symm).1; omega)⟩
/-- a row of the call's own that holds elements -/
theorem own_many (hk : ∀ x, (enc x).length = k) {w : World} {base t n : Nat} {v : Value} {l : List α} (h : w.ownsRow base t k v n (GR.flat enc l)) (hn : n = l.length) : ∃ A cap, v = .slice A n cap ∧ n ≤ cap ∧ Many enc k w A l ∧ (A = none → n = 0 ∧ cap = 0) ∧ (∀ b o s, A = some ⟨b, o, s⟩ → o = 0 ∧ s = none) := by
  have hc := fun g hg => h.cells (g := g) hg
  rcases h.2 with ⟨rfl, h0⟩ | ⟨g, cap, cur, rfl, hb, hg, hcap, _⟩
  · subst h0; exact ⟨none, 0, rfl, Nat.le_refl _, fun j hj => by omega, fun _ => ⟨rfl, rfl⟩, fun _ _ _ h => (by cases h)⟩
  · exact ⟨_, cap, rfl, hcap, many_of_flat hk (Array.getElem?_eq_some_iff.1 hg).1 (hc g rfl), fun h => (by cases h), fun _ _ _ h => (by cases h; exact ⟨rfl, rfl⟩)⟩

variable {P : Program} {o : Oper} {a : Act} {w : World} {K : Act → World → Prop} {Q : Exit → Act → World → Prop}
/-- elements are appended to a row of the call's own -/
theorem wp_app (hk : ∀ x, (enc x).length = k) (h1 : ∀ x, ∀ u ∈ enc x, u.oneCell' = true) (hk0 : 0 < k) {T e bytes : Nat} {z0 : Value} (hT : P.underlying T = some (.slice e)) (hi : (P.info? e).map (fun i => (i.zero, i.size, i.bytes)) = some (some z0, k, bytes)) (hz0 : z0.cells.size = k)
    (base : Nat) (x z : Operand) (ho : o.op = .call { callee := .builtin .append, args := #[x, z], argTypes := #[T, T] })
    (v : Value) (n : Nat) (l : List α) (hx : a.eval x = v) (hown : w.ownsRow base e k v n (GR.flat enc l)) (ad : Addr) (m c : Nat) (r : List α) (hm : r.length = m) (hz : a.eval z = .slice (some ad) m c)
    (hr : ∀ j u, (GR.flat enc r)[j]? = some u → w.cell? (ad.add j) = some u) (hn : n + m ≤ 1000000) (hby : bytes ≤ 100000000) (hbase : base ≤ w.heap.size)
    (h : ∀ v' W', W'.ownsRow base e k v' (n + m) (GR.flat enc (l ++ r)) → Below base w W' → w.grownBy W' v.ownBlock → K (a.put o.dst v') W') : o.wp P a w K Q := by
  obtain ⟨i0, hi, hz1, hz2, hz3⟩ := info_parts hi
  subst hm
  have hbb : (n + r.length) * bytes ≤ 140737488355328 := Nat.le_trans (Nat.mul_le_mul hn hby) (by decide)
  obtain ⟨v', W', hr', ho', hg, _, _⟩ := run_append_own_at (P := P) w base T o.type e i0 _ k bytes hT hi hz1 hz2 hz3 hz0 hk0 v n (GR.flat enc l) hown ad r.length c (GR.flat enc r) (flat_length hk r) hr (flat_one h1 r) (by unfold maxLen; omega) hbb hbase
  unfold Oper.wp execOp
  simp only [ho, resolve, invoke, builtin, Sem.run_bind, Sem.run_pure, Result.andThen_ok, List.map_toArray, List.map_cons, List.map_nil, hx, hz, hr']
  exact h v' W' (by rw [flat_append]; exact ho') (grown_below hown hg hbase) hg
/-- one element, that lies in a block of its own, is appended -/
theorem wp_app_one (hk : ∀ x, (enc x).length = k) (h1 : ∀ x, ∀ u ∈ enc x, u.oneCell' = true) (hk0 : 0 < k) {T e bytes : Nat} {z0 : Value} (hT : P.underlying T = some (.slice e)) (hi : (P.info? e).map (fun i => (i.zero, i.size, i.bytes)) = some (some z0, k, bytes)) (hz0 : z0.cells.size = k)
    (base : Nat) (x z : Operand) (ho : o.op = .call { callee := .builtin .append, args := #[x, z], argTypes := #[T, T] })
    (v : Value) (n : Nat) (l : List α) (hx : a.eval x = v) (hown : w.ownsRow base e k v n (GR.flat enc l)) (M c : Nat) (r : α) (hz : a.eval z = .slice (some ⟨M, 0, none⟩) 1 c) (hr : One enc e w M r) (hn : n ≤ 999999) (hby : bytes ≤ 100000000) (hbase : base ≤ w.heap.size)
    (h : ∀ v' W', W'.ownsRow base e k v' (n + 1) (GR.flat enc (l ++ [r])) → Below base w W' → w.grownBy W' v.ownBlock → K (a.put o.dst v') W') : o.wp P a w K Q :=
  wp_app hk h1 hk0 hT hi hz0 base x z ho v n l hx hown ⟨M, 0, none⟩ 1 c [r] rfl hz ((one_many hr).flat hk) (by omega) hby hbase h
theorem wpList_app {ops : Array Oper} {rest : List Oper} (hgd : o.guard = none) (hk : ∀ x, (enc x).length = k) (h1 : ∀ x, ∀ u ∈ enc x, u.oneCell' = true) (hk0 : 0 < k) {T e bytes : Nat} {z0 : Value} (hT : P.underlying T = some (.slice e)) (hi : (P.info? e).map (fun i => (i.zero, i.size, i.bytes)) = some (some z0, k, bytes)) (hz0 : z0.cells.size = k)
    (base : Nat) (x z : Operand) (ho : o.op = .call { callee := .builtin .append, args := #[x, z], argTypes := #[T, T] })
    (v : Value) (n : Nat) (l : List α) (hx : a.eval x = v) (hown : w.ownsRow base e k v n (GR.flat enc l)) (ad : Addr) (m c : Nat) (r : List α) (hm : r.length = m) (hz : a.eval z = .slice (some ad) m c)
    (hr : ∀ j u, (GR.flat enc r)[j]? = some u → w.cell? (ad.add j) = some u) (hn : n + m ≤ 1000000) (hby : bytes ≤ 100000000) (hbase : base ≤ w.heap.size)
    (h : ∀ v' W', W'.ownsRow base e k v' (n + m) (GR.flat enc (l ++ r)) → Below base w W' → w.grownBy W' v.ownBlock → wpList P ops Q rest (a.put o.dst v') W') : wpList P ops Q (o :: rest) a w :=
  wpList_plain hgd fun K hK => wp_app hk h1 hk0 hT hi hz0 base x z ho v n l hx hown ad m c r hm hz hr hn hby hbase fun v' W' h1 h2 h3 => hK _ _ (h v' W' h1 h2 h3)
theorem wpList_app_one {ops : Array Oper} {rest : List Oper} (hgd : o.guard = none) (hk : ∀ x, (enc x).length = k) (h1 : ∀ x, ∀ u ∈ enc x, u.oneCell' = true) (hk0 : 0 < k) {T e bytes : Nat} {z0 : Value} (hT : P.underlying T = some (.slice e)) (hi : (P.info? e).map (fun i => (i.zero, i.size, i.bytes)) = some (some z0, k, bytes)) (hz0 : z0.cells.size = k)
    (base : Nat) (x z : Operand) (ho : o.op = .call { callee := .builtin .append, args := #[x, z], argTypes := #[T, T] })
    (v : Value) (n : Nat) (l : List α) (hx : a.eval x = v) (hown : w.ownsRow base e k v n (GR.flat enc l)) (M c : Nat) (r : α) (hz : a.eval z = .slice (some ⟨M, 0, none⟩) 1 c) (hr : One enc e w M r) (hn : n ≤ 999999) (hby : bytes ≤ 100000000) (hbase : base ≤ w.heap.size)
    (h : ∀ v' W', W'.ownsRow base e k v' (n + 1) (GR.flat enc (l ++ [r])) → Below base w W' → w.grownBy W' v.ownBlock → wpList P ops Q rest (a.put o.dst v') W') : wpList P ops Q (o :: rest) a w :=
  wpList_plain hgd fun K hK => wp_app_one hk h1 hk0 hT hi hz0 base x z ho v n l hx hown M c r hz hr hn hby hbase fun v' W' h1 h2 h3 => hK _ _ (h v' W' h1 h2 h3)
/-- nothing is appended -/
theorem wp_app_none {size : Nat} {T e bytes : Nat} {z0 : Value} (hT : P.underlying T = some (.slice e)) (hi : (P.info? e).map (fun i => (i.zero, i.size, i.bytes)) = some (some z0, size, bytes))
    (base : Nat) (x z : Operand) (ho : o.op = .call { callee := .builtin .append, args := #[x, z], argTypes := #[T, T] })
    (v : Value) (n : Nat) (l : List Value) (hx : a.eval x = v) (hown : w.ownsRow base e size v n l) (hz : a.eval z = .slice none 0 0) (h : K (a.put o.dst v) w) : o.wp P a w K Q := by
  obtain ⟨i0, hi, hz1, hz2, hz3⟩ := info_parts hi
  have hr := run_append_owned_none (P := P) w base T o.type e i0 size hT hi v n l hown
  unfold Oper.wp execOp
  simp only [ho, resolve, invoke, builtin, Sem.run_bind, Sem.run_pure, Result.andThen_ok, List.map_toArray, List.map_cons, List.map_nil, hx, hz, hr]
  exact h
/-- elements are appended where there is room -/
theorem wp_app_fits (hk : ∀ x, (enc x).length = k) (h1 : ∀ x, ∀ u ∈ enc x, u.oneCell' = true) {T e bytes : Nat} {z0 : Value} (hT : P.underlying T = some (.slice e)) (hi : (P.info? e).map (fun i => (i.zero, i.size, i.bytes)) = some (some z0, k, bytes))
    (base : Nat) (x z : Operand) (cap : Nat) (ho : o.op = .call { callee := .builtin .append, args := #[x, z], argTypes := #[T, T] }) (g n : Nat) (l : List α) (hx : a.eval x = .slice (some ⟨g, 0, none⟩) n cap)
    (hown : w.ownsRow base e k (.slice (some ⟨g, 0, none⟩) n cap) n (GR.flat enc l)) (ad : Addr) (c mm : Nat) (m : List α) (hmm : m.length = mm) (hz : a.eval z = .slice (some ad) mm c) (hm : ∀ j u, (GR.flat enc m)[j]? = some u → w.cell? (ad.add j) = some u) (kk : Nat) (hkk : n + mm = kk) (hroom : kk ≤ cap)
    (h : ∀ W', W'.ownsRow base e k (.slice (some ⟨g, 0, none⟩) kk cap) kk (GR.flat enc (l ++ m)) → w.grownBy W' (some g) → K (a.put o.dst (.slice (some ⟨g, 0, none⟩) kk cap)) W') : o.wp P a w K Q := by
  subst hmm
  subst hkk
  obtain ⟨i0, hi, hz1, hz2, hz3⟩ := info_parts hi
  obtain ⟨W', hr, ho', hg⟩ := run_append_fits (P := P) w base T o.type e i0 k hT hi hz2 g n cap (GR.flat enc l) hown ad m.length c (GR.flat enc m) (flat_length hk m) hm (flat_one h1 m) hroom
  unfold Oper.wp execOp
  simp only [ho, resolve, invoke, builtin, Sem.run_bind, Sem.run_pure, Result.andThen_ok, List.map_toArray, List.map_cons, List.map_nil, hx, hz, hr]
  exact h W' (by rw [flat_append]; exact ho') hg
theorem wpList_app_fits {ops : Array Oper} {rest : List Oper} (hgd : o.guard = none) (hk : ∀ x, (enc x).length = k) (h1 : ∀ x, ∀ u ∈ enc x, u.oneCell' = true) {T e bytes : Nat} {z0 : Value} (hT : P.underlying T = some (.slice e)) (hi : (P.info? e).map (fun i => (i.zero, i.size, i.bytes)) = some (some z0, k, bytes))
    (base : Nat) (x z : Operand) (cap : Nat) (ho : o.op = .call { callee := .builtin .append, args := #[x, z], argTypes := #[T, T] }) (g n : Nat) (l : List α) (hx : a.eval x = .slice (some ⟨g, 0, none⟩) n cap)
    (hown : w.ownsRow base e k (.slice (some ⟨g, 0, none⟩) n cap) n (GR.flat enc l)) (ad : Addr) (c mm : Nat) (m : List α) (hmm : m.length = mm) (hz : a.eval z = .slice (some ad) mm c) (hm : ∀ j u, (GR.flat enc m)[j]? = some u → w.cell? (ad.add j) = some u) (kk : Nat) (hkk : n + mm = kk) (hroom : kk ≤ cap)
    (h : ∀ W', W'.ownsRow base e k (.slice (some ⟨g, 0, none⟩) kk cap) kk (GR.flat enc (l ++ m)) → w.grownBy W' (some g) → wpList P ops Q rest (a.put o.dst (.slice (some ⟨g, 0, none⟩) kk cap)) W') : wpList P ops Q (o :: rest) a w :=
  wpList_plain hgd fun K hK => wp_app_fits hk h1 hT hi base x z cap ho g n l hx hown ad c mm m hmm hz hm kk hkk hroom fun W' h1 h2 => hK _ _ (h W' h1 h2)
theorem wpList_app_none {ops : Array Oper} {rest : List Oper} (hgd : o.guard = none) {size : Nat} {T e bytes : Nat} {z0 : Value} (hT : P.underlying T = some (.slice e)) (hi : (P.info? e).map (fun i => (i.zero, i.size, i.bytes)) = some (some z0, size, bytes))
    (base : Nat) (x z : Operand) (ho : o.op = .call { callee := .builtin .append, args := #[x, z], argTypes := #[T, T] })
    (v : Value) (n : Nat) (l : List Value) (hx : a.eval x = v) (hown : w.ownsRow base e size v n l) (hz : a.eval z = .slice none 0 0) (h : wpList P ops Q rest (a.put o.dst v) w) : wpList P ops Q (o :: rest) a w :=
  wpList_plain hgd fun K hK => wp_app_none hT hi base x z ho v n l hx hown hz (hK _ _ h)
theorem run_make {T e size bytes : Nat} {z0 : Value} (hT : P.underlying T = some (.slice e)) (hi : (P.info? e).map (fun i => (i.zero, i.size, i.bytes)) = some (some z0, size, bytes)) (base cap : Nat) (hcap : cap * size ≤ 16777216) (hby : bytes * cap ≤ 281474976710656) (h63 : cap ≤ maxLen) (hbase : base ≤ w.heap.size) :
    ∃ W', (Instr.makeSlice T (.int .i64 0) (.int .i64 cap)).run P w = .ok (.slice (some ⟨w.heap.size, 0, none⟩) 0 cap) W' ∧ W'.ownsRow base e size (.slice (some ⟨w.heap.size, 0, none⟩) 0 cap) 0 [] ∧ w.grownBy W' none ∧ Below w.heap.size w W' := by
  obtain ⟨i0, hi, hz1, hz2, hz3⟩ := info_parts hi
  obtain ⟨W', hr, hown, hg⟩ := run_makeSlice_owned (P := P) w base T e i0 _ size hT hi hz1 hz2 .i64 .i64 cap hcap (by rw [hz3]; exact hby) h63 hbase
  exact ⟨W', hr, hown, hg, ⟨hg.os, hg.tape, hg.output, hg.size, fun q hq => hg.block q hq (by simp)⟩⟩
/-- make, with nothing in it yet -/
theorem wp_make {T e size bytes : Nat} {z0 : Value} (hT : P.underlying T = some (.slice e)) (hi : (P.info? e).map (fun i => (i.zero, i.size, i.bytes)) = some (some z0, size, bytes))
    (base : Nat) (x z : Operand) (cap : Nat) (ho : o.op = .makeSlice T x z) (hx : a.eval x = .int .i64 0) (hz : a.eval z = .int .i64 cap) (hcap : cap * size ≤ 16777216) (hby : bytes * cap ≤ 281474976710656) (h63 : cap ≤ maxLen) (hbase : base ≤ w.heap.size)
    (h : ∀ W', W'.ownsRow base e size (.slice (some ⟨w.heap.size, 0, none⟩) 0 cap) 0 [] → w.grownBy W' none → K (a.put o.dst (.slice (some ⟨w.heap.size, 0, none⟩) 0 cap)) W') : o.wp P a w K Q := by
  obtain ⟨i0, hi, hz1, hz2, hz3⟩ := info_parts hi
  obtain ⟨W', hr, hown, hg⟩ := run_makeSlice_owned (P := P) w base T e i0 _ size hT hi hz1 hz2 .i64 .i64 cap hcap (by rw [hz3]; exact hby) h63 hbase
  have hr' : (Instr.makeSlice T (.int .i64 0) (.int .i64 cap)).run P w = .ok (.slice (some ⟨w.heap.size, 0, none⟩) 0 cap) W' := hr
  unfold Oper.wp execOp
  simp only [ho, hx, hz, Sem.run_bind, Sem.run_pure, Result.andThen_ok, hr']
  exact h W' hown hg
end
end Go.Proofs.Ytmlcjiabnmdfeaa.GR
