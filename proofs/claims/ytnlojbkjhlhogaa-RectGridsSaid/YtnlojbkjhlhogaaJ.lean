/- A map over corners (pairs of whole numbers as complex numbers) in memory: what lookup and update do. -/
import Derived.Test.YtnlojbkjhlhogaaH
import Derived.Test.YtnlojbkjhlhogaaFloat
import Derived.Maps.Own
namespace Go.Proofs.Ytnlojbkjhlhogaa
open Go Go.RowKit IV
open Go.MapKept Go.ChangeMaps
open Ieee
set_option linter.unusedVariables false

theorem cmp_ne {a b : Int} (h : a ≠ b) : compare a b ≠ .eq := by
  show compareOfLessAndEq a b ≠ .eq
  unfold compareOfLessAndEq
  by_cases h1 : a < b
  · rw [if_pos h1]; simp
  · rw [if_neg h1, if_neg h]; simp
theorem cmp_no {a b : Int} (h : a ≠ b) : (some (compare a b) == some Ordering.eq) = false := by
  have := cmp_ne h
  generalize compare a b = o at *
  cases o <;> first | rfl | exact absurd rfl this

theorem order_fb (a b : Nat) (ha : a < 2 ^ 53) (hb : b < 2 ^ 53) : Op.floatEq .f64 (floatOfInt .f64 (a : Int)) (floatOfInt .f64 (b : Int)) = decide (a = b) := by
  have hr : ∀ n : Nat, n ≠ 0 → n < 2 ^ 53 → double.read (floatOfInt .f64 (n : Int)) = .number false (Fx.sig n) ((n.log2 : Int) - 52) := fun n h0 h => by
    rw [Fx.fb_pos h0 h]; exact Fx.read_word false h0 h
  have hz : double.read (floatOfInt .f64 ((0 : Nat) : Int)) = .number false 0 (-1074) := by
    rw [show ((0 : Nat) : Int) = 0 from rfl, Fx.fb_zero]; exact Fx.read_zero
  have s0 : ∀ k, signed false 0 k = 0 := fun k => by unfold signed; simp
  have sp : ∀ (n k : Nat), n ≠ 0 → 52 - n.log2 ≤ k → signed false (Fx.sig n) (k - (52 - n.log2)) = ((n * 2 ^ k : Nat) : Int) := fun n k _ h => by
    unfold signed; rw [if_neg (by simp), Fx.sig_shift h]
  have pos : ∀ (n k : Nat), n ≠ 0 → 0 < n * 2 ^ k := fun n k h => Nat.mul_pos (by omega) (Nat.two_pow_pos _)
  unfold Op.floatEq
  show (Datum.order (double.read _) (double.read _) == some .eq) = _
  by_cases h1 : a = 0
  · subst h1
    by_cases h2 : b = 0
    · subst h2
      rw [hz]; decide
    · have hl := Fx.log_lt h2 hb
      rw [hz, hr b h2 hb]
      unfold Datum.order
      dsimp only
      rw [show min (-1074 : Int) ((b.log2 : Int) - 52) = -1074 by omega, s0, show ((b.log2 : Int) - 52 - -1074).toNat = 1074 - (52 - b.log2) by omega, sp b 1074 h2 (by omega)]
      have := pos b 1074 h2
      generalize b * 2 ^ 1074 = q at *
      rw [decide_eq_false (fun e => h2 e.symm)]
      exact cmp_no (by omega)
  · have hl := Fx.log_lt h1 ha
    by_cases h2 : b = 0
    · subst h2
      rw [hz, hr a h1 ha]
      unfold Datum.order
      dsimp only
      rw [show min ((a.log2 : Int) - 52) (-1074 : Int) = -1074 by omega, s0, show ((a.log2 : Int) - 52 - -1074).toNat = 1074 - (52 - a.log2) by omega, sp a 1074 h1 (by omega)]
      have := pos a 1074 h1
      generalize a * 2 ^ 1074 = q at *
      rw [decide_eq_false h1]
      exact cmp_no (by omega)
    · have hk := Fx.log_lt h2 hb
      rw [hr a h1 ha, hr b h2 hb]
      unfold Datum.order
      dsimp only
      rw [show min ((a.log2 : Int) - 52) ((b.log2 : Int) - 52) = -((52 - min a.log2 b.log2 : Nat) : Int) by omega]
      generalize hq : 52 - min a.log2 b.log2 = q
      rw [show ((a.log2 : Int) - 52 - -(q : Int)).toNat = q - (52 - a.log2) by omega, show ((b.log2 : Int) - 52 - -(q : Int)).toNat = q - (52 - b.log2) by omega, sp a q h1 (by omega), sp b q h2 (by omega)]
      by_cases he : a = b
      · subst he
        rw [decide_eq_true rfl]
        show (some (compareOfLessAndEq _ _) == some Ordering.eq) = true
        unfold compareOfLessAndEq
        rw [if_neg (by omega), if_pos rfl]
        rfl
      · rw [decide_eq_false he]
        have hne : a * 2 ^ q ≠ b * 2 ^ q := fun e => he (Nat.eq_of_mul_eq_mul_right (Nat.two_pow_pos q) e)
        exact cmp_no (by omega)

/-- a corner's number -/
def encC (p : Nat × Nat) : Value := .complex .f64 (floatOfInt .f64 (p.1 : Int)) (floatOfInt .f64 (p.2 : Int))
def smallC (p : Nat × Nat) : Prop := p.1 < 4096 ∧ p.2 < 4096
theorem eqC {p q : Nat × Nat} (hp : smallC p) (hq : smallC q) (w : World) : (Op.equal 62 (encC p) (encC q)).run Try.prog w = .ok (decide (p = q)) w := by
  unfold smallC at hp hq
  unfold Op.equal Op.maxDepth encC
  rw [show (10000 : Nat) = 9999 + 1 from rfl, Op.equalIn]
  simp only [Sem.run_bind, run_underlying Try.underlying62, Result.andThen_ok]
  rw [if_pos trivial, order_fb p.1 q.1 (by omega) (by omega), order_fb p.2 q.2 (by omega) (by omega)]
  simp only [Sem.run_pure]
  congr 1
  obtain ⟨p1, p2⟩ := p
  obtain ⟨q1, q2⟩ := q
  rw [← Bool.decide_and]
  simp only [Prod.mk.injEq]
theorem encC_inj {p q : Nat × Nat} (hp : smallC p) (hq : smallC q) (h : encC p = encC q) : p = q := by
  have h1 := eqC hp hp default
  have h2 := eqC hp hq default
  rw [← h, h1] at h2
  simpa using h2

/-- block b is a map that holds true at the corners of S, and no others -/
structure CMap (W : World) (b : Nat) (S : List (Nat × Nat)) : Prop where
  at_ : ∃ es clock, W.heap[b]? = some (.map es clock) ∧ es.toList.map (·.key) = S.map encC ∧ ∀ e ∈ es.toList, e.val = .bool true
  small : ∀ q ∈ S, smallC q
theorem CMap.lt {W : World} {b : Nat} {S : List (Nat × Nat)} (h : CMap W b S) : b < W.heap.size := by
  obtain ⟨es, clock, hb, _⟩ := h.at_
  exact (Array.getElem?_eq_some_iff.1 hb).1
theorem CMap.turn {W W' : World} {b : Nat} {S : List (Nat × Nat)} (h : CMap W b S) (hb : W'.heap[b]? = W.heap[b]?) : CMap W' b S := by
  obtain ⟨es, clock, h1, h2⟩ := h.at_
  exact ⟨⟨es, clock, hb.trans h1, h2⟩, h.small⟩

theorem asking (p : Nat × Nat) (hp : smallC p) (w : World) : ∀ (es : List MapEntry) (S : List (Nat × Nat)) (i : Nat), es.map (·.key) = S.map encC → (∀ e ∈ es, e.val = .bool true) → (∀ q ∈ S, smallC q) →
    ∃ r, (Instr.findAsking 62 (encC p) es i).run Try.prog w = .ok r w ∧ (p ∉ S → r = none) ∧ (p ∈ S → ∃ j e, r = some (i + j, .bool true) ∧ es[j]? = some e ∧ e.key = encC p)
  | [], S, i, h, _, _ => by
    have : S = [] := by cases S with | nil => rfl | cons _ _ => simp at h
    subst this
    exact ⟨none, rfl, fun _ => rfl, fun h => by simp at h⟩
  | e :: es, [], i, h, _, _ => by simp at h
  | e :: es, q :: S, i, h, hv, hs => by
    simp only [List.map_cons, List.cons.injEq] at h
    unfold Instr.findAsking
    simp only [Sem.run_bind]
    rw [h.1, eqC hp (hs q List.mem_cons_self) w]
    simp only [Result.andThen_ok]
    by_cases he : p = q
    · subst he
      rw [decide_eq_true rfl]
      refine ⟨some (i, e.val), rfl, fun h' => absurd List.mem_cons_self h', fun _ => ⟨0, e, by rw [hv e List.mem_cons_self]; rfl, rfl, h.1⟩⟩
    · rw [decide_eq_false he]
      obtain ⟨r, h1, h2, h3⟩ := asking p hp w es S (i + 1) h.2 (fun e' he' => hv e' (List.mem_cons_of_mem _ he')) (fun q' hq' => hs q' (List.mem_cons_of_mem _ hq'))
      refine ⟨r, by simpa using h1, fun hn => h2 fun hm => hn (List.mem_cons_of_mem _ hm), fun hm => ?_⟩
      rcases List.mem_cons.1 hm with hm | hm
      · exact absurd hm he
      · obtain ⟨j, e', hr, hj, hk⟩ := h3 hm
        exact ⟨j + 1, e', by rw [hr, show i + 1 + j = i + (j + 1) by omega], by simpa using hj, hk⟩
theorem find (p : Nat × Nat) (hp : smallC p) (w : World) (es : List MapEntry) (S : List (Nat × Nat)) (h : es.map (·.key) = S.map encC) (hv : ∀ e ∈ es, e.val = .bool true) (hs : ∀ q ∈ S, smallC q) :
    ∃ r, (Instr.findKey 62 (encC p) es).run Try.prog w = .ok r w ∧ (p ∉ S → r = none) ∧ (p ∈ S → ∃ j e, r = some (j, .bool true) ∧ es[j]? = some e ∧ e.key = encC p) := by
  obtain ⟨r, h1, h2, h3⟩ := asking p hp w es S 0 h hv hs
  refine ⟨r, ?_, h2, fun hm => by obtain ⟨j, e, a, b, c⟩ := h3 hm; exact ⟨j, e, by rw [a, Nat.zero_add], b, c⟩⟩
  unfold Instr.findKey
  simp only [Sem.run_bind, run_underlying Try.underlying62, Result.andThen_ok]
  cases es with
  | nil =>
    have : S = [] := by cases S with | nil => rfl | cons _ _ => simp at h
    subst this
    have : r = none := h2 (by simp)
    subst this
    rfl
  | cons e es =>
    have : Instr.findNow (.complex .f64) (encC p) (e :: es) 0 = none := by
      unfold Instr.findNow encC
      rfl
    rw [this]
    exact h1
theorem check (p : Nat × Nat) (em : Bool) (w : World) : (Instr.checkKey em 10000 62 (encC p)).run Try.prog w = .ok () w := by
  rw [show (10000 : Nat) = 9999 + 1 from rfl]
  unfold Instr.checkKey encC
  simp only [Sem.run_bind, run_underlying Try.underlying62, Result.andThen_ok]
  rfl
theorem CMap.lookup {W : World} {b : Nat} {S : List (Nat × Nat)} (h : CMap W b S) (p : Nat × Nat) (hp : smallC p) : (Instr.lookup 56 (.map (some b)) (encC p) false).run Try.prog W = .ok (.bool (decide (p ∈ S))) W := by
  obtain ⟨es, clock, hb, hk, hv⟩ := h.at_
  obtain ⟨r, h1, h2, h3⟩ := find p hp W es.toList S hk hv h.small
  have hz : ∀ w, (zeroValue 4).run Try.prog w = .ok (.bool false) w := fun w => Try.zeroValue4 w
  by_cases hm : p ∈ S
  · obtain ⟨j, e, rfl, _⟩ := h3 hm
    rw [decide_eq_true hm]
    simp [Instr.lookup, run_underlying Try.underlying56, MapKept.run_getObj_map hb, check, h1, Result.andThen]
  · obtain rfl := h2 hm
    rw [decide_eq_false hm]
    simp [Instr.lookup, run_underlying Try.underlying56, MapKept.run_getObj_map hb, check, h1, hz, Result.andThen]
theorem CMap.update {W : World} {b : Nat} {S : List (Nat × Nat)} (h : CMap W b S) (p : Nat × Nat) (hp : smallC p) :
    ∃ W', (Instr.mapUpdate 56 (.map (some b)) (encC p) (.bool true)).run Try.prog W = .ok () W' ∧ CMap W' b (if p ∈ S then S else S ++ [p]) ∧ W.grownBy W' (some b) := by
  obtain ⟨es, clock, hb, hk, hv⟩ := h.at_
  obtain ⟨r, h1, h2, h3⟩ := find p hp W es.toList S hk hv h.small
  have hgrow : ∀ o, W.grownBy (setBlock W b o) (some b) := fun o => ⟨rfl, rfl, rfl, by simp [setBlock], fun i _ hi => heap_setBlock_other hb _ (fun e => hi (by rw [e]))⟩
  by_cases hm : p ∈ S
  · obtain ⟨j, e, rfl, hj, hje⟩ := h3 hm
    rw [if_pos hm]
    have hj' : es[j]? = some e := by simpa using hj
    refine ⟨setBlock W b (.map (es.modify j fun e' => { e' with key := encC p, val := .bool true }) clock), ?_, ⟨⟨_, clock, heap_setBlock_same hb _, ?_, ?_⟩, h.small⟩, hgrow _⟩
    · have hst : (Instr.keyThatStays (encC p) (encC p)).run Try.prog W = .ok (encC p) W := by
        unfold Instr.keyThatStays
        rw [if_pos (by unfold encC; simp [Instr.sameBits])]
        rfl
      simp [Instr.mapUpdate, run_underlying Try.underlying56, MapKept.run_getObj_map hb, check, h1, hj', hje, hst, MapKept.run_setObj_map _ hb, Result.andThen, setBlock]
    · rw [← hk]
      apply List.ext_getElem?
      intro i
      simp only [Array.toList_modify, List.getElem?_map, List.getElem?_modify]
      by_cases e1 : j = i
      · subst e1
        have hj2 : es.toList[j]? = some e := hj
        simp only [hj2, if_true, Option.map_some, hje]
        rfl
      · simp [e1]
    · intro x hx
      rw [Array.toList_modify] at hx
      obtain ⟨i, hi, rfl⟩ := List.getElem_of_mem hx
      rw [List.getElem_modify]
      split
      · rfl
      · exact hv _ (List.getElem_mem _)
  · obtain rfl := h2 hm
    rw [if_neg hm]
    refine ⟨setBlock W b (.map (es.push { key := encC p, val := .bool true, born := clock }) (clock + 1)), ?_, ⟨⟨_, _, heap_setBlock_same hb _, ?_, ?_⟩, ?_⟩, hgrow _⟩
    · simp [Instr.mapUpdate, run_underlying Try.underlying56, MapKept.run_getObj_map hb, check, h1, MapKept.run_setObj_map _ hb, Result.andThen, setBlock]
    · rw [Array.toList_push, List.map_append, List.map_append, hk]; rfl
    · intro x hx
      rw [Array.toList_push, List.mem_append, List.mem_singleton] at hx
      rcases hx with hx | rfl
      · exact hv x hx
      · rfl
    · intro q hq
      rcases List.mem_append.1 hq with hq | hq
      · exact h.small q hq
      · obtain rfl := List.mem_singleton.1 hq; exact hp

end Go.Proofs.Ytnlojbkjhlhogaa
