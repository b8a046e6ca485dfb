/- Contracts of contest.steps and of contest.order: which of two right sides is ahead. -/
import Derived.Test.YtffnnfdlelaonaaB
import Derived.RangeFuncNested
import Derived.RangeFuncBound
import Derived.RangeFuncCalls
import Derived.RangeFuncLeaves
import Derived.Shelf.Abstract
import Derived.Shelf.RegionOpen
import Derived.OwnWalkIn
import Derived.TacticsInMore
import Derived.LoopNIn
import Derived.LoopIn
import Derived.Maps.AppendAt
import Derived.Deep.RegionHeld3
import Derived.Deep.RegionWith
import Derived.Scope
import Derived.ScopeJumps
import Derived.WalkMore
import Derived.Test.YtffnnfdlelaonaaInv
namespace Go.Proofs.Ytffnnfdlelaonaa
open Go.RowKit Go.Shelf
set_option linter.unusedVariables false
attribute [local go_sem] Oper.semAt_some

theorem wpIn_scope_wide {n : Nat} {P : Program} {c : Code} {Q : Exit → Act → World → Prop} {a : Act} {w : World} (h : c.wpIn Fence.wide n P (Exit.noGoto Q) a w) : (Code.scope c).wpIn Fence.wide n P Q a w :=
  wpIn_wide.2 (wp_scope_straight (wpIn_wide.1 h))

theorem bcell {W w1 : World} (hb : Below W.heap.size W w1) : (∀ b o, b < W.heap.size → w1.cell? ⟨b, o, none⟩ = W.cell? ⟨b, o, none⟩) ∧ (∀ b o, b < W.heap.size → w1.frozen? ⟨b, o, none⟩ = W.frozen? ⟨b, o, none⟩) :=
  ⟨fun b o h => hb.cell (p := ⟨b, o, none⟩) h, fun b o h => hb.frozen (p := ⟨b, o, none⟩) h⟩
/-- contest.ranked, the numbers apart -/
theorem c33' (s : Side) (hs : right s = true) (hcs : s.wf) : ∃ r0 r1 r2 r3 r4 r5 r6 r7 : Int, Hid (rank s = [r0, r1, r2, r3, r4, r5, r6, r7]) ∧ Hid (∀ W, Calls Try.prog 33 #[.agg s.arr] W fun e w' => e = .returned (.agg #[.int .i64 r0, .int .i64 r1, .int .i64 r2, .int .i64 r3, .int .i64 r4, .int .i64 r5, .int .i64 r6, .int .i64 r7]) ∧ Below W.heap.size W w') :=
  ⟨_, _, _, _, _, _, _, _, Lib.hid rfl, fun W => c33 s W hs hcs⟩

theorem cells8 {W : World} {B : Nat} {t : TypeId} {fr : Nat × Nat} {r0 r1 r2 r3 r4 r5 r6 r7 : Int} (h : W.heap[B]? = some (.cells #[.int .i64 r0, .int .i64 r1, .int .i64 r2, .int .i64 r3, .int .i64 r4, .int .i64 r5, .int .i64 r6, .int .i64 r7] t fr)) :
    W.cell? ⟨B, 0, none⟩ = some (.int .i64 r0) ∧ W.cell? ⟨B, 1, none⟩ = some (.int .i64 r1) ∧ W.cell? ⟨B, 2, none⟩ = some (.int .i64 r2) ∧ W.cell? ⟨B, 3, none⟩ = some (.int .i64 r3) ∧ W.cell? ⟨B, 4, none⟩ = some (.int .i64 r4) ∧ W.cell? ⟨B, 5, none⟩ = some (.int .i64 r5) ∧ W.cell? ⟨B, 6, none⟩ = some (.int .i64 r6) ∧ W.cell? ⟨B, 7, none⟩ = some (.int .i64 r7) := by
  simp [World.cell?, h]
/-- The blocks of a set lie as they lay. -/
structure Keeps (S : Nat → Prop) (w w' : World) : Prop where
  os : w'.os = w.os
  tape : w'.tape = w.tape
  output : w'.output = w.output
  size : w.heap.size ≤ w'.heap.size
  block : ∀ k, S k → w'.heap[k]? = w.heap[k]?
theorem Keeps.refl (S : Nat → Prop) (w : World) : Keeps S w w := ⟨rfl, rfl, rfl, Nat.le_refl _, fun _ _ => rfl⟩
theorem Keeps.trans {S : Nat → Prop} {a b c : World} (h : Keeps S a b) (k : Keeps S b c) : Keeps S a c :=
  ⟨k.os.trans h.os, k.tape.trans h.tape, k.output.trans h.output, Nat.le_trans h.size k.size, fun i hi => (k.block i hi).trans (h.block i hi)⟩
theorem Keeps.cell {S : Nat → Prop} {w w' : World} (h : Keeps S w w') {p : Addr} (hp : S p.block) : w'.cell? p = w.cell? p := World.cell?_of_block (w := w) (h.block p.block hp)
theorem Keeps.putObj {S : Nat → Prop} (w : World) (hS : ∀ k, S k → k < w.heap.size) (W : World) (l : Nat) (o o' : Obj) (hl : w.heap.size ≤ l) (_ : W.heap[l]? = some o) (_ : o.isCells = false) (_ : o.isWalk = false) : Keeps S W (W.putObj l o') :=
  have hg := grownBy_putObj' W l o'
  ⟨rfl, rfl, rfl, hg.size, fun k hk => World.putObj_heap_other (fun e => by have := hS k hk; omega)⟩
theorem Keeps.setCell {S : Nat → Prop} {a w : World} (h : Keeps S a w) {p : Addr} (hp : ¬ S p.block) (u : Value) : Keeps S a (w.setCell p u) :=
  h.trans ⟨rfl, rfl, rfl, by simp [World.setCell], fun k hk => Below.heap_setCell _ _ _ _ (fun e => hp (e ▸ hk))⟩
theorem Keeps.of_below {S : Nat → Prop} {B : Nat} {w w' : World} (h : Below B w w') (hS : ∀ k, S k → k < B) : Keeps S w w' :=
  ⟨h.os, h.tape, h.output, h.size, fun k hk => h.block k (hS k hk)⟩
theorem Keeps.below {S : Nat → Prop} {B : Nat} {w w' : World} (h : Keeps S w w') (hS : ∀ k, k < B → S k) : Below B w w' :=
  ⟨h.os, h.tape, h.output, h.size, fun k hk => h.block k (hS k hk)⟩
theorem Keeps.setBox {S : Nat → Prop} {a w : World} (h : Keeps S a w) (B : Nat) (hp : ¬ S B) (u : Value) : Keeps S a (w.setCell ⟨B, 0, none⟩ u) := h.setCell (p := ⟨B, 0, none⟩) hp u

def upto {α : Type} (f : Nat → α) (k : Nat) : List α := (List.range k).map f
theorem upto_succ {α : Type} (f : Nat → α) (k : Nat) : upto f (k + 1) = upto f k ++ [f k] := by simp [upto, List.range_succ]
theorem upto_length {α : Type} (f : Nat → α) (k : Nat) : (upto f k).length = k := by simp [upto]

/-- contest.steps -/
theorem c34 (R Q : Array Value) (w : World) :
    Calls Try.prog 34 #[.agg R, .agg Q] w fun e w' => e = .returned (.func (.func 39) #[] #[.pointer (some ⟨w.heap.size, 0, none⟩), .pointer (some ⟨w.heap.size + 1, 0, none⟩)]) ∧
      (w.alloc (.cells R 59)).alloc (.cells Q 59) = w' := by
  go_enter Try.func34, Try.ntmps34
  go_wp2
  go_ret
  exact ⟨rfl, rfl⟩

def nth (l : List Int) (k : Nat) : Int := l[k]?.getD 0
def pair (rl ql : List Int) (k : Nat) : Int × Int := (nth rl k, nth ql k)
def encP (p : Int × Int) : Array Value := #[.int .i64 p.1, .int .i64 p.2]

theorem idx59 (r0 r1 r2 r3 r4 r5 r6 r7 : Int) (k : Nat) (hk : k < 8) (W : World) : (Instr.index 59 (.agg #[.int .i64 r0, .int .i64 r1, .int .i64 r2, .int .i64 r3, .int .i64 r4, .int .i64 r5, .int .i64 r6, .int .i64 r7]) (.int .i64 k)).run Try.prog W = .ok (.int .i64 (nth [r0, r1, r2, r3, r4, r5, r6, r7] k)) W := by
  rcases k with _ | _ | _ | _ | _ | _ | _ | _ | k
  iterate 8 kernel_rfl
  omega
theorem cell8 {W : World} {B : Nat} {t : TypeId} {fr : Nat × Nat} (q0 q1 q2 q3 q4 q5 q6 q7 : Int) (h : W.heap[B]? = some (.cells #[.int .i64 q0, .int .i64 q1, .int .i64 q2, .int .i64 q3, .int .i64 q4, .int .i64 q5, .int .i64 q6, .int .i64 q7] t fr)) (k : Nat) (hk : k < 8) : W.cell? ⟨B, k, none⟩ = some (.int .i64 (nth [q0, q1, q2, q3, q4, q5, q6, q7] k)) := by
  rcases k with _ | _ | _ | _ | _ | _ | _ | _ | k
  iterate 8 (simp [World.cell?, h, nth])
  omega

set_option maxHeartbeats 2000000 in
/-- steps' closure -/
theorem c39 (F : Fence) (n : Nat) (h39 : F.fn 39) (hro : F.round = none) (l Ba Bb : Nat) (S : Nat → Prop) (r0 r1 r2 r3 r4 r5 r6 r7 q0 q1 q2 q3 q4 q5 q6 q7 : Int) (hSb : S Bb) (J Jx : List (Int × Int) → World → Prop) (hn : 1 ≤ n)
    (hY : ∀ pre x W, J pre W → pre.length < 8 → YieldAt F (n - 1) Try.prog l (encP x) W fun e W' =>
      (e = .returned (.bool true) ∧ J (pre ++ [x]) W' ∧ Keeps S W W') ∨ (e = .returned (.bool false) ∧ Jx (pre ++ [x]) W'))
    (W : World) (hA : W.heap[Ba]? = some (.cells #[.int .i64 r0, .int .i64 r1, .int .i64 r2, .int .i64 r3, .int .i64 r4, .int .i64 r5, .int .i64 r6, .int .i64 r7] 59 (0, 0))) (hB : W.heap[Bb]? = some (.cells #[.int .i64 q0, .int .i64 q1, .int .i64 q2, .int .i64 q3, .int .i64 q4, .int .i64 q5, .int .i64 q6, .int .i64 q7] 59 (0, 0))) (h0 : J [] W) :
    CallsIn F n Try.prog 39 #[.func (.yield l) #[] #[], .pointer (some ⟨Ba, 0, none⟩), .pointer (some ⟨Bb, 0, none⟩)] W fun e W' => (∃ v, e = .returned v) ∧
      ((∃ ys, ys = upto (pair [r0, r1, r2, r3, r4, r5, r6, r7] [q0, q1, q2, q3, q4, q5, q6, q7]) 8 ∧ J ys W') ∨ (∃ pre, (∃ k, k ≤ 8 ∧ pre = upto (pair [r0, r1, r2, r3, r4, r5, r6, r7] [q0, q1, q2, q3, q4, q5, q6, q7]) k) ∧ Jx pre W')) := by
  obtain ⟨c0, c1, c2, c3, c4, c5, c6, c7⟩ := cells8 hA
  have HJ0 := Lib.hid h0
  have HSb := Lib.hid hSb
  have HB := Lib.hid hB
  clear h0 hSb hB hA
  refine callsIn_of_wp Try.func39 rfl h39 ?_ hro
  simp only [Try.ntmps39, List.size_toArray, List.length_cons, List.length_nil, Nat.reduceAdd, Nat.reduceSub, Array.replicate_succ, Array.replicate_zero, List.push_toArray, List.append_toArray, List.nil_append, List.cons_append]
  gi_wp2
  gi_loopw [7] (fun i wr => ∃ k : Nat, k ≤ 8 ∧ i = .int .i64 k ∧ Hid (J (upto (pair [r0, r1, r2, r3, r4, r5, r6, r7] [q0, q1, q2, q3, q4, q5, q6, q7]) k) wr) ∧ Hid (Keeps S W wr)) (fun i _ => 8 - (intOf i).toNat)
  case atStart => exact ⟨0, Nat.zero_le _, rfl, HJ0, Lib.hid (Keeps.refl _ _)⟩
  case round =>
    clear c0 c1 c2 c3 c4 c5 c6 c7
    obtain ⟨k, hk, rfl, hJs, hnx⟩ := hrel
    by_cases hlt : k < 8
    · have hi := idx59 r0 r1 r2 r3 r4 r5 r6 r7 k hlt
      have hc := cell8 q0 q1 q2 q3 q4 q5 q6 q7 ((hnx.out.block Bb HSb.out).trans HB.out) k hlt
      obtain ⟨fn, tmps, assign, body, hy, hR⟩ := hY _ (pair [r0, r1, r2, r3, r4, r5, r6, r7] [q0, q1, q2, q3, q4, q5, q6, q7] k) wr hJs.out (by rw [upto_length]; exact hlt)
      have HR := Lib.hid hR
      clear hR hY
      dsimp only [encP, pair] at hy
      generalize nth [r0, r1, r2, r3, r4, r5, r6, r7] k = x at *
      generalize nth [q0, q1, q2, q3, q4, q5, q6, q7] k = y at *
      gi_wp2
      refine HR.out.mono ?_
      rintro e W3 (⟨rfl, hJ3, hk3⟩ | ⟨rfl, hJx3⟩)
      · have HJ3 := Lib.hid hJ3
        have Hk3 := Lib.hid (hnx.out.trans hk3)
        clear hJ3 hk3 hc
        gi_wp2
        go_roundw
        case rel => exact ⟨k + 1, by omega, by simp, by rw [upto_succ]; exact HJ3, Hk3⟩
        case measure => simp [intOf]; omega
      · have HJ3 := Lib.hid hJx3
        clear hJx3 hc
        gi_wp2
        refine bodyPost_ret (results_none rfl _ _ _) rfl ?_
        exact ⟨⟨_, rfl⟩, .inr ⟨_, ⟨k + 1, by omega, (upto_succ _ _).symm⟩, HJ3.out⟩⟩
    · obtain rfl : k = 8 := by omega
      clear hY
      gi_wp2
      go_end0
      exact ⟨⟨_, rfl⟩, .inl ⟨_, rfl, hJs.out⟩⟩

theorem c39_stops (F : Fence) (n : Nat) (h39 : F.fn 39) (hro : F.round = none) (hn : 1 ≤ n) (Ba Bb : Nat) (S : Nat → Prop) (r0 r1 r2 r3 r4 r5 r6 r7 q0 q1 q2 q3 q4 q5 q6 q7 : Int) (hSb : S Bb) (w : World)
    (hA : w.heap[Ba]? = some (.cells #[.int .i64 r0, .int .i64 r1, .int .i64 r2, .int .i64 r3, .int .i64 r4, .int .i64 r5, .int .i64 r6, .int .i64 r7] 59 (0, 0))) (hB : w.heap[Bb]? = some (.cells #[.int .i64 q0, .int .i64 q1, .int .i64 q2, .int .i64 q3, .int .i64 q4, .int .i64 q5, .int .i64 q6, .int .i64 q7] 59 (0, 0))) :
    SeqStopsK F n Try.prog 39 #[.pointer (some ⟨Ba, 0, none⟩), .pointer (some ⟨Bb, 0, none⟩)] encP (Keeps S) (fun ys => ys = upto (pair [r0, r1, r2, r3, r4, r5, r6, r7] [q0, q1, q2, q3, q4, q5, q6, q7]) 8) (fun pre => ∃ k, k ≤ 8 ∧ pre = upto (pair [r0, r1, r2, r3, r4, r5, r6, r7] [q0, q1, q2, q3, q4, q5, q6, q7]) k) 8 w := fun l J Jx W hW _ _ hY h0 => by
  have k1 := (hW.block Ba (Array.getElem?_eq_some_iff.1 hA).1).trans hA
  have k2 := (hW.block Bb (Array.getElem?_eq_some_iff.1 hB).1).trans hB
  exact c39 F n h39 hro l Ba Bb S r0 r1 r2 r3 r4 r5 r6 r7 q0 q1 q2 q3 q4 q5 q6 q7 hSb J Jx hn hY W k1 k2 h0

/-- what holds between the operations of order's second statement -/
def OrdInv (W0 : World) (b2 b3 : Nat) (sa ta R Q : Array Value) (done : Nat → Bool) (a : Act) (W : World) : Prop :=
  ∃ v5 v6 v10 v11 v12 v13 : Value, a = { tmps := #[.agg sa, .agg ta, .pointer (some ⟨b2, 0, none⟩), .pointer (some ⟨b3, 0, none⟩), .int .i64 0, v5, v6, undef, undef, undef, v10, v11, v12, v13, undef, undef, undef, undef, undef, undef, undef, undef, undef, undef, undef, undef, undef, undef, undef], defers := [] } ∧
    Below W0.heap.size W0 W ∧ (done 0 = true → v10 = .agg sa) ∧ (done 1 = true → v11 = .agg R) ∧ (done 2 = true → v12 = .agg ta) ∧ (done 3 = true → v13 = .agg Q) ∧
    (done 4 = true → ∃ B, v5 = .pointer (some ⟨B, 0, none⟩) ∧ W0.heap.size ≤ B ∧ W.heap[B]? = some (.cells (if done 6 then R else #[.int .i64 0, .int .i64 0, .int .i64 0, .int .i64 0, .int .i64 0, .int .i64 0, .int .i64 0, .int .i64 0]) 59 (0, 0)) ∧ (done 5 = true → v6 ≠ .pointer (some ⟨B, 0, none⟩))) ∧
    (done 5 = true → ∃ B, v6 = .pointer (some ⟨B, 0, none⟩) ∧ W0.heap.size ≤ B ∧ W.heap[B]? = some (.cells (if done 7 then Q else #[.int .i64 0, .int .i64 0, .int .i64 0, .int .i64 0, .int .i64 0, .int .i64 0, .int .i64 0, .int .i64 0]) 59 (0, 0))) ∧
    (done 6 = true → done 4 = true) ∧ (done 7 = true → done 5 = true)

theorem below_setRow {B0 B : Nat} {W : World} {cs : Array Value} (hs : B0 ≤ W.heap.size) (hB : B0 ≤ B) : Below B0 W (W.setRow B cs) :=
  ⟨rfl, rfl, rfl, by simp, fun k hk => setRow_other _ _ _ _ (by omega)⟩
theorem eq59 (r0 r1 r2 r3 r4 r5 r6 r7 q0 q1 q2 q3 q4 q5 q6 q7 : Int) (w : World) : (Op.equalIn 10000 59 (.agg #[.int .i64 r0, .int .i64 r1, .int .i64 r2, .int .i64 r3, .int .i64 r4, .int .i64 r5, .int .i64 r6, .int .i64 r7]) (.agg #[.int .i64 q0, .int .i64 q1, .int .i64 q2, .int .i64 q3, .int .i64 q4, .int .i64 q5, .int .i64 q6, .int .i64 q7])).run Try.prog w = .ok (decide ([r0, r1, r2, r3, r4, r5, r6, r7] = [q0, q1, q2, q3, q4, q5, q6, q7])) w := by
  have u2 := Try.underlying2
  have a2 := Try.isAgg2
  have z2 := Try.sizeOf2
  rw [show (10000 : Nat) = 9999 + 1 from rfl, Op.equalIn]
  simp only [Sem.run_bind, run_underlying Try.underlying59, Result.andThen_ok]
  simp only [Std.Legacy.Range.forIn_eq_forIn_range', Std.Legacy.Range.size, Nat.sub_zero, Nat.add_sub_cancel, Nat.div_one, List.range'_succ, List.range'_zero, List.forIn_cons, List.forIn_nil]
  go_simp
  by_cases h0 : r0 = q0
  case neg => simp [h0]
  subst h0
  by_cases h1 : r1 = q1
  case neg => simp [h1]
  subst h1
  by_cases h2 : r2 = q2
  case neg => simp [h2]
  subst h2
  by_cases h3 : r3 = q3
  case neg => simp [h3]
  subst h3
  by_cases h4 : r4 = q4
  case neg => simp [h4]
  subst h4
  by_cases h5 : r5 = q5
  case neg => simp [h5]
  subst h5
  by_cases h6 : r6 = q6
  case neg => simp [h6]
  subst h6
  by_cases h7 : r7 = q7
  case neg => simp [h7]
  subst h7
  simp

theorem more_self (done : Nat → Bool) (i : Nat) : more done i i = true := by simp [more]
theorem more_ne (done : Nat → Bool) {i j : Nat} (h : j ≠ i) : more done i j = done j := by simp [more, h]

def lexl : List Int → List Int → Int
  | x :: l, y :: m => if x = y then lexl l m else if x < y then -1 else 1
  | _, _ => 1
/-- -1: the first is ahead, 1: the second, 0: they are the same -/
def ordl (l m : List Int) : Int := if l = m then 0 else lexl l m
def AllEq (pre : List (Int × Int)) : Prop := ∀ p ∈ pre, p.1 = p.2
theorem alleq8 {r0 r1 r2 r3 r4 r5 r6 r7 q0 q1 q2 q3 q4 q5 q6 q7 : Int} (h : AllEq (upto (pair [r0, r1, r2, r3, r4, r5, r6, r7] [q0, q1, q2, q3, q4, q5, q6, q7]) 8)) : [r0, r1, r2, r3, r4, r5, r6, r7] = [q0, q1, q2, q3, q4, q5, q6, q7] := by
  have e0 := h (r0, q0) (by simp [upto, pair, nth, List.range_succ])
  have e1 := h (r1, q1) (by simp [upto, pair, nth, List.range_succ])
  have e2 := h (r2, q2) (by simp [upto, pair, nth, List.range_succ])
  have e3 := h (r3, q3) (by simp [upto, pair, nth, List.range_succ])
  have e4 := h (r4, q4) (by simp [upto, pair, nth, List.range_succ])
  have e5 := h (r5, q5) (by simp [upto, pair, nth, List.range_succ])
  have e6 := h (r6, q6) (by simp [upto, pair, nth, List.range_succ])
  have e7 := h (r7, q7) (by simp [upto, pair, nth, List.range_succ])
  simp_all
theorem upto_shift {α : Type} (f : Nat → α) (k : Nat) : upto f (k + 1) = f 0 :: upto (fun i => f (i + 1)) k := by
  simp [upto, List.range_succ_eq_map]
theorem lexl_at : ∀ (k : Nat) (rl ql : List Int) (ini : List (Int × Int)) (x y : Int), k ≤ rl.length → k ≤ ql.length → upto (pair rl ql) k = ini ++ [(x, y)] → AllEq ini → x ≠ y → lexl rl ql = if x < y then -1 else 1
  | 0, rl, ql, ini, x, y, _, _, h, _, _ => by simp [upto] at h
  | k + 1, [], _, _, _, _, hl, _, _, _, _ => by simp at hl
  | k + 1, _ :: _, [], _, _, _, _, hl, _, _, _ => by simp at hl
  | k + 1, r :: rl, q :: ql, [], x, y, h1, h2, h, he, hn => by
    rw [upto_shift] at h
    simp only [List.nil_append, List.cons.injEq] at h
    obtain ⟨h, -⟩ := h
    simp only [pair, nth, Prod.mk.injEq, List.getElem?_cons_zero, Option.getD_some] at h
    obtain ⟨rfl, rfl⟩ := h
    simp only [lexl, if_neg hn]
  | k + 1, r :: rl, q :: ql, p :: ini, x, y, h1, h2, h, he, hn => by
    rw [upto_shift] at h
    simp only [List.cons_append, List.cons.injEq] at h
    obtain ⟨h, ht⟩ := h
    have hp := he p (by simp)
    rw [← h] at hp
    simp only [pair, nth, List.getElem?_cons_zero, Option.getD_some] at hp
    subst hp
    simp only [lexl, if_true]
    refine lexl_at k rl ql ini x y (by simpa using h1) (by simpa using h2) ?_ (fun p hp => he p (by simp [hp])) hn
    rw [← ht]
    simp [upto, pair, nth]
theorem lexl_first {r0 r1 r2 r3 r4 r5 r6 r7 q0 q1 q2 q3 q4 q5 q6 q7 : Int} {ini : List (Int × Int)} {x y : Int} (k : Nat) (hk : k ≤ 8) (h : upto (pair [r0, r1, r2, r3, r4, r5, r6, r7] [q0, q1, q2, q3, q4, q5, q6, q7]) k = ini ++ [(x, y)]) (he : AllEq ini) (hn : x ≠ y) :
    lexl [r0, r1, r2, r3, r4, r5, r6, r7] [q0, q1, q2, q3, q4, q5, q6, q7] = if x < y then -1 else 1 := lexl_at k _ _ ini x y hk hk h he hn
def OrdI (w : World) (B : Nat) (pre : List (Int × Int)) (W : World) : Prop := Boxed W B 3 (.int .i64 1) ∧ Below w.heap.size w W ∧ AllEq pre
theorem ordI_own (w : World) (B C : Nat) (hC : w.heap.size ≤ C) : OwnFrom C (OrdI w B) :=
  OwnFrom.and (Own.from (boxed_own _ _ (fun _ : List (Int × Int) => Value.int .i64 1)) _) (OwnFrom.and (ownFrom_below (Nat.le_refl _) hC) (ownFrom_pure _ _))
def OrdX (w : World) (B : Nat) (c : Code) (pre : List (Int × Int)) (W : World) : Prop := c = .exit 0 ∧ ∃ ini x y v, pre = ini ++ [(x, y)] ∧ AllEq ini ∧ x ≠ y ∧ v = (if x < y then (-1 : Int) else 1) ∧ Boxed W B 3 (.int .i64 v) ∧ Below w.heap.size w W
theorem ordX_own (w : World) (B C : Nat) (hC : w.heap.size ≤ C) (c : Code) : OwnFrom C (OrdX w B c) := fun s X Y row hs hg hr => by
  obtain ⟨hc, ini, x, y, v, e1, e2, e3, e4, hb, hw⟩ := hs
  have := OwnFrom.and (Own.from (boxed_own B 3 (fun _ : List (Int × Int) => Value.int .i64 v)) C) (ownFrom_below (w₀ := w) (Nat.le_refl w.heap.size) hC) s X Y row ⟨hb, hw⟩ hg hr
  exact ⟨hc, ini, x, y, v, e1, e2, e3, e4, this.1, this.2⟩

set_option maxRecDepth 100000 in
set_option maxHeartbeats 2000000 in
theorem c26_first (w : World) (s0 s1 s2 s3 s4 s5 t0 t1 t2 t3 t4 t5 r0 r1 r2 r3 r4 r5 r6 r7 q0 q1 q2 q3 q4 q5 q6 q7 : Int)
    (Hs : Hid (∀ W, Calls Try.prog 33 #[.agg #[.int .i64 s0, .int .i64 s1, .int .u32 s2, .int .i64 s3, .int .i64 s4, .int .i64 s5]] W fun e w' => e = .returned (.agg #[.int .i64 r0, .int .i64 r1, .int .i64 r2, .int .i64 r3, .int .i64 r4, .int .i64 r5, .int .i64 r6, .int .i64 r7]) ∧ Below W.heap.size W w'))
    (Ht : Hid (∀ W, Calls Try.prog 33 #[.agg #[.int .i64 t0, .int .i64 t1, .int .u32 t2, .int .i64 t3, .int .i64 t4, .int .i64 t5]] W fun e w' => e = .returned (.agg #[.int .i64 q0, .int .i64 q1, .int .i64 q2, .int .i64 q3, .int .i64 q4, .int .i64 q5, .int .i64 q6, .int .i64 q7]) ∧ Below W.heap.size W w')) :
    Calls Try.prog 26 #[.agg #[.int .i64 s0, .int .i64 s1, .int .u32 s2, .int .i64 s3, .int .i64 s4, .int .i64 s5], .agg #[.int .i64 t0, .int .i64 t1, .int .u32 t2, .int .i64 t3, .int .i64 t4, .int .i64 t5]] w fun e w' => e = .returned (.int .i64 (ordl [r0, r1, r2, r3, r4, r5, r6, r7] [q0, q1, q2, q3, q4, q5, q6, q7])) ∧ Below w.heap.size w w' := by
  refine (callsIn_wide (n := 3)).1 ?_
  refine callsIn_of_wp_marks Try.func26 rfl trivial ?_ rfl
  simp only [Try.ntmps26, List.size_toArray, List.length_cons, List.length_nil, Nat.reduceAdd, Nat.reduceSub, Array.replicate_succ, Array.replicate_zero, List.push_toArray, List.append_toArray, List.nil_append, List.cons_append]
  gi_wp2
  refine wpIn_scope_wide ?_
  gi_wp2_with fail
  refine wpIn_wide.2 ?_
  obtain ⟨W0, hW0⟩ : ∃ W0, (w.alloc (.cells #[.int .i64 s0, .int .i64 s1, .int .u32 s2, .int .i64 s3, .int .i64 s4, .int .i64 s5] 30)).alloc (.cells #[.int .i64 t0, .int .i64 t1, .int .u32 t2, .int .i64 t3, .int .i64 t4, .int .i64 t5] 30) = W0 := ⟨_, rfl⟩
  have g2 : W0.heap[w.heap.size]? = some (.cells #[.int .i64 s0, .int .i64 s1, .int .u32 s2, .int .i64 s3, .int .i64 s4, .int .i64 s5] 30 (0, 0)) := by rw [← hW0]; exact (Below.heap_alloc _ _ _ (by simp)).trans (heap_alloc_new w _)
  have g3 : W0.heap[w.heap.size + 1]? = some (.cells #[.int .i64 t0, .int .i64 t1, .int .u32 t2, .int .i64 t3, .int .i64 t4, .int .i64 t5] 30 (0, 0)) := by
    have := heap_alloc_new (w.alloc (.cells #[.int .i64 s0, .int .i64 s1, .int .u32 s2, .int .i64 s3, .int .i64 s4, .int .i64 s5] 30)) (.cells #[.int .i64 t0, .int .i64 t1, .int .u32 t2, .int .i64 t3, .int .i64 t4, .int .i64 t5] 30)
    rw [World.size_alloc, hW0] at this; exact this
  rw [hW0]
  refine wp_region_done (by kernel_rfl) (by kernel_rfl) (OrdInv W0 w.heap.size (w.heap.size + 1) #[.int .i64 s0, .int .i64 s1, .int .u32 s2, .int .i64 s3, .int .i64 s4, .int .i64 s5] #[.int .i64 t0, .int .i64 t1, .int .u32 t2, .int .i64 t3, .int .i64 t4, .int .i64 t5] #[.int .i64 r0, .int .i64 r1, .int .i64 r2, .int .i64 r3, .int .i64 r4, .int .i64 r5, .int .i64 r6, .int .i64 r7] #[.int .i64 q0, .int .i64 q1, .int .i64 q2, .int .i64 q3, .int .i64 q4, .int .i64 q5, .int .i64 q6, .int .i64 q7]) ?_ ?_ ?_
  · exact ⟨_, _, _, _, _, _, rfl, (Below.refl _ _).drew, fun h => by simp at h, fun h => by simp at h, fun h => by simp at h, fun h => by simp at h, fun h => by simp at h, fun h => by simp at h, fun h => by simp at h, fun h => by simp at h⟩
  · rintro done i o a W ho hd he ⟨v5, v6, v10, v11, v12, v13, rfl, hB, i0, i1, i2, i3, i4, i5, i6, i7⟩ K hK
    have l2 : w.heap.size < W0.heap.size := (Array.getElem?_eq_some_iff.1 g2).1
    have l3 : w.heap.size + 1 < W0.heap.size := (Array.getElem?_eq_some_iff.1 g3).1
    have gW2 := (hB.block _ l2).trans g2
    have gW3 := (hB.block _ l3).trans g3
    rcases i with _ | _ | _ | _ | _ | _ | _ | _ | i
    · obtain rfl := Option.some.inj ho
      refine wpOp_plain ho rfl ?_
      refine wp_load_row 30 _ rfl w.heap.size rfl 30 _ _ _ gW2 Try.underlying30 rfl (by kernel_rfl) ?_
      refine hK _ _ ⟨v5, v6, _, v11, v12, v13, rfl, hB, fun _ => rfl, fun h => i1 h, fun h => i2 h, fun h => i3 h, fun h => i4 h, fun h => i5 h, fun h => i6 h, fun h => i7 h⟩
    · obtain rfl := Option.some.inj ho
      obtain rfl := i0 (he ⟨0, .data⟩ (by simp) rfl)
      refine wpOp_plain ho rfl ?_
      clear ho hd he
      go_wp2_with (go_at_call 33; refine (Hs.out _).mono ?_; rintro e w1 ⟨rfl, hb⟩)
      exact ⟨v5, v6, _, _, v12, v13, rfl, hB.trans (hb.mono hB.size), fun _ => rfl, fun _ => rfl, fun h => i2 h, fun h => i3 h, (fun h => by obtain ⟨B, e1, e2, e3, e4⟩ := i4 h; exact ⟨B, e1, e2, (hb.block B (Array.getElem?_eq_some_iff.1 e3).1).trans e3, e4⟩), (fun h => by obtain ⟨B, e1, e2, e3⟩ := i5 h; exact ⟨B, e1, e2, (hb.block B (Array.getElem?_eq_some_iff.1 e3).1).trans e3⟩), fun h => i6 h, fun h => i7 h⟩
    · obtain rfl := Option.some.inj ho
      refine wpOp_plain ho rfl ?_
      refine wp_load_row 30 _ rfl (w.heap.size + 1) rfl 30 _ _ _ gW3 Try.underlying30 rfl (by kernel_rfl) ?_
      refine hK _ _ ⟨v5, v6, v10, v11, _, v13, rfl, hB, fun h => i0 h, fun h => i1 h, fun _ => rfl, fun h => i3 h, fun h => i4 h, fun h => i5 h, fun h => i6 h, fun h => i7 h⟩
    · obtain rfl := Option.some.inj ho
      obtain rfl := i2 (he ⟨2, .data⟩ (by simp) rfl)
      refine wpOp_plain ho rfl ?_
      clear ho hd he
      go_wp2_with (go_at_call 33; refine (Ht.out _).mono ?_; rintro e w1 ⟨rfl, hb⟩)
      exact ⟨v5, v6, v10, v11, _, _, rfl, hB.trans (hb.mono hB.size), fun h => i0 h, fun h => i1 h, fun _ => rfl, fun _ => rfl, (fun h => by obtain ⟨B, e1, e2, e3, e4⟩ := i4 h; exact ⟨B, e1, e2, (hb.block B (Array.getElem?_eq_some_iff.1 e3).1).trans e3, e4⟩), (fun h => by obtain ⟨B, e1, e2, e3⟩ := i5 h; exact ⟨B, e1, e2, (hb.block B (Array.getElem?_eq_some_iff.1 e3).1).trans e3⟩), fun h => i6 h, fun h => i7 h⟩
    · obtain rfl := Option.some.inj ho
      refine wpOp_plain ho rfl ?_
      have h6 : done 6 = false := by cases h : done 6 with
        | false => rfl
        | true => exact absurd (i6 h) (by rw [hd]; simp)
      clear ho he
      go_wp2
      have hb : Below W.heap.size W (W.alloc (.cells #[.int .i64 0, .int .i64 0, .int .i64 0, .int .i64 0, .int .i64 0, .int .i64 0, .int .i64 0, .int .i64 0] 59)) := (Below.refl _ _).alloc (Nat.le_refl _) _
      exact ⟨_, v6, v10, v11, v12, v13, rfl, hB.alloc hB.size _, fun h => i0 h, fun h => i1 h, fun h => i2 h, fun h => i3 h, fun _ => ⟨W.heap.size, rfl, hB.size, by rw [more_ne _ (by decide), h6]; exact heap_alloc_new W _, fun h => by obtain ⟨B, e1, e2, e3⟩ := i5 h; intro e; rw [e1] at e; have := (Array.getElem?_eq_some_iff.1 e3).1; simp at e <;> omega⟩, (fun h => by obtain ⟨B, e1, e2, e3⟩ := i5 h; exact ⟨B, e1, e2, (hb.block B (Array.getElem?_eq_some_iff.1 e3).1).trans e3⟩), fun _ => rfl, fun h => i7 h⟩
    · obtain rfl := Option.some.inj ho
      refine wpOp_plain ho rfl ?_
      have h7 : done 7 = false := by cases h : done 7 with
        | false => rfl
        | true => exact absurd (i7 h) (by rw [hd]; simp)
      clear ho he
      go_wp2
      have hb : Below W.heap.size W (W.alloc (.cells #[.int .i64 0, .int .i64 0, .int .i64 0, .int .i64 0, .int .i64 0, .int .i64 0, .int .i64 0, .int .i64 0] 59)) := (Below.refl _ _).alloc (Nat.le_refl _) _
      exact ⟨v5, _, v10, v11, v12, v13, rfl, hB.alloc hB.size _, fun h => i0 h, fun h => i1 h, fun h => i2 h, fun h => i3 h, (fun h => by obtain ⟨B, e1, e2, e3, e4⟩ := i4 h; exact ⟨B, e1, e2, (hb.block B (Array.getElem?_eq_some_iff.1 e3).1).trans e3, fun _ e => by have := (Array.getElem?_eq_some_iff.1 e3).1; simp at e <;> omega⟩), fun _ => ⟨W.heap.size, rfl, hB.size, by rw [more_ne _ (by decide), h7]; exact heap_alloc_new W _⟩, fun h => i6 h, fun _ => rfl⟩
    · obtain rfl := Option.some.inj ho
      obtain rfl := i1 (he ⟨1, .data⟩ (by simp) rfl)
      obtain ⟨B, rfl, e2, e3, e4⟩ := i4 (he ⟨4, .data⟩ (by simp) rfl)
      rw [hd] at e3
      refine wpOp_plain ho rfl ?_
      refine wp_store_row 59 _ _ rfl B _ rfl rfl 59 _ e3 (by kernel_rfl) rfl (by simp [Value.oneCell']) ?_
      have d5 := he ⟨5, .phase⟩ (by simp) rfl
      obtain ⟨B', rfl, f2, f3⟩ := i5 d5
      have hne : B' ≠ B := fun e => e4 d5 (by rw [e])
      refine hK _ _ ⟨_, _, v10, _, v12, v13, rfl, hB.trans (below_setRow hB.size e2), i0, i1, i2, i3, fun _ => ⟨B, rfl, e2, by rw [more_self]; exact setRow_heap _ _ _ _ _ _ e3, fun _ => e4 d5⟩, fun _ => ⟨B', rfl, f2, by rw [more_ne _ (by decide), setRow_other _ _ _ _ hne]; exact f3⟩, fun _ => he ⟨4, .data⟩ (by simp) rfl, i7⟩
    · obtain rfl := Option.some.inj ho
      obtain rfl := i3 (he ⟨3, .data⟩ (by simp) rfl)
      obtain ⟨B, rfl, e2, e3⟩ := i5 (he ⟨5, .data⟩ (by simp) rfl)
      rw [hd] at e3
      refine wpOp_plain ho rfl ?_
      refine wp_store_row 59 _ _ rfl B _ rfl rfl 59 _ e3 (by kernel_rfl) rfl (by simp [Value.oneCell']) ?_
      have d5 := he ⟨5, .data⟩ (by simp) rfl
      obtain ⟨B', rfl, f2, f3, f4⟩ := i4 (he ⟨4, .phase⟩ (by simp) rfl)
      have hne : B' ≠ B := fun e => f4 d5 (by rw [e])
      refine hK _ _ ⟨_, _, v10, v11, v12, _, rfl, hB.trans (below_setRow hB.size e2), i0, i1, i2, i3, fun _ => ⟨B', rfl, f2, by rw [more_ne _ (by decide), setRow_other _ _ _ _ hne]; exact f3, fun _ => f4 d5⟩, fun _ => ⟨B, rfl, e2, by rw [more_self]; exact setRow_heap _ _ _ _ _ _ e3⟩, i6, fun _ => d5⟩
    · exact absurd (Array.getElem?_eq_some_iff.1 ho).1 (by simp)
  · rintro done a W hall ⟨v5, v6, v10, v11, v12, v13, rfl, hB, i0, i1, i2, i3, i4, i5, i6, i7⟩
    obtain ⟨B5, rfl, e2, e3, e4⟩ := i4 (hall 4 (by simp))
    obtain ⟨B6, rfl, f2, f3⟩ := i5 (hall 5 (by simp))
    rw [hall 6 (by simp)] at e3
    rw [hall 7 (by simp)] at f3
    simp only [if_true] at e3 f3
    clear i0 i1 i2 i3 i4 i5 i6 i7 hall
    obtain ⟨c0, c1, c2, c3, c4, c5, c6, c7⟩ := cells8 e3
    obtain ⟨d0, d1, d2, d3, d4, d5, d6, d7⟩ := cells8 f3
    have E3 := Lib.hid e3
    have F3 := Lib.hid f3
    clear e3 f3 g2 g3
    have hBw : Below w.heap.size w W := (show Below w.heap.size w W0 by rw [← hW0]; exact ((Below.refl _ w).alloc (Nat.le_refl _) _).alloc (by simp) _).trans (hB.mono (by rw [← hW0, World.size_alloc, World.size_alloc]; omega))
    have hq := eq59 r0 r1 r2 r3 r4 r5 r6 r7 q0 q1 q2 q3 q4 q5 q6 q7 W
    by_cases hrq : [r0, r1, r2, r3, r4, r5, r6, r7] = [q0, q1, q2, q3, q4, q5, q6, q7]
    · rw [decide_eq_true hrq] at hq
      have ho : ordl [r0, r1, r2, r3, r4, r5, r6, r7] [q0, q1, q2, q3, q4, q5, q6, q7] = 0 := if_pos hrq
      have HO := Lib.hid ho
      clear ho
      clear hrq
      gi_wp2
      rw [Exit.noGoto_ret]
      exact ⟨_, results_tmp rfl _ _ _, by rw [HO.out]; rfl, hBw⟩
    · rw [decide_eq_false hrq] at hq
      have ho : ordl [r0, r1, r2, r3, r4, r5, r6, r7] [q0, q1, q2, q3, q4, q5, q6, q7] = lexl [r0, r1, r2, r3, r4, r5, r6, r7] [q0, q1, q2, q3, q4, q5, q6, q7] := if_neg hrq
      have HO := Lib.hid ho
      clear ho
      have HN := Lib.hid hrq
      have l5 := (Array.getElem?_eq_some_iff.1 E3.out).1
      have l6 := (Array.getElem?_eq_some_iff.1 F3.out).1
      have E4 := (Below.heap_alloc W (.cells #[.int .i64 1] 3) B5 l5).trans E3.out
      have F4 := (Below.heap_alloc W (.cells #[.int .i64 1] 3) B6 l6).trans F3.out
      obtain ⟨k0, k1, k2, k3, k4, k5, k6, k7⟩ := cells8 E4
      obtain ⟨m0, m1, m2, m3, m4, m5, m6, m7⟩ := cells8 F4
      clear hrq E4 F4
      gi_wp2_with (first | (refine ⟨trivial, ?_⟩; gi_at_call 34; refine (callsIn_wide.2 (c34 _ _ _)).mono ?_; rintro e w1 ⟨rfl, rfl⟩) | (refine wpIn_label ?_))
      have hs0 : w.heap.size + 2 = W0.heap.size := by rw [← hW0]; simp
      have hsW := hBw.size
      obtain ⟨W1, hW1⟩ : ∃ W1, (((W.alloc (Obj.cells #[Value.int IntKind.i64 1] 3)).alloc (Obj.cells #[.int .i64 r0, .int .i64 r1, .int .i64 r2, .int .i64 r3, .int .i64 r4, .int .i64 r5, .int .i64 r6, .int .i64 r7] 59)).alloc (Obj.cells #[.int .i64 q0, .int .i64 q1, .int .i64 q2, .int .i64 q3, .int .i64 q4, .int .i64 q5, .int .i64 q6, .int .i64 q7] 59)) = W1 := ⟨_, rfl⟩
      have hsz : W1.heap.size = W.heap.size + 3 := by rw [← hW1]; simp
      have hBW : Below W.heap.size W W1 := by
        rw [← hW1]; exact (((Below.refl _ W).alloc (Nat.le_refl _) _).alloc (by simp) _).alloc (by simp; omega) _
      have hB1 : Below w.heap.size w W1 := hBw.trans (hBW.mono hBw.size)
      have x7 : Boxed W1 W.heap.size 3 (.int .i64 1) := by rw [← hW1]; exact (((Boxed.new W 3 _).alloc _).alloc _)
      have x8 : W1.heap[W.heap.size + 1]? = some (.cells #[.int .i64 r0, .int .i64 r1, .int .i64 r2, .int .i64 r3, .int .i64 r4, .int .i64 r5, .int .i64 r6, .int .i64 r7] 59 (0, 0)) := by
        have := heap_alloc_new (W.alloc (Obj.cells #[Value.int IntKind.i64 1] 3)) (Obj.cells #[.int .i64 r0, .int .i64 r1, .int .i64 r2, .int .i64 r3, .int .i64 r4, .int .i64 r5, .int .i64 r6, .int .i64 r7] 59)
        rw [World.size_alloc] at this
        rw [← hW1]
        exact (Below.heap_alloc _ _ _ (by simp)).trans this
      have x9 : W1.heap[W.heap.size + 1 + 1]? = some (.cells #[.int .i64 q0, .int .i64 q1, .int .i64 q2, .int .i64 q3, .int .i64 q4, .int .i64 q5, .int .i64 q6, .int .i64 q7] 59 (0, 0)) := by
        have := heap_alloc_new ((W.alloc (Obj.cells #[Value.int IntKind.i64 1] 3)).alloc (Obj.cells #[.int .i64 r0, .int .i64 r1, .int .i64 r2, .int .i64 r3, .int .i64 r4, .int .i64 r5, .int .i64 r6, .int .i64 r7] 59)) (Obj.cells #[.int .i64 q0, .int .i64 q1, .int .i64 q2, .int .i64 q3, .int .i64 q4, .int .i64 q5, .int .i64 q6, .int .i64 q7] 59)
        rw [World.size_alloc, World.size_alloc] at this
        rw [← hW1]
        exact this
      rw [hW1]
      clear hW1 hBW k0 k1 k2 k3 k4 k5 k6 k7 m0 m1 m2 m3 m4 m5 m6 m7 c0 c1 c2 c3 c4 c5 c6 c7 d0 d1 d2 d3 d4 d5 d6 d7
      have hI0 : OrdI w W.heap.size [] W1 := ⟨x7, hB1, fun p hp => by simp at hp⟩
      refine wpIn_rangeFunc_ownG (F := Fence.wide) (n := 3) rfl (by omega) (gf := 39) (lb := #[.pointer (some ⟨W.heap.size + 1, 0, none⟩), .pointer (some ⟨W.heap.size + 1 + 1, 0, none⟩)]) rfl trivial (enters_of Try.func39 (by kernel_rfl) rfl)
        (c39_stops Fence.wide 2 trivial rfl (by omega) (W.heap.size + 1) (W.heap.size + 1 + 1) (fun k => k < w.heap.size ∨ k = W.heap.size + 1 + 1) r0 r1 r2 r3 r4 r5 r6 r7 q0 q1 q2 q3 q4 q5 q6 q7 (.inr rfl) W1 x8 x9)
        (fun h k => h.trans k) (Keeps.putObj W1 (fun k hk => by omega)) (Below.refl _ _) (fun _ => rfl)
        (OrdI w W.heap.size) (OrdX w W.heap.size) (ordI_own w W.heap.size _ (by omega)) (ordX_own w W.heap.size _ (by omega))
        hI0 ?a1 ?assign ?body ?fin ?stop
      case assign =>
        intro l x W K hK
        have HK := Lib.hid hK
        clear hK
        unfold encP
        gi_wp2
        exact HK.out
      case body =>
        rintro l pre ⟨x, y⟩ X ⟨e0, hBX, heq⟩ hlt
        have f0 := e0.cell
        have g0 := e0.frozen
        have Heq := Lib.hid heq
        clear heq
        by_cases hxy : x = y
        · subst hxy
          gi_wp2
          refine ⟨KeepsFrom.refl _ _, Keeps.refl _ _, e0, hBX, fun p hp => ?_⟩
          rcases List.mem_append.1 hp with h | h
          · exact Heq.out p h
          · rw [List.mem_singleton.1 h]
        · have t1 : (x == y) = false := by rw [beq_eq_false_iff_ne]; exact hxy
          have Hxy := Lib.hid hxy
          clear hxy
          by_cases hlt : x < y
          · gi_wp2
            refine ⟨(KeepsOthers.setCell _ _ _).from _, rfl, pre, x, y, -1, rfl, Heq.out, Hxy.out, by rw [if_pos hlt], e0.set _, hBX.trans (((Keeps.refl (fun k => k < w.heap.size) _).setBox W.heap.size (fun h => by omega) _).below fun k hk => hk)⟩
          · gi_wp2
            refine ⟨KeepsFrom.refl _ _, rfl, pre, x, y, 1, rfl, Heq.out, Hxy.out, by rw [if_neg (by omega)], e0, hBX⟩
      case fin =>
        rintro D ys X hD rfl ⟨e0, hBX, heq⟩ hK
        exact absurd (alleq8 heq) HN.out
      case stop =>
        rintro D c pre X hD ⟨k, hk, rfl⟩ ⟨rfl, ini, x, y, v, hpe, heq, hxy, hv, e0, hBX⟩ hK
        have hl := lexl_first k hk hpe heq hxy
        rw [← hv] at hl
        clear hv
        have f0 := e0.cell
        have hKb := (belowK_b (w := W1) (n₀ := W1.heap.size) (Nat.le_refl _) X D _ (.deferred none) (by omega) hK rfl rfl).mono (B' := w.heap.size) (by omega)
        have HL := Lib.hid hl
        clear hl hpe heq hxy
        gi_wp2
        try rw [Exit.noGoto_ret]
        refine ⟨by simp, .inl ⟨_, _, rfl, run_takeDeferred hK, ?_⟩⟩
        exact ⟨_, results_tmp rfl _ _ _, by rw [HO.out, HL.out]; rfl, hBX.trans hKb⟩

end Go.Proofs.Ytffnnfdlelaonaa
