/- The contract of the iterator that edges.bounds makes: for right bands it hands on where each band begins and ends. -/
import Derived.Test.YtnjifmoclfgegaaA
import Derived.Test.YtnjifmoclfgegaaFloat
import Derived.RangeFuncNested
import Derived.RangeFuncBound
import Derived.RangeFuncCalls
import Derived.RangeFuncLeaves
import Derived.Shelf.Abstract
import Derived.Shelf.RegionOpen
import Derived.OwnWalkIn
import Derived.TacticsInMore
import Derived.LoopNIn
import Derived.LoopIn
import Derived.Maps.AppendAt
namespace Go.Proofs.Ytnjifmoclfgegaa
open Go.RowKit Go.Shelf
attribute [local go_sem] Oper.semAt_some

/-- The blocks of a set lie as they lay. -/
structure Keeps (S : Nat → Prop) (w w' : World) : Prop where
  os : w'.os = w.os
  tape : w'.tape = w.tape
  output : w'.output = w.output
  size : w.heap.size ≤ w'.heap.size
  block : ∀ k, S k → w'.heap[k]? = w.heap[k]?
theorem Keeps.refl (S : Nat → Prop) (w : World) : Keeps S w w := ⟨rfl, rfl, rfl, Nat.le_refl _, fun _ _ => rfl⟩
theorem Keeps.trans {S : Nat → Prop} {a b c : World} (h : Keeps S a b) (k : Keeps S b c) : Keeps S a c :=
  ⟨k.os.trans h.os, k.tape.trans h.tape, k.output.trans h.output, Nat.le_trans h.size k.size, fun i hi => (k.block i hi).trans (h.block i hi)⟩
theorem Keeps.cell {S : Nat → Prop} {w w' : World} (h : Keeps S w w') {p : Addr} (hp : S p.block) : w'.cell? p = w.cell? p := World.cell?_of_block (w := w) (h.block p.block hp)
theorem Keeps.putObj {S : Nat → Prop} (w : World) (hS : ∀ k, S k → k < w.heap.size) (W : World) (l : Nat) (o o' : Obj) (hl : w.heap.size ≤ l) (_ : W.heap[l]? = some o) (_ : o.isCells = false) (_ : o.isWalk = false) : Keeps S W (W.putObj l o') :=
  have hg := grownBy_putObj' W l o'
  ⟨rfl, rfl, rfl, hg.size, fun k hk => World.putObj_heap_other (fun e => by have := hS k hk; omega)⟩
theorem Keeps.setCell {S : Nat → Prop} {a w : World} (h : Keeps S a w) {p : Addr} (hp : ¬ S p.block) (u : Value) : Keeps S a (w.setCell p u) :=
  h.trans ⟨rfl, rfl, rfl, by simp [World.setCell], fun k hk => Below.heap_setCell _ _ _ _ (fun e => hp (e ▸ hk))⟩
theorem Keeps.of_below {S : Nat → Prop} {B : Nat} {w w' : World} (h : Below B w w') (hS : ∀ k, S k → k < B) : Keeps S w w' :=
  ⟨h.os, h.tape, h.output, h.size, fun k hk => h.block k (hS k hk)⟩

/-- where band k begins -/
def st (gap : Int) (xs : List Int) : Nat → Int
  | 0 => gap
  | k + 1 => st gap xs k + (xs[k]?.getD 0 + gap)

/-- two whole numbers that floats hold -/
abbrev Bp := { p : Int × Int // 0 ≤ p.1 ∧ p.1 ≤ p.2 ∧ p.2 < 9007199254740992 }
def mkB (a b : Int) : Bp := if h : 0 ≤ a ∧ a ≤ b ∧ b < 9007199254740992 then ⟨(a, b), h⟩ else ⟨(0, 0), by decide⟩
theorem mkB_val {a b : Int} (h : 0 ≤ a ∧ a ≤ b ∧ b < 9007199254740992) : (mkB a b).1 = (a, b) := by unfold mkB; rw [dif_pos h]
def bnd (gap : Int) (xs : List Int) (k : Nat) : Bp := mkB (st gap xs k) (st gap xs k + xs[k]?.getD 0)

def upto {α : Type} (f : Nat → α) (k : Nat) : List α := (List.range k).map f
theorem upto_succ {α : Type} (f : Nat → α) (k : Nat) : upto f (k + 1) = upto f k ++ [f k] := by simp [upto, List.range_succ]
theorem upto_length {α : Type} (f : Nat → α) (k : Nat) : (upto f k).length = k := by simp [upto]

theorem isLen_iff {n : Int} : isLen n = true ↔ 0 ≤ n ∧ n ≤ 1073741824 := by simp [isLen]
theorem right_iff {xs : List Int} {gap : Int} : right xs gap = true ↔ xs.length ≤ 10000 ∧ (0 ≤ gap ∧ gap ≤ 1073741824) ∧ ∀ j, j < xs.length → 0 ≤ xs[j]?.getD 0 ∧ xs[j]?.getD 0 ≤ 1073741824 := by
  unfold right
  simp only [Bool.and_eq_true, decide_eq_true_eq, isLen_iff, Bool.not_eq_true']
  constructor
  · rintro ⟨h1, h2, h3⟩
    refine ⟨h1, h2, fun j hj => ?_⟩
    cases hb : isLen (xs[j]?.getD 0) with
    | true => exact isLen_iff.1 hb
    | false => rw [wrongs_of hj hb] at h3; cases h3
  · rintro ⟨h1, h2, h3⟩
    exact ⟨h1, h2, wrongs_none fun j hj => isLen_iff.2 (h3 j hj)⟩

theorem st_bounds {xs : List Int} {gap : Int} (h : right xs gap = true) : ∀ k, k ≤ xs.length → 0 ≤ st gap xs k ∧ st gap xs k ≤ (k + 1) * 2147483648
  | 0, _ => by have := (right_iff.1 h).2.1; simp only [st]; omega
  | k + 1, hk => by
    have ih := st_bounds h k (by omega)
    have h1 := (right_iff.1 h).2.1
    have h2 := (right_iff.1 h).2.2 k (by omega)
    simp only [st]
    omega

theorem bnd_val {xs : List Int} {gap : Int} (h : right xs gap = true) {k : Nat} (hk : k < xs.length) : (bnd gap xs k).1 = (st gap xs k, st gap xs k + xs[k]?.getD 0) := by
  have h1 := st_bounds h k (by omega)
  have h2 := (right_iff.1 h).2.2 k hk
  have h3 := (right_iff.1 h).1
  exact mkB_val (by omega)

def encB (p : Bp) : Array Value := #[.complex .f64 (floatOfInt .f64 p.1.1) (floatOfInt .f64 p.1.2)]
theorem encB_mk {a b : Int} (h : 0 ≤ a ∧ a ≤ b ∧ b < 9007199254740992) : encB (mkB a b) = #[.complex .f64 (floatOfInt .f64 a) (floatOfInt .f64 b)] := by unfold encB; rw [mkB_val h]

set_option maxRecDepth 100000 in
set_option maxHeartbeats 2000000 in
/-- bounds' closure -/
theorem c39 (F : Fence) (n : Nat) (h39 : F.fn 39) (hro : F.round = none) (l Bg Bs : Nat) (S : Nat → Prop) (A : Option Addr) (xs : List Int) (c : Nat) (gap : Int) (hr : right xs gap = true)
    (hSA : ∀ b off, A = some ⟨b, off, none⟩ → 0 < xs.length → S b) (hSg : S Bg) (J Jx : List Bp → World → Prop) (hn : 1 ≤ n)
    (hY : ∀ pre x W, J pre W → pre.length < xs.length → YieldAt F (n - 1) Try.prog l (encB x) W fun e W' =>
      (e = .returned (.bool true) ∧ J (pre ++ [x]) W' ∧ Keeps S W W') ∨ (e = .returned (.bool false) ∧ Jx (pre ++ [x]) W'))
    (W : World) (hBg : W.cell? ⟨Bg, 0, none⟩ = some (.int .i64 gap)) (hBs : W.cell? ⟨Bs, 0, none⟩ = some (.slice A xs.length c)) (hx : Ints W A xs) (h0 : J [] W) :
    CallsIn F n Try.prog 39 #[.func (.yield l) #[] #[], .pointer (some ⟨Bg, 0, none⟩), .pointer (some ⟨Bs, 0, none⟩)] W fun e W' => (∃ v, e = .returned v) ∧
      ((∃ ys, ys = upto (bnd gap xs) xs.length ∧ J ys W') ∨ (∃ pre, (∃ k, k ≤ xs.length ∧ pre = upto (bnd gap xs) k) ∧ Jx pre W')) := by
  have Hx := Lib.hid hx
  have hlen := (right_iff.1 hr).1
  have hg := (right_iff.1 hr).2.1
  have Hxs := Lib.hid (right_iff.1 hr).2.2
  have Hst := Lib.hid (st_bounds hr)
  have HJ0 := Lib.hid h0
  have HSA := Lib.hid hSA
  have HSg := Lib.hid hSg
  have HBg := Lib.hid hBg
  clear hx hr h0 hSA hSg
  refine callsIn_of_wp Try.func39 rfl h39 ?_ hro
  simp only [Try.ntmps39, List.size_toArray, List.length_cons, List.length_nil, Nat.reduceAdd, Nat.reduceSub, Array.replicate_succ, Array.replicate_zero, List.push_toArray, List.append_toArray, List.nil_append, List.cons_append]
  gi_wp2
  gi_loopw [4, 10] (fun v i wr => ∃ k : Nat, k ≤ xs.length ∧ i = .int .i64 k ∧ (∃ a, v = .int .i64 a ∧ Hid (a = st gap xs k)) ∧ Hid (J (upto (bnd gap xs) k) wr) ∧ Hid (Keeps S W wr))
    (fun _ i _ => xs.length - (intOf i).toNat)
  case atStart => exact ⟨0, Nat.zero_le _, rfl, ⟨_, rfl, Lib.hid rfl⟩, HJ0, Lib.hid (Keeps.refl _ _)⟩
  case round =>
    obtain ⟨k, hk, rfl, ⟨a, rfl, ha⟩, hJs, hnx⟩ := hrel
    have hab := Hst.out k hk
    rw [← ha.out] at hab
    have hgc : wr.cell? ⟨Bg, 0, none⟩ = some (.int .i64 gap) := (hnx.out.cell (p := ⟨Bg, 0, none⟩) HSg.out).trans HBg.out
    clear hBg hBs
    by_cases hlt : k < xs.length
    · obtain ⟨x, b, off, hxk, rfl, hc⟩ := Hx.out.get k hlt
      have hc' : wr.cell? ⟨b, off + k, none⟩ = some (.int .i64 x) := (hnx.out.cell (p := ⟨b, off + k, none⟩) (HSA.out b off rfl (by omega))).trans hc
      have hxb := Hxs.out k hlt
      rw [hxk.out] at hxb
      clear hc
      obtain ⟨fn, tmps, assign, body, hy, hR⟩ := hY _ (mkB a (a + x)) wr hJs.out (by rw [upto_length]; exact hlt)
      have HR := Lib.hid hR
      clear hR
      rw [encB_mk (by omega)] at hy
      have hb2 : mkB a (a + x) = bnd gap xs k := by unfold bnd; rw [hxk.out, ha.out]
      have Hb2 := Lib.hid hb2
      clear hb2 hY
      have hab2 : 0 ≤ a + x ∧ a + x ≤ 30000000000000 := by omega
      gi_wp2
      refine HR.out.mono ?_
      rintro e W3 (⟨rfl, hJ3, hk3⟩ | ⟨rfl, hJx3⟩)
      · have HJ3 := Lib.hid hJ3
        have hgc3 : W3.cell? ⟨Bg, 0, none⟩ = some (.int .i64 gap) := (hk3.cell (p := ⟨Bg, 0, none⟩) HSg.out).trans hgc
        have Hk3 := Lib.hid (hnx.out.trans hk3)
        clear hJ3 hk3 hgc
        gi_wp2
        go_roundw
        case rel => exact ⟨k + 1, by omega, by simp, ⟨_, rfl, by rw [ha.out, ← hxk.out]; exact Lib.hid rfl⟩, by rw [upto_succ, ← Hb2.out]; exact HJ3, Hk3⟩
        case measure => simp [intOf]; omega
      · have HJ3 := Lib.hid hJx3
        clear hJx3
        gi_wp2
        refine bodyPost_ret (results_none rfl _ _ _) rfl ?_
        exact ⟨⟨_, rfl⟩, .inr ⟨_, ⟨k + 1, by omega, (upto_succ _ _).symm⟩, by rw [← Hb2.out]; exact HJ3.out⟩⟩
    · obtain rfl : k = xs.length := by omega
      clear hY
      gi_wp2
      go_end0
      exact ⟨⟨_, rfl⟩, .inl ⟨_, rfl, hJs.out⟩⟩

theorem c39_stops (F : Fence) (n : Nat) (h39 : F.fn 39) (hro : F.round = none) (hn : 1 ≤ n) (Bg Bs : Nat) (S : Nat → Prop) (A : Option Addr) (xs : List Int) (c : Nat) (gap : Int) (hr : right xs gap = true)
    (hSA : ∀ b off, A = some ⟨b, off, none⟩ → 0 < xs.length → S b) (hSg : S Bg) (w : World) (hBg : w.cell? ⟨Bg, 0, none⟩ = some (.int .i64 gap)) (hBs : w.cell? ⟨Bs, 0, none⟩ = some (.slice A xs.length c)) (hx : Ints w A xs) :
    SeqStopsK F n Try.prog 39 #[.pointer (some ⟨Bg, 0, none⟩), .pointer (some ⟨Bs, 0, none⟩)] encB (Keeps S) (fun ys => ys = upto (bnd gap xs) xs.length) (fun pre => ∃ k, k ≤ xs.length ∧ pre = upto (bnd gap xs) k) xs.length w := fun l J Jx W hW _ _ hY h0 => by
  have hc1 : W.cell? ⟨Bg, 0, none⟩ = some (.int .i64 gap) := (hW.cell (p := ⟨Bg, 0, none⟩) (World.block_lt_of_cell? w _ hBg)).trans hBg
  have hc2 : W.cell? ⟨Bs, 0, none⟩ = some (.slice A xs.length c) := (hW.cell (p := ⟨Bs, 0, none⟩) (World.block_lt_of_cell? w _ hBs)).trans hBs
  exact c39 F n h39 hro l Bg Bs S A xs c gap hr hSA hSg J Jx hn hY W hc1 hc2 (hx.below hW) h0

end Go.Proofs.Ytnjifmoclfgegaa
