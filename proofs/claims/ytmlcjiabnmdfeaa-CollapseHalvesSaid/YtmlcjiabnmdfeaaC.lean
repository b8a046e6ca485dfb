/- Contracts of grid.within and of the slots that a place has. -/
import Derived.Test.YtmlcjiabnmdfeaaA
import Derived.Test.YtmlcjiabnmdfeaaCU
import Derived.RangeFuncNested
import Derived.RangeFuncBound
import Derived.RangeFuncCalls
import Derived.RangeFuncLeaves
import Derived.Shelf.Abstract
import Derived.Shelf.RegionOpen
import Derived.OwnWalkIn
import Derived.TacticsInMore
import Derived.LoopNIn
import Derived.LoopIn
namespace Go.Proofs.Ytmlcjiabnmdfeaa
open Go Go.RowKit Go.Shelf
set_option linter.unusedVariables false
attribute [local go_sem] Oper.semAt_some

set_option maxHeartbeats 2000000 in
/-- grid.within, of one number -/
theorem c39 (lo hi n : Int) (B : Nat) (w : World) (h : w.cell? ⟨B, 0, none⟩ = some (.int .i64 n)) :
    Calls Try.prog 39 #[.int .i64 lo, .int .i64 hi, .slice (some ⟨B, 0, none⟩) 1 1] w fun e w' => e = .returned (.bool (decide (lo ≤ n ∧ n ≤ hi))) ∧ w = w' := by
  have H := Lib.hid h
  by_cases h1 : n < lo
  · have hf : decide (lo ≤ n ∧ n ≤ hi) = false := decide_eq_false (by omega)
    rw [hf]
    clear hf
    go_enter Try.func39, Try.ntmps39
    go_wp2
    go_loop [11] (fun i => i = .int .i64 0) (fun i => 1 - (intOf i).toNat)
    case atStart => rfl
    case round =>
      subst hrel
      go_wp2
      go_ret
      exact ⟨rfl, rfl⟩
  · by_cases h2 : hi < n
    · have hf : decide (lo ≤ n ∧ n ≤ hi) = false := decide_eq_false (by omega)
      rw [hf]
      clear hf
      go_enter Try.func39, Try.ntmps39
      go_wp2
      go_loop [11] (fun i => i = .int .i64 0) (fun i => 1 - (intOf i).toNat)
      case atStart => rfl
      case round =>
        subst hrel
        go_wp2
        go_ret
        exact ⟨rfl, rfl⟩
    · have hf : decide (lo ≤ n ∧ n ≤ hi) = true := decide_eq_true (by omega)
      rw [hf]
      clear hf
      go_enter Try.func39, Try.ntmps39
      go_wp2
      go_loop [11] (fun i => ∃ k : Nat, k ≤ 1 ∧ i = .int .i64 k) (fun i => 1 - (intOf i).toNat)
      case atStart => exact ⟨0, by omega, rfl⟩
      case round =>
        obtain ⟨k, hk, rfl⟩ := hrel
        rcases k with _ | _ | k
        · go_wp2
          go_round
          case rel => exact ⟨1, by omega, rfl⟩
          case measure => simp [intOf]
        · go_wp2
          go_ret
          exact ⟨rfl, rfl⟩
        · omega

/-- grid.owned -/
theorem c40 (p : Place) (w : World) :
    Calls Try.prog 40 #[.agg p.arr] w fun e w' => e = .returned (.func (.func 60) #[] #[.pointer (some ⟨w.heap.size, 0, none⟩)]) ∧ w.alloc (.cells p.arr 43) = w' := by
  go_enter Try.func40, Try.ntmps40
  go_wp2
  go_ret
  exact ⟨rfl, rfl⟩

/-- the slots of a place, in order -/
def ownRow (r0 c0 i : Nat) : Nat → List (Nat × Nat)
  | 0 => []
  | k + 1 => ownRow r0 c0 i k ++ [(r0 + i, c0 + k)]
def ownTo (r0 c0 q : Nat) : Nat → List (Nat × Nat)
  | 0 => []
  | i + 1 => ownTo r0 c0 q i ++ ownRow r0 c0 i q
theorem ownRow_len (r0 c0 i : Nat) : ∀ k, (ownRow r0 c0 i k).length = k
  | 0 => rfl
  | k + 1 => by rw [ownRow, List.length_append, ownRow_len r0 c0 i k]; rfl
theorem ownTo_len (r0 c0 q : Nat) : ∀ i, (ownTo r0 c0 q i).length = i * q
  | 0 => by simp [ownTo]
  | i + 1 => by rw [ownTo, List.length_append, ownRow_len, ownTo_len r0 c0 q i, Nat.succ_mul]
def encSl (s : Nat × Nat) : Array Value := #[.agg #[.int .i64 s.1, .int .i64 s.2]]

set_option maxRecDepth 100000 in
set_option maxHeartbeats 4000000 in
/-- the iterator over a place's slots -/
theorem c60w (n l Bp : Nat) (S : Nat → Prop) (node : Int) (r0 c0 m q : Nat) (hbd : r0 + m ≤ 100000 ∧ c0 + q ≤ 100000) (hSB : S Bp) (Ok : Nat × Nat → Prop) (hOk : ∀ i k, i < m → k < q → Ok (r0 + i, c0 + k)) (J Jx : List (Nat × Nat) → World → Prop) (hn : 1 ≤ n)
    (hY : ∀ pre x W, J pre W → pre.length < m * q → Ok x → YieldAt Fence.wide (n - 1) Try.prog l (encSl x) W fun e W' =>
      (e = .returned (.bool true) ∧ J (pre ++ [x]) W' ∧ CT.Keeps S W W') ∨ (e = .returned (.bool false) ∧ Jx (pre ++ [x]) W'))
    (W : World) (hp : GR.One Place.cells 43 W Bp ⟨node, r0, c0, m, q⟩) (h0 : J [] W) :
    CallsIn Fence.wide n Try.prog 60 #[.func (.yield l) #[] #[], .pointer (some ⟨Bp, 0, none⟩)] W fun e W' => (∃ v, e = .returned v) ∧
      ((∃ ys, ys = ownTo r0 c0 q m ∧ J ys W') ∨ (∃ pre, (∃ i k, i < m ∧ k < q ∧ pre = ownTo r0 c0 q i ++ ownRow r0 c0 i (k + 1)) ∧ Jx pre W')) := by
  have HJ0 := Lib.hid h0
  have HP := Lib.hid hp.at_
  have HSB := Lib.hid hSB
  have HOk := Lib.hid hOk
  have z : ∀ X : World, X.heap[Bp]? = some (.cells (Place.cells ⟨node, r0, c0, m, q⟩).toArray 43 (0, 0)) → X.cell? ⟨Bp, 1, none⟩ = some (.int .i64 r0) ∧ X.cell? ⟨Bp, 2, none⟩ = some (.int .i64 c0) ∧ X.cell? ⟨Bp, 3, none⟩ = some (.int .i64 m) ∧ X.cell? ⟨Bp, 4, none⟩ = some (.int .i64 q) := fun X hX => by simp [World.cell?, hX, Place.cells]
  obtain ⟨_, _, p3, _⟩ := z W HP.out
  have Z := Lib.hid z
  clear h0 hp hSB z hOk
  refine callsIn_of_wp Try.func60 rfl trivial ?_ rfl
  simp only [Try.ntmps60, List.size_toArray, List.length_cons, List.length_nil, Nat.reduceAdd, Nat.reduceSub, Array.replicate_succ, Array.replicate_zero, List.push_toArray, List.append_toArray, List.nil_append, List.cons_append]
  gi_wp2
  clear p3
  gi_loopw [7] (fun a wr => ∃ i : Nat, i ≤ m ∧ a = .int .i64 i ∧ Hid (J (ownTo r0 c0 q i) wr) ∧ Hid (CT.Keeps S W wr)) (fun a _ => m - (intOf a).toNat)
  case atStart => exact ⟨0, Nat.zero_le _, rfl, HJ0, Lib.hid (CT.Keeps.refl _ _)⟩
  case round =>
    obtain ⟨i, hi, rfl, hJi, hni⟩ := hrel
    by_cases hlt : i < m
    · have ti : decide ((i : Int) < (m : Int)) = true := decide_eq_true (by omega)
      obtain ⟨_, _, _, p4⟩ := Z.out wr ((hni.out.block Bp HSB.out).trans HP.out)
      obtain ⟨wa, hwa⟩ : ∃ wa, wa = wr := ⟨_, rfl⟩
      subst hwa
      gi_wp2_with (fail)
      clear p4
      gi_loopw [12] (fun a w2 => ∃ k : Nat, k ≤ q ∧ a = .int .i64 k ∧ Hid (J (ownTo r0 c0 q i ++ ownRow r0 c0 i k) w2) ∧ Hid (CT.Keeps S W w2)) (fun a _ => q - (intOf a).toNat)
      case atStart => exact ⟨0, Nat.zero_le _, rfl, Lib.hid (by rw [ownRow, List.append_nil]; exact hJi.out), hni⟩
      case round =>
        obtain ⟨k, hk, rfl, hJk, hnk⟩ := hrel
        by_cases hlk : k < q
        · have tk : decide ((k : Int) < (q : Int)) = true := decide_eq_true (by omega)
          obtain ⟨p1, p2, _, _⟩ := Z.out wr ((hnk.out.block Bp HSB.out).trans HP.out)
          have f1 : IntKind.i64.wrap ((r0 : Int) + (i : Int)) = (r0 : Int) + (i : Int) := IntWalk.i64_in _ (by omega)
          have f2 : IntKind.i64.wrap ((c0 : Int) + (k : Int)) = (c0 : Int) + (k : Int) := IntWalk.i64_in _ (by omega)
          have hmul2 : (i + 1) * q ≤ m * q := Nat.mul_le_mul_right _ (by omega)
          rw [Nat.succ_mul] at hmul2
          have HYk := hY (ownTo r0 c0 q i ++ ownRow r0 c0 i k) (r0 + i, c0 + k) _ hJk.out (by rw [List.length_append, ownRow_len, ownTo_len]; omega) (HOk.out i k hlt hlk)
          rw [List.append_assoc] at HYk
          have Hin : Hid (ownRow r0 c0 i (k + 1) = ownRow r0 c0 i k ++ [(r0 + i, c0 + k)]) := Lib.hid rfl
          rw [← Hin.out] at HYk
          unfold encSl at HYk
          dsimp only at HYk
          rw [Int.natCast_add, Int.natCast_add] at HYk
          obtain ⟨fn, tmps, assign, body, hy, hR⟩ := HYk
          have HR := Lib.hid hR
          clear hR hmul2
          gi_wp2
          refine HR.out.mono ?_
          rintro e W3 (⟨rfl, hJ3, hk3⟩ | ⟨rfl, hJx3⟩)
          · have HJ3 := Lib.hid hJ3
            have Hk3 := Lib.hid (hnk.out.trans hk3)
            clear hJ3 hk3 p1 p2
            gi_wp2
            go_roundw
            case rel => exact ⟨k + 1, by omega, by simp, HJ3, Hk3⟩
            case measure => simp [intOf]; omega
          · have HJ3 := Lib.hid hJx3
            clear hJx3 p1 p2
            gi_wp2
            refine bodyPost_ret (results_none rfl _ _ _) rfl ?_
            exact ⟨⟨_, rfl⟩, .inr ⟨_, ⟨i, k, hlt, hlk, rfl⟩, HJ3.out⟩⟩
        · obtain rfl : k = q := by omega
          have tk : decide ((k : Int) < (k : Int)) = false := decide_eq_false (by omega)
          gi_wp2
          go_roundw
          case rel => exact ⟨i + 1, by omega, by simp, hJk, hnk⟩
          case measure => simp [intOf]; omega
    · obtain rfl : i = m := by omega
      have ti : decide ((i : Int) < (i : Int)) = false := decide_eq_false (by omega)
      gi_wp2
      go_end0
      exact ⟨⟨_, rfl⟩, .inl ⟨_, rfl, hJi.out⟩⟩
theorem c60_stops (n : Nat) (hn : 1 ≤ n) (Bp : Nat) (S : Nat → Prop) (node : Int) (r0 c0 m q : Nat) (hbd : r0 + m ≤ 100000 ∧ c0 + q ≤ 100000) (hSB : S Bp) (Ok : Nat × Nat → Prop) (hOk : ∀ i k, i < m → k < q → Ok (r0 + i, c0 + k)) (w : World) (hp : GR.One Place.cells 43 w Bp ⟨node, r0, c0, m, q⟩) :
    SeqStopsK Fence.wide n Try.prog 60 #[.pointer (some ⟨Bp, 0, none⟩)] (fun x : { s : Nat × Nat // Ok s } => encSl x.1) (CT.Keeps S) (fun ys => ys.map Subtype.val = ownTo r0 c0 q m) (fun pre => ∃ i k, i < m ∧ k < q ∧ pre.map Subtype.val = ownTo r0 c0 q i ++ ownRow r0 c0 i (k + 1)) (m * q) w := fun l J Jx W hW hJ hJx hY h0 => by
  refine (c60w n l Bp S node r0 c0 m q hbd hSB Ok hOk (fun pre W => ∃ p : List { s : Nat × Nat // Ok s }, p.map Subtype.val = pre ∧ J p W) (fun pre W => ∃ p : List { s : Nat × Nat // Ok s }, p.map Subtype.val = pre ∧ Jx p W) hn ?_ W (hp.below hW hp.lt) ⟨[], rfl, h0⟩).mono ?_
  · rintro pre x W1 ⟨p, rfl, hj⟩ hlen hx
    refine (hY p ⟨x, hx⟩ W1 hj (by simpa using hlen)).mono fun e W' h => ?_
    rcases h with ⟨h1, h2, h3⟩ | ⟨h1, h2⟩
    · exact .inl ⟨h1, ⟨p ++ [⟨x, hx⟩], by simp, h2⟩, h3⟩
    · exact .inr ⟨h1, ⟨p ++ [⟨x, hx⟩], by simp, h2⟩⟩
  · rintro e W' ⟨h1, h2⟩
    refine ⟨h1, ?_⟩
    rcases h2 with ⟨ys, h3, p, h4, h5⟩ | ⟨pre, ⟨i, k, hi, hk, h3⟩, p, h4, h5⟩
    · exact .inl ⟨p, h4.trans h3, h5⟩
    · exact .inr ⟨p, ⟨i, k, hi, hk, h4.trans h3⟩, h5⟩

end Go.Proofs.Ytmlcjiabnmdfeaa
