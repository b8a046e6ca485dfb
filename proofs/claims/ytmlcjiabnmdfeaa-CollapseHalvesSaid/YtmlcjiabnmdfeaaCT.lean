/- Package contest: contracts of Half, Right, Winner, and the order of sides (chapter 11, turned to this program). -/
import Derived.Test.YtmlcjiabnmdfeaaProg
import Derived.Orders
import Derived.WalkKit
import Derived.KernelRfl
import Derived.WalkLawsBesides
import Derived.WalkSpells
import Derived.Deep.QuietTactic
import Derived.BigQuiet
import Derived.Deep.LoopGhost
import Derived.Lib.Hide
import Derived.RangeFuncNested
import Derived.RangeFuncBound
import Derived.RangeFuncCalls
import Derived.RangeFuncLeaves
import Derived.Shelf.Abstract
import Derived.Shelf.RegionOpen
import Derived.OwnWalkIn
import Derived.TacticsInMore
import Derived.LoopNIn
import Derived.LoopIn
import Derived.Maps.AppendAt
import Derived.Deep.RegionHeld3
import Derived.Deep.RegionWith
import Derived.Scope
import Derived.ScopeJumps
import Derived.WalkMore
import Derived.Laws.MakeOwn
import Derived.Laws.OwnMore
import Derived.OwnWalk
namespace Go.Proofs.Ytmlcjiabnmdfeaa.CT
open Go
open Go.RowKit
set_option linter.unusedVariables false
open Go.RowKit Go.Shelf
attribute [local go_sem] Oper.semAt_some
open Go Go.RowKit Go.Shelf

/-- a side's numbers -/
structure Side where
  style : Int
  width : Int
  color : Int
  by_ : Int
  row : Int
  col : Int
  deriving DecidableEq

def Side.cells (s : Side) : List Value := [.int .i64 s.style, .int .i64 s.width, .int .u32 s.color, .int .i64 s.by_, .int .i64 s.row, .int .i64 s.col]

def Side.arr (s : Side) : Array Value := #[.int .i64 s.style, .int .i64 s.width, .int .u32 s.color, .int .i64 s.by_, .int .i64 s.row, .int .i64 s.col]

/-- contest.Half -/
def half (n : Int) (first : Bool) : Int := if n < 0 then 0 else if first then n - n / 2 else n / 2

theorem c12 (n : Int) (first : Bool) (w : World) (hn : n ≤ 9223372036854775807) : Calls Try.prog 19 #[.int .i64 n, .bool first] w fun e w' => e = .returned (.int .i64 (half n first)) ∧ w = w' := by
  by_cases h : n < 0
  · have hh : half n first = 0 := by unfold half; rw [if_pos h]
    have Hh := Lib.hid hh
    clear hh
    go_enter Try.func19, Try.ntmps19
    go_wp2
    go_ret
    rw [Hh.out]
    exact ⟨rfl, rfl⟩
  · cases first with
    | true =>
      have hh : half n true = n - n / 2 := by unfold half; rw [if_neg h, if_pos rfl]
      have Hh := Lib.hid hh
      clear hh
      go_enter Try.func19, Try.ntmps19
      go_wp2
      go_ret
      rw [Hh.out]
      exact ⟨rfl, rfl⟩
    | false =>
      have hh : half n false = n / 2 := by unfold half; rw [if_neg h, if_neg (by simp)]
      have Hh := Lib.hid hh
      clear hh
      go_enter Try.func19, Try.ntmps19
      go_wp2
      go_ret
      rw [Hh.out]
      exact ⟨rfl, rfl⟩

/-- contest.isDrawn -/
def drawn (n : Int) : Bool := n != 0 && n != 1

theorem c27 (n : Int) (w : World) : Calls Try.prog 67 #[.int .i64 n] w fun e w' => e = .returned (.bool (drawn n)) ∧ w = w' := by
  by_cases h0 : n = 0
  · subst h0
    go_enter Try.func67, Try.ntmps67
    go_wp2
    go_ret
    exact ⟨rfl, rfl⟩
  · by_cases h1 : n = 1
    · subst h1
      go_enter Try.func67, Try.ntmps67
      go_wp2
      go_ret
      exact ⟨rfl, rfl⟩
    · have hd : drawn n = true := by simp [drawn, h0, h1]
      have t0 : (n != 0) = true := by rw [bne_iff_ne]; exact h0
      have t1 : (n != 1) = true := by rw [bne_iff_ne]; exact h1
      have Hd := Lib.hid hd
      clear hd h0 h1
      go_enter Try.func67, Try.ntmps67
      go_wp2
      go_ret
      rw [Hd.out]
      exact ⟨rfl, rfl⟩

def Ints (w : World) (A : Option Addr) (xs : List Int) : Prop :=
  ∀ j, j < xs.length → ∃ b off, A = some ⟨b, off, none⟩ ∧ w.cell? ⟨b, off + j, none⟩ = some (.int .i64 (xs[j]?.getD 0))

theorem Ints.get {w : World} {A : Option Addr} {xs : List Int} (h : Ints w A xs) (j : Nat) (hj : j < xs.length) :
    ∃ x b off, Hid (xs[j]?.getD 0 = x) ∧ A = some ⟨b, off, none⟩ ∧ w.cell? ⟨b, off + j, none⟩ = some (.int .i64 x) :=
  let ⟨b, off, hA, hc⟩ := h j hj; ⟨_, b, off, Lib.hid rfl, hA, hc⟩

def within (lo hi : Int) (xs : List Int) : Bool := xs.all fun n => decide (lo ≤ n ∧ n ≤ hi)

theorem within_false {lo hi : Int} {xs : List Int} {k : Nat} (hk : k < xs.length) (h : ¬ (lo ≤ xs[k]?.getD 0 ∧ xs[k]?.getD 0 ≤ hi)) : within lo hi xs = false := by
  unfold within
  rw [List.all_eq_false]
  refine ⟨xs[k], List.getElem_mem hk, ?_⟩
  simp [hk] at h
  simp; omega

theorem within_true {lo hi : Int} {xs : List Int} (h : ∀ j, j < xs.length → lo ≤ xs[j]?.getD 0 ∧ xs[j]?.getD 0 ≤ hi) : within lo hi xs = true := by
  unfold within
  rw [List.all_eq_true]
  intro x hx
  obtain ⟨j, hj, rfl⟩ := List.getElem_of_mem hx
  have := h j hj
  simp [hj] at this
  simp [this]

set_option maxHeartbeats 400000 in
/-- contest.within -/
theorem c28 (lo hi : Int) (A : Option Addr) (xs : List Int) (c : Nat) (w : World) (hx : Ints w A xs) (hl : xs.length ≤ 17592186044416) :
    Calls Try.prog 68 #[.int .i64 lo, .int .i64 hi, .slice A xs.length c] w fun e w' => e = .returned (.bool (within lo hi xs)) ∧ w = w' := by
  have Hx := Lib.hid hx
  clear hx
  go_enter Try.func68, Try.ntmps68
  go_wp2
  go_loop [11] (fun i => ∃ k : Nat, k ≤ xs.length ∧ i = .int .i64 k ∧ Hid (∀ j, j < k → lo ≤ xs[j]?.getD 0 ∧ xs[j]?.getD 0 ≤ hi)) (fun i => xs.length - (intOf i).toNat)
  case atStart => exact ⟨0, Nat.zero_le _, rfl, fun j hj => absurd hj (Nat.not_lt_zero j)⟩
  case round =>
    obtain ⟨k, hk, rfl, hp⟩ := hrel
    by_cases hlt : k < xs.length
    · obtain ⟨x, b, off, hxk, rfl, hc⟩ := Hx.out.get k hlt
      by_cases h1 : x < lo
      · have hf : within lo hi xs = false := within_false hlt (by rw [hxk.out]; omega)
        have Hf := Lib.hid hf
        clear hf
        go_wp2
        go_ret
        rw [Hf.out]
        exact ⟨rfl, rfl⟩
      · by_cases h2 : hi < x
        · have hf : within lo hi xs = false := within_false hlt (by rw [hxk.out]; omega)
          have Hf := Lib.hid hf
          clear hf
          go_wp2
          go_ret
          rw [Hf.out]
          exact ⟨rfl, rfl⟩
        · have hnext : Hid (∀ j, j < k + 1 → lo ≤ xs[j]?.getD 0 ∧ xs[j]?.getD 0 ≤ hi) := fun j hj => by
            by_cases e : j = k
            · subst e; rw [hxk.out]; omega
            · exact hp.out j (by omega)
          go_wp2
          go_round
          case rel => exact ⟨k + 1, by omega, by go_num, hnext⟩
          case measure => simp [intOf]; omega
    · obtain rfl : k = xs.length := by omega
      have hf : within lo hi xs = true := within_true hp.out
      have Hf := Lib.hid hf
      clear hf
      go_wp2
      go_ret
      rw [Hf.out]
      exact ⟨rfl, rfl⟩

theorem c28_one (lo hi n : Int) (B : Nat) (W : World) (h : W.cell? ⟨B, 0, none⟩ = some (.int .i64 n)) : Calls Try.prog 68 #[.int .i64 lo, .int .i64 hi, .slice (some ⟨B, 0, none⟩) 1 1] W fun e w' => e = .returned (.bool (decide (lo ≤ n ∧ n ≤ hi))) ∧ W = w' := by
  have := c28 lo hi (some ⟨B, 0, none⟩) [n] 1 W (fun j hj => by
    have : j = 0 := by simp at hj; exact hj
    subst this
    exact ⟨B, 0, rfl, h⟩) (by simp)
  simpa [within] using this

theorem c28_two (lo hi a b : Int) (B : Nat) (W : World) (h : W.cell? ⟨B, 0, none⟩ = some (.int .i64 a)) (h' : W.cell? ⟨B, 1, none⟩ = some (.int .i64 b)) : Calls Try.prog 68 #[.int .i64 lo, .int .i64 hi, .slice (some ⟨B, 0, none⟩) 2 2] W fun e w' => e = .returned (.bool (decide (lo ≤ a ∧ a ≤ hi) && decide (lo ≤ b ∧ b ≤ hi))) ∧ W = w' := by
  have := c28 lo hi (some ⟨B, 0, none⟩) [a, b] 2 W (fun j hj => by
    have : j < 2 := hj
    rcases j with _ | _ | j
    · exact ⟨B, 0, rfl, h⟩
    · exact ⟨B, 0, rfl, h'⟩
    · omega) (by simp)
  simpa [within] using this

/-- contest.Right -/
def rightW (s : Side) : Bool := decide (0 ≤ s.width ∧ s.width ≤ if drawn s.style then 1073741824 else 0)

def right (s : Side) : Bool := decide (0 ≤ s.style ∧ s.style ≤ 9) && rightW s && decide (0 ≤ s.by_ ∧ s.by_ ≤ 5) && (decide (0 ≤ s.row ∧ s.row ≤ 1000000) && decide (0 ≤ s.col ∧ s.col ≤ 1000000))

set_option maxHeartbeats 1000000 in
theorem c18 (s : Side) (w : World) : Calls Try.prog 51 #[.agg s.arr] w fun e w' => e = .returned (.bool (right s)) ∧ Below w.heap.size w w' := by
  obtain ⟨sty, wid, co, by_, row, col⟩ := s
  have hr : right ⟨sty, wid, co, by_, row, col⟩ = (decide (0 ≤ sty ∧ sty ≤ 9) && decide (0 ≤ wid ∧ wid ≤ if drawn sty then 1073741824 else 0) && decide (0 ≤ by_ ∧ by_ ≤ 5) && (decide (0 ≤ row ∧ row ≤ 1000000) && decide (0 ≤ col ∧ col ≤ 1000000))) := rfl
  have h1 := c28_one 0 9 sty
  have h2 := c28_one 0 (if drawn sty then 1073741824 else 0) wid
  have h3 := c28_one 0 5 by_
  have h4 := c28_two 0 1000000 row col
  generalize decide (0 ≤ sty ∧ sty ≤ 9) = b1 at *
  generalize decide (0 ≤ wid ∧ wid ≤ if drawn sty then 1073741824 else 0) = b2 at *
  generalize decide (0 ≤ by_ ∧ by_ ≤ 5) = b3 at *
  generalize (decide (0 ≤ row ∧ row ≤ 1000000) && decide (0 ≤ col ∧ col ≤ 1000000)) = b4 at *
  unfold Side.arr
  dsimp only
  cases hd : drawn sty
  all_goals
    rw [hd] at h2
    have Hd := Lib.hid hd
    clear hd
    cases b1
    · have Hr := Lib.hid hr
      have H1 := Lib.hid h1
      clear hr h1 h2 h3 h4
      go_enter Try.func51, Try.ntmps51
      go_wp2_with (fail)
      refine (c27 _ _).mono ?_
      rintro e w1 ⟨rfl, rfl⟩
      rw [Hd.out]
      go_wp2_with (fail)
      refine (H1.out _ _ (by go_simp)).mono ?_
      rintro e w1 ⟨rfl, rfl⟩
      go_wp2
      go_ret
      exact ⟨by rw [Hr.out]; rfl, (by repeat (first | exact Below.refl _ _ | (refine Below.alloc ?_ (by simp <;> omega) _)))⟩
    · cases b2
      · have Hr := Lib.hid hr
        have H1 := Lib.hid h1
        have H2 := Lib.hid h2
        clear hr h1 h2 h3 h4
        go_enter Try.func51, Try.ntmps51
        go_wp2_with (fail)
        refine (c27 _ _).mono ?_
        rintro e w1 ⟨rfl, rfl⟩
        rw [Hd.out]
        go_wp2_with (fail)
        refine (H1.out _ _ (by go_simp)).mono ?_
        rintro e w1 ⟨rfl, rfl⟩
        go_wp2_with (fail)
        refine (H2.out _ _ (by go_simp)).mono ?_
        rintro e w1 ⟨rfl, rfl⟩
        go_wp2
        go_ret
        exact ⟨by rw [Hr.out]; rfl, (by repeat (first | exact Below.refl _ _ | (refine Below.alloc ?_ (by simp <;> omega) _)))⟩
      · cases b3
        · have Hr := Lib.hid hr
          have H1 := Lib.hid h1
          have H2 := Lib.hid h2
          have H3 := Lib.hid h3
          clear hr h1 h2 h3 h4
          go_enter Try.func51, Try.ntmps51
          go_wp2_with (fail)
          refine (c27 _ _).mono ?_
          rintro e w1 ⟨rfl, rfl⟩
          rw [Hd.out]
          go_wp2_with (fail)
          refine (H1.out _ _ (by go_simp)).mono ?_
          rintro e w1 ⟨rfl, rfl⟩
          go_wp2_with (fail)
          refine (H2.out _ _ (by go_simp)).mono ?_
          rintro e w1 ⟨rfl, rfl⟩
          go_wp2_with (fail)
          refine (H3.out _ _ (by go_simp)).mono ?_
          rintro e w1 ⟨rfl, rfl⟩
          go_wp2
          go_ret
          exact ⟨by rw [Hr.out]; rfl, (by repeat (first | exact Below.refl _ _ | (refine Below.alloc ?_ (by simp <;> omega) _)))⟩
        · have Hr := Lib.hid hr
          have H1 := Lib.hid h1
          have H2 := Lib.hid h2
          have H3 := Lib.hid h3
          have H4 := Lib.hid h4
          clear hr h1 h2 h3 h4
          go_enter Try.func51, Try.ntmps51
          go_wp2_with (fail)
          refine (c27 _ _).mono ?_
          rintro e w1 ⟨rfl, rfl⟩
          rw [Hd.out]
          go_wp2_with (fail)
          refine (H1.out _ _ (by go_simp)).mono ?_
          rintro e w1 ⟨rfl, rfl⟩
          go_wp2_with (fail)
          refine (H2.out _ _ (by go_simp)).mono ?_
          rintro e w1 ⟨rfl, rfl⟩
          go_wp2_with (fail)
          refine (H3.out _ _ (by go_simp)).mono ?_
          rintro e w1 ⟨rfl, rfl⟩
          go_wp2_with (fail)
          refine (H4.out _ _ (by go_simp) (by go_simp)).mono ?_
          rintro e w1 ⟨rfl, rfl⟩
          go_wp2
          go_ret
          exact ⟨by rw [Hr.out]; rfl, (by repeat (first | exact Below.refl _ _ | (refine Below.alloc ?_ (by simp <;> omega) _)))⟩

instance : Inhabited Side := ⟨⟨0, 0, 0, 0, 0, 0⟩⟩

def wrongs (xs : List Side) : Bool := xs.any fun s => !right s

theorem wrongs_iff {xs : List Side} : wrongs xs = false ↔ ∀ x ∈ xs, right x = true := by
  unfold wrongs
  rw [List.any_eq_false]
  simp

theorem right_iff {s : Side} : right s = true ↔ (0 ≤ s.style ∧ s.style ≤ 9) ∧ (0 ≤ s.width ∧ s.width ≤ if drawn s.style then 1073741824 else 0) ∧ (0 ≤ s.by_ ∧ s.by_ ≤ 5) ∧ (0 ≤ s.row ∧ s.row ≤ 1000000) ∧ (0 ≤ s.col ∧ s.col ≤ 1000000) := by
  unfold right rightW
  simp only [Bool.and_eq_true, decide_eq_true_eq, and_assoc]

/-- purflingref11.Half -/
theorem c13 (n : Int) (first : Bool) (w : World) (hl : -9223372036854775808 ≤ n) (hn : n ≤ 9223372036854775807) : Calls Try.prog 59 #[.int .i64 n, .bool first] w fun e w' => e = .returned (.int .i64 (half n first)) ∧ w = w' := by
  by_cases h : n < 0
  · have hh : half n first = 0 := by unfold half; rw [if_pos h]
    have Hh := Lib.hid hh
    clear hh
    go_enter Try.func59, Try.ntmps59
    go_wp2
    go_ret
    rw [Hh.out]
    exact ⟨rfl, rfl⟩
  · have hq : n.tdiv 2 = n / 2 := Int.tdiv_eq_ediv_of_nonneg (by omega)
    have hm : n.tmod 2 = n % 2 := Int.tmod_eq_emod_of_nonneg (by omega)
    cases first with
    | true =>
      by_cases h1 : n % 2 = 1
      · have hh : half n true = n / 2 + 1 := by unfold half; rw [if_neg h, if_pos rfl]; omega
        have Hh := Lib.hid hh
        have t1 : (n % 2 == 1) = true := by rw [beq_iff_eq]; exact h1
        clear hh
        go_enter Try.func59, Try.ntmps59
        go_wp2
        go_ret
        rw [Hh.out]
        exact ⟨rfl, rfl⟩
      · have hh : half n true = n / 2 := by unfold half; rw [if_neg h, if_pos rfl]; omega
        have Hh := Lib.hid hh
        have t1 : (n % 2 == 1) = false := by rw [beq_eq_false_iff_ne]; exact h1
        clear hh
        go_enter Try.func59, Try.ntmps59
        go_wp2
        go_ret
        rw [Hh.out]
        exact ⟨rfl, rfl⟩
    | false =>
      have hh : half n false = n / 2 := by unfold half; rw [if_neg h, if_neg (by simp)]
      have Hh := Lib.hid hh
      clear hh
      go_enter Try.func59, Try.ntmps59
      go_wp2
      go_ret
      rw [Hh.out]
      exact ⟨rfl, rfl⟩

theorem right_iff' {s : Side} : right s = true ↔ (0 ≤ s.style ∧ s.style ≤ 9) ∧ (0 ≤ s.width ∧ s.width ≤ 1073741824) ∧ (s.style ≤ 1 → s.width = 0) ∧ (0 ≤ s.by_ ∧ s.by_ ≤ 5) ∧ (0 ≤ s.row ∧ s.row ≤ 1000000) ∧ (0 ≤ s.col ∧ s.col ≤ 1000000) := by
  rw [right_iff]
  unfold drawn
  by_cases h0 : s.style = 0
  · simp [h0]; omega
  · by_cases h1 : s.style = 1
    · simp [h1]; omega
    · simp [h0, h1]; omega

set_option maxHeartbeats 2000000 in
/-- purflingref11.Right -/
theorem c17 (s : Side) (w : World) : Calls Try.prog 48 #[.agg s.arr] w fun e w' => e = .returned (.bool (right s)) ∧ Below w.heap.size w w' := by
  have hi := right_iff' (s := s)
  generalize right s = r at *
  obtain ⟨sty, wid, co, by_, row, col⟩ := s
  dsimp only at hi
  unfold Side.arr
  dsimp only
  have hB : Below w.heap.size w ((w.alloc (.cells #[.int .i64 sty, .int .i64 wid, .int .u32 co, .int .i64 by_, .int .i64 row, .int .i64 col] 45)).alloc (.cells #[.int .i64 sty, .int .i64 wid, .int .u32 co] 27)) := ((Below.refl _ w).alloc (Nat.le_refl _) _).alloc (by simp) _
  have HB := Lib.hid hB
  clear hB
  by_cases hc2 : sty < 0
  · obtain rfl : r = false := by
      rw [← Bool.not_eq_true, hi]; omega
    clear hi
    go_enter Try.func48, Try.ntmps48
    go_wp2
    go_ret
    exact ⟨by first | rfl | exact congrArg (fun x => Ending.returned (.bool x)) (decide_eq_false (by omega)), HB.out⟩
  · skip
    by_cases hc4 : 9 < sty
    · obtain rfl : r = false := by
        rw [← Bool.not_eq_true, hi]; omega
      clear hi
      go_enter Try.func48, Try.ntmps48
      go_wp2
      go_ret
      exact ⟨by first | rfl | exact congrArg (fun x => Ending.returned (.bool x)) (decide_eq_false (by omega)), HB.out⟩
    · skip
      by_cases hc6 : wid < 0
      · obtain rfl : r = false := by
          rw [← Bool.not_eq_true, hi]; omega
        clear hi
        go_enter Try.func48, Try.ntmps48
        go_wp2
        go_ret
        exact ⟨by first | rfl | exact congrArg (fun x => Ending.returned (.bool x)) (decide_eq_false (by omega)), HB.out⟩
      · skip
        by_cases hc8 : 1073741824 < wid
        · obtain rfl : r = false := by
            rw [← Bool.not_eq_true, hi]; omega
          clear hi
          go_enter Try.func48, Try.ntmps48
          go_wp2
          go_ret
          exact ⟨by first | rfl | exact congrArg (fun x => Ending.returned (.bool x)) (decide_eq_false (by omega)), HB.out⟩
        · skip
          by_cases hs : sty ≤ 1
          · by_cases hw : wid = 0
            · subst hw
              by_cases hc14 : by_ < 0
              · obtain rfl : r = false := by
                  rw [← Bool.not_eq_true, hi]; omega
                clear hi
                go_enter Try.func48, Try.ntmps48
                go_wp2
                go_ret
                exact ⟨by first | rfl | exact congrArg (fun x => Ending.returned (.bool x)) (decide_eq_false (by omega)), HB.out⟩
              · skip
                by_cases hc16 : 5 < by_
                · obtain rfl : r = false := by
                    rw [← Bool.not_eq_true, hi]; omega
                  clear hi
                  go_enter Try.func48, Try.ntmps48
                  go_wp2
                  go_ret
                  exact ⟨by first | rfl | exact congrArg (fun x => Ending.returned (.bool x)) (decide_eq_false (by omega)), HB.out⟩
                · skip
                  by_cases hc18 : row < 0
                  · obtain rfl : r = false := by
                      rw [← Bool.not_eq_true, hi]; omega
                    clear hi
                    go_enter Try.func48, Try.ntmps48
                    go_wp2
                    go_ret
                    exact ⟨by first | rfl | exact congrArg (fun x => Ending.returned (.bool x)) (decide_eq_false (by omega)), HB.out⟩
                  · skip
                    by_cases hc20 : 1000000 < row
                    · obtain rfl : r = false := by
                        rw [← Bool.not_eq_true, hi]; omega
                      clear hi
                      go_enter Try.func48, Try.ntmps48
                      go_wp2
                      go_ret
                      exact ⟨by first | rfl | exact congrArg (fun x => Ending.returned (.bool x)) (decide_eq_false (by omega)), HB.out⟩
                    · skip
                      by_cases hc22 : col < 0
                      · obtain rfl : r = false := by
                          rw [← Bool.not_eq_true, hi]; omega
                        clear hi
                        go_enter Try.func48, Try.ntmps48
                        go_wp2
                        go_ret
                        exact ⟨by first | rfl | exact congrArg (fun x => Ending.returned (.bool x)) (decide_eq_false (by omega)), HB.out⟩
                      · skip
                        by_cases hc24 : 1000000 < col
                        · obtain rfl : r = false := by
                            rw [← Bool.not_eq_true, hi]; omega
                          clear hi
                          go_enter Try.func48, Try.ntmps48
                          go_wp2
                          go_ret
                          exact ⟨by first | rfl | exact congrArg (fun x => Ending.returned (.bool x)) (decide_eq_false (by omega)), HB.out⟩
                        · skip
                          obtain rfl : r = true := by
                            rw [hi]; omega
                          clear hi
                          go_enter Try.func48, Try.ntmps48
                          go_wp2
                          go_ret
                          exact ⟨by first | rfl | exact congrArg (fun x => Ending.returned (.bool x)) (decide_eq_false (by omega)), HB.out⟩
            · have t1 : (wid != 0) = true := by rw [bne_iff_ne]; exact hw
              obtain rfl : r = false := by
                rw [← Bool.not_eq_true, hi]; omega
              clear hi
              go_enter Try.func48, Try.ntmps48
              go_wp2
              go_ret
              exact ⟨by first | rfl | exact congrArg (fun x => Ending.returned (.bool x)) (decide_eq_false (by omega)), HB.out⟩
          · skip
            by_cases hc12 : by_ < 0
            · obtain rfl : r = false := by
                rw [← Bool.not_eq_true, hi]; omega
              clear hi
              go_enter Try.func48, Try.ntmps48
              go_wp2
              go_ret
              exact ⟨by first | rfl | exact congrArg (fun x => Ending.returned (.bool x)) (decide_eq_false (by omega)), HB.out⟩
            · skip
              by_cases hc14 : 5 < by_
              · obtain rfl : r = false := by
                  rw [← Bool.not_eq_true, hi]; omega
                clear hi
                go_enter Try.func48, Try.ntmps48
                go_wp2
                go_ret
                exact ⟨by first | rfl | exact congrArg (fun x => Ending.returned (.bool x)) (decide_eq_false (by omega)), HB.out⟩
              · skip
                by_cases hc16 : row < 0
                · obtain rfl : r = false := by
                    rw [← Bool.not_eq_true, hi]; omega
                  clear hi
                  go_enter Try.func48, Try.ntmps48
                  go_wp2
                  go_ret
                  exact ⟨by first | rfl | exact congrArg (fun x => Ending.returned (.bool x)) (decide_eq_false (by omega)), HB.out⟩
                · skip
                  by_cases hc18 : 1000000 < row
                  · obtain rfl : r = false := by
                      rw [← Bool.not_eq_true, hi]; omega
                    clear hi
                    go_enter Try.func48, Try.ntmps48
                    go_wp2
                    go_ret
                    exact ⟨by first | rfl | exact congrArg (fun x => Ending.returned (.bool x)) (decide_eq_false (by omega)), HB.out⟩
                  · skip
                    by_cases hc20 : col < 0
                    · obtain rfl : r = false := by
                        rw [← Bool.not_eq_true, hi]; omega
                      clear hi
                      go_enter Try.func48, Try.ntmps48
                      go_wp2
                      go_ret
                      exact ⟨by first | rfl | exact congrArg (fun x => Ending.returned (.bool x)) (decide_eq_false (by omega)), HB.out⟩
                    · skip
                      by_cases hc22 : 1000000 < col
                      · obtain rfl : r = false := by
                          rw [← Bool.not_eq_true, hi]; omega
                        clear hi
                        go_enter Try.func48, Try.ntmps48
                        go_wp2
                        go_ret
                        exact ⟨by first | rfl | exact congrArg (fun x => Ending.returned (.bool x)) (decide_eq_false (by omega)), HB.out⟩
                      · skip
                        obtain rfl : r = true := by
                          rw [hi]; omega
                        clear hi
                        go_enter Try.func48, Try.ntmps48
                        go_wp2
                        go_ret
                        exact ⟨by first | rfl | exact congrArg (fun x => Ending.returned (.bool x)) (decide_eq_false (by omega)), HB.out⟩

def refw (a b : Side) : Bool :=
  if decide (a.style = 1) ≠ decide (b.style = 1) then decide (a.style = 1)
  else if decide (a.style = 0) ≠ decide (b.style = 0) then decide (b.style = 0)
  else if a.width ≠ b.width then decide (b.width < a.width)
  else if a.style ≠ b.style then decide (a.style < b.style)
  else if a.by_ ≠ b.by_ then decide (a.by_ < b.by_)
  else if a.row ≠ b.row then decide (a.row < b.row)
  else if a.col ≠ b.col then decide (a.col < b.col)
  else decide (a.color < b.color)

set_option maxHeartbeats 4000000 in
/-- purflingref11.Wins -/
theorem c19 (a b : Side) (w : World) : Calls Try.prog 57 #[.agg a.arr, .agg b.arr] w fun e w' => e = .returned (.bool (refw a b)) ∧ Below w.heap.size w w' := by
  have hB : Below w.heap.size w ((w.alloc (.cells a.arr 45)).alloc (.cells b.arr 45)) := ((Below.refl _ w).alloc (Nat.le_refl _) _).alloc (by simp) _
  obtain ⟨W0, hW0⟩ : ∃ W0, (w.alloc (.cells a.arr 45)).alloc (.cells b.arr 45) = W0 := ⟨_, rfl⟩
  have hr : ∃ r, refw a b = r := ⟨_, rfl⟩
  obtain ⟨r, hr⟩ := hr
  rw [hr]
  obtain ⟨sa, aw, ac, ab, ar, al⟩ := a
  obtain ⟨sb, bw, bc, bb, br, bl⟩ := b
  unfold refw at hr
  unfold Side.arr at hW0 hB
  dsimp only at hr hW0 hB
  unfold Side.arr
  dsimp only
  have HB := Lib.hid hB
  clear hB hW0 W0
  by_cases p1 : sa = 1
  · subst p1
    by_cases q1 : sb = 1
    · have tq1 : (sb == 1) = true := by rw [beq_iff_eq]; exact q1
      have uq1 : (sb != 1) = false := by rw [bne_eq_false_iff_eq]; exact q1
      subst q1
      clear tq1 uq1
      by_cases e0 : aw = bw
      · have te0 : (aw == bw) = true := by rw [beq_iff_eq]; exact e0
        have ue0 : (aw != bw) = false := by rw [bne_eq_false_iff_eq]; exact e0
        by_cases e2 : ab = bb
        · have te2 : (ab == bb) = true := by rw [beq_iff_eq]; exact e2
          have ue2 : (ab != bb) = false := by rw [bne_eq_false_iff_eq]; exact e2
          by_cases e3 : ar = br
          · have te3 : (ar == br) = true := by rw [beq_iff_eq]; exact e3
            have ue3 : (ar != br) = false := by rw [bne_eq_false_iff_eq]; exact e3
            by_cases e4 : al = bl
            · have te4 : (al == bl) = true := by rw [beq_iff_eq]; exact e4
              have ue4 : (al != bl) = false := by rw [bne_eq_false_iff_eq]; exact e4
              obtain rfl : r = decide (ac < bc) := by rw [← hr]; simp [*]
              clear hr
              go_enter Try.func57, Try.ntmps57
              go_wp2
              go_ret
              exact ⟨rfl, ((Below.refl _ w).alloc (Nat.le_refl _) _).alloc (by simp) _⟩
            · have te4 : (al == bl) = false := by rw [beq_eq_false_iff_ne]; exact e4
              have ue4 : (al != bl) = true := by rw [bne_iff_ne]; exact e4
              obtain rfl : r = decide (al < bl) := by rw [← hr]; simp [*]
              clear hr
              go_enter Try.func57, Try.ntmps57
              go_wp2
              go_ret
              exact ⟨rfl, ((Below.refl _ w).alloc (Nat.le_refl _) _).alloc (by simp) _⟩
          · have te3 : (ar == br) = false := by rw [beq_eq_false_iff_ne]; exact e3
            have ue3 : (ar != br) = true := by rw [bne_iff_ne]; exact e3
            obtain rfl : r = decide (ar < br) := by rw [← hr]; simp [*]
            clear hr
            go_enter Try.func57, Try.ntmps57
            go_wp2
            go_ret
            exact ⟨rfl, ((Below.refl _ w).alloc (Nat.le_refl _) _).alloc (by simp) _⟩
        · have te2 : (ab == bb) = false := by rw [beq_eq_false_iff_ne]; exact e2
          have ue2 : (ab != bb) = true := by rw [bne_iff_ne]; exact e2
          obtain rfl : r = decide (ab < bb) := by rw [← hr]; simp [*]
          clear hr
          go_enter Try.func57, Try.ntmps57
          go_wp2
          go_ret
          exact ⟨rfl, ((Below.refl _ w).alloc (Nat.le_refl _) _).alloc (by simp) _⟩
      · have te0 : (aw == bw) = false := by rw [beq_eq_false_iff_ne]; exact e0
        have ue0 : (aw != bw) = true := by rw [bne_iff_ne]; exact e0
        obtain rfl : r = decide (bw < aw) := by rw [← hr]; simp [*]
        clear hr
        go_enter Try.func57, Try.ntmps57
        go_wp2
        go_ret
        exact ⟨rfl, ((Below.refl _ w).alloc (Nat.le_refl _) _).alloc (by simp) _⟩
    · have tq1 : (sb == 1) = false := by rw [beq_eq_false_iff_ne]; exact q1
      have uq1 : (sb != 1) = true := by rw [bne_iff_ne]; exact q1
      obtain rfl : r = true := by rw [← hr]; simp [*]
      clear hr
      go_enter Try.func57, Try.ntmps57
      go_wp2
      go_ret
      exact ⟨rfl, ((Below.refl _ w).alloc (Nat.le_refl _) _).alloc (by simp) _⟩
  · have tp1 : (sa == 1) = false := by rw [beq_eq_false_iff_ne]; exact p1
    by_cases q1 : sb = 1
    · have tq1 : (sb == 1) = true := by rw [beq_iff_eq]; exact q1
      have uq1 : (sb != 1) = false := by rw [bne_eq_false_iff_eq]; exact q1
      obtain rfl : r = false := by rw [← hr]; simp [*]
      clear hr
      go_enter Try.func57, Try.ntmps57
      go_wp2
      go_ret
      exact ⟨rfl, ((Below.refl _ w).alloc (Nat.le_refl _) _).alloc (by simp) _⟩
    · have tq1 : (sb == 1) = false := by rw [beq_eq_false_iff_ne]; exact q1
      have uq1 : (sb != 1) = true := by rw [bne_iff_ne]; exact q1
      by_cases p0 : sa = 0
      · subst p0
        by_cases q0 : sb = 0
        · have tq0 : (sb == 0) = true := by rw [beq_iff_eq]; exact q0
          have uq0 : (sb != 0) = false := by rw [bne_eq_false_iff_eq]; exact q0
          subst q0
          clear tq0 uq0
          by_cases e0 : aw = bw
          · have te0 : (aw == bw) = true := by rw [beq_iff_eq]; exact e0
            have ue0 : (aw != bw) = false := by rw [bne_eq_false_iff_eq]; exact e0
            by_cases e2 : ab = bb
            · have te2 : (ab == bb) = true := by rw [beq_iff_eq]; exact e2
              have ue2 : (ab != bb) = false := by rw [bne_eq_false_iff_eq]; exact e2
              by_cases e3 : ar = br
              · have te3 : (ar == br) = true := by rw [beq_iff_eq]; exact e3
                have ue3 : (ar != br) = false := by rw [bne_eq_false_iff_eq]; exact e3
                by_cases e4 : al = bl
                · have te4 : (al == bl) = true := by rw [beq_iff_eq]; exact e4
                  have ue4 : (al != bl) = false := by rw [bne_eq_false_iff_eq]; exact e4
                  obtain rfl : r = decide (ac < bc) := by rw [← hr]; simp [*]
                  clear hr
                  go_enter Try.func57, Try.ntmps57
                  go_wp2
                  go_ret
                  exact ⟨rfl, ((Below.refl _ w).alloc (Nat.le_refl _) _).alloc (by simp) _⟩
                · have te4 : (al == bl) = false := by rw [beq_eq_false_iff_ne]; exact e4
                  have ue4 : (al != bl) = true := by rw [bne_iff_ne]; exact e4
                  obtain rfl : r = decide (al < bl) := by rw [← hr]; simp [*]
                  clear hr
                  go_enter Try.func57, Try.ntmps57
                  go_wp2
                  go_ret
                  exact ⟨rfl, ((Below.refl _ w).alloc (Nat.le_refl _) _).alloc (by simp) _⟩
              · have te3 : (ar == br) = false := by rw [beq_eq_false_iff_ne]; exact e3
                have ue3 : (ar != br) = true := by rw [bne_iff_ne]; exact e3
                obtain rfl : r = decide (ar < br) := by rw [← hr]; simp [*]
                clear hr
                go_enter Try.func57, Try.ntmps57
                go_wp2
                go_ret
                exact ⟨rfl, ((Below.refl _ w).alloc (Nat.le_refl _) _).alloc (by simp) _⟩
            · have te2 : (ab == bb) = false := by rw [beq_eq_false_iff_ne]; exact e2
              have ue2 : (ab != bb) = true := by rw [bne_iff_ne]; exact e2
              obtain rfl : r = decide (ab < bb) := by rw [← hr]; simp [*]
              clear hr
              go_enter Try.func57, Try.ntmps57
              go_wp2
              go_ret
              exact ⟨rfl, ((Below.refl _ w).alloc (Nat.le_refl _) _).alloc (by simp) _⟩
          · have te0 : (aw == bw) = false := by rw [beq_eq_false_iff_ne]; exact e0
            have ue0 : (aw != bw) = true := by rw [bne_iff_ne]; exact e0
            obtain rfl : r = decide (bw < aw) := by rw [← hr]; simp [*]
            clear hr
            go_enter Try.func57, Try.ntmps57
            go_wp2
            go_ret
            exact ⟨rfl, ((Below.refl _ w).alloc (Nat.le_refl _) _).alloc (by simp) _⟩
        · have tq0 : (sb == 0) = false := by rw [beq_eq_false_iff_ne]; exact q0
          have uq0 : (sb != 0) = true := by rw [bne_iff_ne]; exact q0
          obtain rfl : r = false := by rw [← hr]; simp [*]
          clear hr
          go_enter Try.func57, Try.ntmps57
          go_wp2
          go_ret
          exact ⟨rfl, ((Below.refl _ w).alloc (Nat.le_refl _) _).alloc (by simp) _⟩
      · have tp0 : (sa == 0) = false := by rw [beq_eq_false_iff_ne]; exact p0
        by_cases q0 : sb = 0
        · have tq0 : (sb == 0) = true := by rw [beq_iff_eq]; exact q0
          have uq0 : (sb != 0) = false := by rw [bne_eq_false_iff_eq]; exact q0
          obtain rfl : r = true := by rw [← hr]; simp [*]
          clear hr
          go_enter Try.func57, Try.ntmps57
          go_wp2
          go_ret
          exact ⟨rfl, ((Below.refl _ w).alloc (Nat.le_refl _) _).alloc (by simp) _⟩
        · have tq0 : (sb == 0) = false := by rw [beq_eq_false_iff_ne]; exact q0
          have uq0 : (sb != 0) = true := by rw [bne_iff_ne]; exact q0
          by_cases e0 : aw = bw
          · have te0 : (aw == bw) = true := by rw [beq_iff_eq]; exact e0
            have ue0 : (aw != bw) = false := by rw [bne_eq_false_iff_eq]; exact e0
            by_cases e1 : sa = sb
            · have te1 : (sa == sb) = true := by rw [beq_iff_eq]; exact e1
              have ue1 : (sa != sb) = false := by rw [bne_eq_false_iff_eq]; exact e1
              by_cases e2 : ab = bb
              · have te2 : (ab == bb) = true := by rw [beq_iff_eq]; exact e2
                have ue2 : (ab != bb) = false := by rw [bne_eq_false_iff_eq]; exact e2
                by_cases e3 : ar = br
                · have te3 : (ar == br) = true := by rw [beq_iff_eq]; exact e3
                  have ue3 : (ar != br) = false := by rw [bne_eq_false_iff_eq]; exact e3
                  by_cases e4 : al = bl
                  · have te4 : (al == bl) = true := by rw [beq_iff_eq]; exact e4
                    have ue4 : (al != bl) = false := by rw [bne_eq_false_iff_eq]; exact e4
                    obtain rfl : r = decide (ac < bc) := by rw [← hr]; simp [*]
                    clear hr
                    go_enter Try.func57, Try.ntmps57
                    go_wp2
                    go_ret
                    exact ⟨rfl, ((Below.refl _ w).alloc (Nat.le_refl _) _).alloc (by simp) _⟩
                  · have te4 : (al == bl) = false := by rw [beq_eq_false_iff_ne]; exact e4
                    have ue4 : (al != bl) = true := by rw [bne_iff_ne]; exact e4
                    obtain rfl : r = decide (al < bl) := by rw [← hr]; simp [*]
                    clear hr
                    go_enter Try.func57, Try.ntmps57
                    go_wp2
                    go_ret
                    exact ⟨rfl, ((Below.refl _ w).alloc (Nat.le_refl _) _).alloc (by simp) _⟩
                · have te3 : (ar == br) = false := by rw [beq_eq_false_iff_ne]; exact e3
                  have ue3 : (ar != br) = true := by rw [bne_iff_ne]; exact e3
                  obtain rfl : r = decide (ar < br) := by rw [← hr]; simp [*]
                  clear hr
                  go_enter Try.func57, Try.ntmps57
                  go_wp2
                  go_ret
                  exact ⟨rfl, ((Below.refl _ w).alloc (Nat.le_refl _) _).alloc (by simp) _⟩
              · have te2 : (ab == bb) = false := by rw [beq_eq_false_iff_ne]; exact e2
                have ue2 : (ab != bb) = true := by rw [bne_iff_ne]; exact e2
                obtain rfl : r = decide (ab < bb) := by rw [← hr]; simp [*]
                clear hr
                go_enter Try.func57, Try.ntmps57
                go_wp2
                go_ret
                exact ⟨rfl, ((Below.refl _ w).alloc (Nat.le_refl _) _).alloc (by simp) _⟩
            · have te1 : (sa == sb) = false := by rw [beq_eq_false_iff_ne]; exact e1
              have ue1 : (sa != sb) = true := by rw [bne_iff_ne]; exact e1
              obtain rfl : r = decide (sa < sb) := by rw [← hr]; simp [*]
              clear hr
              go_enter Try.func57, Try.ntmps57
              go_wp2
              go_ret
              exact ⟨rfl, ((Below.refl _ w).alloc (Nat.le_refl _) _).alloc (by simp) _⟩
          · have te0 : (aw == bw) = false := by rw [beq_eq_false_iff_ne]; exact e0
            have ue0 : (aw != bw) = true := by rw [bne_iff_ne]; exact e0
            obtain rfl : r = decide (bw < aw) := by rw [← hr]; simp [*]
            clear hr
            go_enter Try.func57, Try.ntmps57
            go_wp2
            go_ret
            exact ⟨rfl, ((Below.refl _ w).alloc (Nat.le_refl _) _).alloc (by simp) _⟩

end Go.Proofs.Ytmlcjiabnmdfeaa.CT
