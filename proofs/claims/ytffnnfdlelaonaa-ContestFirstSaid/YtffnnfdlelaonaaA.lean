/- Contracts of contest.Half, contest.Right and what they call: for every argument. -/
import Derived.Test.YtffnnfdlelaonaaProg
import Derived.WalkKit
import Derived.KernelRfl
import Derived.WalkLawsBesides
import Derived.WalkSpells
import Derived.Deep.QuietTactic
import Derived.BigQuiet
import Derived.Deep.LoopGhost
import Derived.Lib.Hide
namespace Go.Proofs.Ytffnnfdlelaonaa
open Go.RowKit
set_option linter.unusedVariables false

/-- the world, some draws on -/
def Dr (w w' : World) : Prop := ∃ n, w' = w.drewN n
theorem Dr.refl (w : World) : Dr w w := ⟨0, rfl⟩
theorem Dr.step {w w' : World} (h : Dr w w') (n : Nat) : Dr w (w'.drewN n) := by
  obtain ⟨m, rfl⟩ := h
  exact ⟨m + n, by simp [World.drewN, Nat.add_assoc]⟩
theorem Dr.step1 {w w' : World} (h : Dr w w') : Dr w w'.drew := h.step 1
theorem Dr.below {w w' : World} (h : Dr w w') (B : Nat) : Below B w w' := by
  obtain ⟨m, rfl⟩ := h
  exact ⟨rfl, rfl, rfl, Nat.le_refl _, fun _ _ => rfl⟩

/-- a side's numbers -/
structure Side where
  style : Int
  width : Int
  color : Int
  by_ : Int
  row : Int
  col : Int
  deriving DecidableEq
def Side.cells (s : Side) : List Value := [.int .i64 s.style, .int .i64 s.width, .int .u32 s.color, .int .i64 s.by_, .int .i64 s.row, .int .i64 s.col]

def Side.arr (s : Side) : Array Value := #[.int .i64 s.style, .int .i64 s.width, .int .u32 s.color, .int .i64 s.by_, .int .i64 s.row, .int .i64 s.col]

/-- contest.Half -/
def half (n : Int) (first : Bool) : Int := if n < 0 then 0 else if first then n - n / 2 else n / 2
theorem c12 (n : Int) (first : Bool) (w : World) (hn : n ≤ 9223372036854775807) : Calls Try.prog 12 #[.int .i64 n, .bool first] w fun e w' => e = .returned (.int .i64 (half n first)) ∧ w = w' := by
  by_cases h : n < 0
  · have hh : half n first = 0 := by unfold half; rw [if_pos h]
    have Hh := Lib.hid hh
    clear hh
    go_enter Try.func12, Try.ntmps12
    go_wp2
    go_ret
    rw [Hh.out]
    exact ⟨rfl, rfl⟩
  · cases first with
    | true =>
      have hh : half n true = n - n / 2 := by unfold half; rw [if_neg h, if_pos rfl]
      have Hh := Lib.hid hh
      clear hh
      go_enter Try.func12, Try.ntmps12
      go_wp2
      go_ret
      rw [Hh.out]
      exact ⟨rfl, rfl⟩
    | false =>
      have hh : half n false = n / 2 := by unfold half; rw [if_neg h, if_neg (by simp)]
      have Hh := Lib.hid hh
      clear hh
      go_enter Try.func12, Try.ntmps12
      go_wp2
      go_ret
      rw [Hh.out]
      exact ⟨rfl, rfl⟩

/-- contest.isDrawn -/
def drawn (n : Int) : Bool := n != 0 && n != 1
theorem c27 (n : Int) (w : World) : Calls Try.prog 27 #[.int .i64 n] w fun e w' => e = .returned (.bool (drawn n)) ∧ w = w' := by
  by_cases h0 : n = 0
  · subst h0
    go_enter Try.func27, Try.ntmps27
    go_wp2
    go_ret
    exact ⟨rfl, rfl⟩
  · by_cases h1 : n = 1
    · subst h1
      go_enter Try.func27, Try.ntmps27
      go_wp2
      go_ret
      exact ⟨rfl, rfl⟩
    · have hd : drawn n = true := by simp [drawn, h0, h1]
      have t0 : (n != 0) = true := by rw [bne_iff_ne]; exact h0
      have t1 : (n != 1) = true := by rw [bne_iff_ne]; exact h1
      have Hd := Lib.hid hd
      clear hd h0 h1
      go_enter Try.func27, Try.ntmps27
      go_wp2
      go_ret
      rw [Hd.out]
      exact ⟨rfl, rfl⟩

def Ints (w : World) (A : Option Addr) (xs : List Int) : Prop :=
  ∀ j, j < xs.length → ∃ b off, A = some ⟨b, off, none⟩ ∧ w.cell? ⟨b, off + j, none⟩ = some (.int .i64 (xs[j]?.getD 0))
theorem Ints.get {w : World} {A : Option Addr} {xs : List Int} (h : Ints w A xs) (j : Nat) (hj : j < xs.length) :
    ∃ x b off, Hid (xs[j]?.getD 0 = x) ∧ A = some ⟨b, off, none⟩ ∧ w.cell? ⟨b, off + j, none⟩ = some (.int .i64 x) :=
  let ⟨b, off, hA, hc⟩ := h j hj; ⟨_, b, off, Lib.hid rfl, hA, hc⟩

def within (lo hi : Int) (xs : List Int) : Bool := xs.all fun n => decide (lo ≤ n ∧ n ≤ hi)
theorem within_false {lo hi : Int} {xs : List Int} {k : Nat} (hk : k < xs.length) (h : ¬ (lo ≤ xs[k]?.getD 0 ∧ xs[k]?.getD 0 ≤ hi)) : within lo hi xs = false := by
  unfold within
  rw [List.all_eq_false]
  refine ⟨xs[k], List.getElem_mem hk, ?_⟩
  simp [hk] at h
  simp; omega
theorem within_true {lo hi : Int} {xs : List Int} (h : ∀ j, j < xs.length → lo ≤ xs[j]?.getD 0 ∧ xs[j]?.getD 0 ≤ hi) : within lo hi xs = true := by
  unfold within
  rw [List.all_eq_true]
  intro x hx
  obtain ⟨j, hj, rfl⟩ := List.getElem_of_mem hx
  have := h j hj
  simp [hj] at this
  simp [this]

set_option maxHeartbeats 400000 in
/-- contest.within -/
theorem c28 (lo hi : Int) (A : Option Addr) (xs : List Int) (c : Nat) (w : World) (hx : Ints w A xs) (hl : xs.length ≤ 17592186044416) :
    Calls Try.prog 28 #[.int .i64 lo, .int .i64 hi, .slice A xs.length c] w fun e w' => e = .returned (.bool (within lo hi xs)) ∧ w = w' := by
  have Hx := Lib.hid hx
  clear hx
  go_enter Try.func28, Try.ntmps28
  go_wp2
  go_loop [11] (fun i => ∃ k : Nat, k ≤ xs.length ∧ i = .int .i64 k ∧ Hid (∀ j, j < k → lo ≤ xs[j]?.getD 0 ∧ xs[j]?.getD 0 ≤ hi)) (fun i => xs.length - (intOf i).toNat)
  case atStart => exact ⟨0, Nat.zero_le _, rfl, fun j hj => absurd hj (Nat.not_lt_zero j)⟩
  case round =>
    obtain ⟨k, hk, rfl, hp⟩ := hrel
    by_cases hlt : k < xs.length
    · obtain ⟨x, b, off, hxk, rfl, hc⟩ := Hx.out.get k hlt
      by_cases h1 : x < lo
      · have hf : within lo hi xs = false := within_false hlt (by rw [hxk.out]; omega)
        have Hf := Lib.hid hf
        clear hf
        go_wp2
        go_ret
        rw [Hf.out]
        exact ⟨rfl, rfl⟩
      · by_cases h2 : hi < x
        · have hf : within lo hi xs = false := within_false hlt (by rw [hxk.out]; omega)
          have Hf := Lib.hid hf
          clear hf
          go_wp2
          go_ret
          rw [Hf.out]
          exact ⟨rfl, rfl⟩
        · have hnext : Hid (∀ j, j < k + 1 → lo ≤ xs[j]?.getD 0 ∧ xs[j]?.getD 0 ≤ hi) := fun j hj => by
            by_cases e : j = k
            · subst e; rw [hxk.out]; omega
            · exact hp.out j (by omega)
          go_wp2
          go_round
          case rel => exact ⟨k + 1, by omega, by go_num, hnext⟩
          case measure => simp [intOf]; omega
    · obtain rfl : k = xs.length := by omega
      have hf : within lo hi xs = true := within_true hp.out
      have Hf := Lib.hid hf
      clear hf
      go_wp2
      go_ret
      rw [Hf.out]
      exact ⟨rfl, rfl⟩

theorem c28_one (lo hi n : Int) (B : Nat) (W : World) (h : W.cell? ⟨B, 0, none⟩ = some (.int .i64 n)) : Calls Try.prog 28 #[.int .i64 lo, .int .i64 hi, .slice (some ⟨B, 0, none⟩) 1 1] W fun e w' => e = .returned (.bool (decide (lo ≤ n ∧ n ≤ hi))) ∧ W = w' := by
  have := c28 lo hi (some ⟨B, 0, none⟩) [n] 1 W (fun j hj => by
    have : j = 0 := by simp at hj; exact hj
    subst this
    exact ⟨B, 0, rfl, h⟩) (by simp)
  simpa [within] using this
theorem c28_two (lo hi a b : Int) (B : Nat) (W : World) (h : W.cell? ⟨B, 0, none⟩ = some (.int .i64 a)) (h' : W.cell? ⟨B, 1, none⟩ = some (.int .i64 b)) : Calls Try.prog 28 #[.int .i64 lo, .int .i64 hi, .slice (some ⟨B, 0, none⟩) 2 2] W fun e w' => e = .returned (.bool (decide (lo ≤ a ∧ a ≤ hi) && decide (lo ≤ b ∧ b ≤ hi))) ∧ W = w' := by
  have := c28 lo hi (some ⟨B, 0, none⟩) [a, b] 2 W (fun j hj => by
    have : j < 2 := hj
    rcases j with _ | _ | j
    · exact ⟨B, 0, rfl, h⟩
    · exact ⟨B, 0, rfl, h'⟩
    · omega) (by simp)
  simpa [within] using this

/-- contest.Right -/
def rightW (s : Side) : Bool := decide (0 ≤ s.width ∧ s.width ≤ if drawn s.style then 1073741824 else 0)
def right (s : Side) : Bool := decide (0 ≤ s.style ∧ s.style ≤ 9) && rightW s && decide (0 ≤ s.by_ ∧ s.by_ ≤ 5) && (decide (0 ≤ s.row ∧ s.row ≤ 1000000) && decide (0 ≤ s.col ∧ s.col ≤ 1000000))

set_option maxHeartbeats 1000000 in
theorem c18 (s : Side) (w : World) : Calls Try.prog 18 #[.agg s.arr] w fun e w' => e = .returned (.bool (right s)) ∧ Below w.heap.size w w' := by
  obtain ⟨sty, wid, co, by_, row, col⟩ := s
  have hr : right ⟨sty, wid, co, by_, row, col⟩ = (decide (0 ≤ sty ∧ sty ≤ 9) && decide (0 ≤ wid ∧ wid ≤ if drawn sty then 1073741824 else 0) && decide (0 ≤ by_ ∧ by_ ≤ 5) && (decide (0 ≤ row ∧ row ≤ 1000000) && decide (0 ≤ col ∧ col ≤ 1000000))) := rfl
  have h1 := c28_one 0 9 sty
  have h2 := c28_one 0 (if drawn sty then 1073741824 else 0) wid
  have h3 := c28_one 0 5 by_
  have h4 := c28_two 0 1000000 row col
  generalize decide (0 ≤ sty ∧ sty ≤ 9) = b1 at *
  generalize decide (0 ≤ wid ∧ wid ≤ if drawn sty then 1073741824 else 0) = b2 at *
  generalize decide (0 ≤ by_ ∧ by_ ≤ 5) = b3 at *
  generalize (decide (0 ≤ row ∧ row ≤ 1000000) && decide (0 ≤ col ∧ col ≤ 1000000)) = b4 at *
  unfold Side.arr
  dsimp only
  cases hd : drawn sty
  all_goals
    rw [hd] at h2
    have Hd := Lib.hid hd
    clear hd
    cases b1
    · have Hr := Lib.hid hr
      have H1 := Lib.hid h1
      clear hr h1 h2 h3 h4
      go_enter Try.func18, Try.ntmps18
      go_wp2_with (fail)
      refine (c27 _ _).mono ?_
      rintro e w1 ⟨rfl, rfl⟩
      rw [Hd.out]
      go_wp2_with (fail)
      refine (H1.out _ _ (by go_simp)).mono ?_
      rintro e w1 ⟨rfl, rfl⟩
      go_wp2
      go_ret
      exact ⟨by rw [Hr.out]; rfl, (by repeat (first | exact Below.refl _ _ | (refine Below.alloc ?_ (by simp <;> omega) _)))⟩
    · cases b2
      · have Hr := Lib.hid hr
        have H1 := Lib.hid h1
        have H2 := Lib.hid h2
        clear hr h1 h2 h3 h4
        go_enter Try.func18, Try.ntmps18
        go_wp2_with (fail)
        refine (c27 _ _).mono ?_
        rintro e w1 ⟨rfl, rfl⟩
        rw [Hd.out]
        go_wp2_with (fail)
        refine (H1.out _ _ (by go_simp)).mono ?_
        rintro e w1 ⟨rfl, rfl⟩
        go_wp2_with (fail)
        refine (H2.out _ _ (by go_simp)).mono ?_
        rintro e w1 ⟨rfl, rfl⟩
        go_wp2
        go_ret
        exact ⟨by rw [Hr.out]; rfl, (by repeat (first | exact Below.refl _ _ | (refine Below.alloc ?_ (by simp <;> omega) _)))⟩
      · cases b3
        · have Hr := Lib.hid hr
          have H1 := Lib.hid h1
          have H2 := Lib.hid h2
          have H3 := Lib.hid h3
          clear hr h1 h2 h3 h4
          go_enter Try.func18, Try.ntmps18
          go_wp2_with (fail)
          refine (c27 _ _).mono ?_
          rintro e w1 ⟨rfl, rfl⟩
          rw [Hd.out]
          go_wp2_with (fail)
          refine (H1.out _ _ (by go_simp)).mono ?_
          rintro e w1 ⟨rfl, rfl⟩
          go_wp2_with (fail)
          refine (H2.out _ _ (by go_simp)).mono ?_
          rintro e w1 ⟨rfl, rfl⟩
          go_wp2_with (fail)
          refine (H3.out _ _ (by go_simp)).mono ?_
          rintro e w1 ⟨rfl, rfl⟩
          go_wp2
          go_ret
          exact ⟨by rw [Hr.out]; rfl, (by repeat (first | exact Below.refl _ _ | (refine Below.alloc ?_ (by simp <;> omega) _)))⟩
        · have Hr := Lib.hid hr
          have H1 := Lib.hid h1
          have H2 := Lib.hid h2
          have H3 := Lib.hid h3
          have H4 := Lib.hid h4
          clear hr h1 h2 h3 h4
          go_enter Try.func18, Try.ntmps18
          go_wp2_with (fail)
          refine (c27 _ _).mono ?_
          rintro e w1 ⟨rfl, rfl⟩
          rw [Hd.out]
          go_wp2_with (fail)
          refine (H1.out _ _ (by go_simp)).mono ?_
          rintro e w1 ⟨rfl, rfl⟩
          go_wp2_with (fail)
          refine (H2.out _ _ (by go_simp)).mono ?_
          rintro e w1 ⟨rfl, rfl⟩
          go_wp2_with (fail)
          refine (H3.out _ _ (by go_simp)).mono ?_
          rintro e w1 ⟨rfl, rfl⟩
          go_wp2_with (fail)
          refine (H4.out _ _ (by go_simp) (by go_simp)).mono ?_
          rintro e w1 ⟨rfl, rfl⟩
          go_wp2
          go_ret
          exact ⟨by rw [Hr.out]; rfl, (by repeat (first | exact Below.refl _ _ | (refine Below.alloc ?_ (by simp <;> omega) _)))⟩

end Go.Proofs.Ytffnnfdlelaonaa
