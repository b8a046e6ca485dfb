/- Contracts of the reference's Half, Right and Wins, and what Wins says of ranks. -/
import Derived.Test.YtffnnfdlelaonaaG
namespace Go.Proofs.Ytffnnfdlelaonaa
open Go.RowKit Go.Shelf
set_option linter.unusedVariables false

/-- purflingref11.Half -/
theorem c13 (n : Int) (first : Bool) (w : World) (hl : -9223372036854775808 ≤ n) (hn : n ≤ 9223372036854775807) : Calls Try.prog 13 #[.int .i64 n, .bool first] w fun e w' => e = .returned (.int .i64 (half n first)) ∧ w = w' := by
  by_cases h : n < 0
  · have hh : half n first = 0 := by unfold half; rw [if_pos h]
    have Hh := Lib.hid hh
    clear hh
    go_enter Try.func13, Try.ntmps13
    go_wp2
    go_ret
    rw [Hh.out]
    exact ⟨rfl, rfl⟩
  · have hq : n.tdiv 2 = n / 2 := Int.tdiv_eq_ediv_of_nonneg (by omega)
    have hm : n.tmod 2 = n % 2 := Int.tmod_eq_emod_of_nonneg (by omega)
    cases first with
    | true =>
      by_cases h1 : n % 2 = 1
      · have hh : half n true = n / 2 + 1 := by unfold half; rw [if_neg h, if_pos rfl]; omega
        have Hh := Lib.hid hh
        have t1 : (n % 2 == 1) = true := by rw [beq_iff_eq]; exact h1
        clear hh
        go_enter Try.func13, Try.ntmps13
        go_wp2
        go_ret
        rw [Hh.out]
        exact ⟨rfl, rfl⟩
      · have hh : half n true = n / 2 := by unfold half; rw [if_neg h, if_pos rfl]; omega
        have Hh := Lib.hid hh
        have t1 : (n % 2 == 1) = false := by rw [beq_eq_false_iff_ne]; exact h1
        clear hh
        go_enter Try.func13, Try.ntmps13
        go_wp2
        go_ret
        rw [Hh.out]
        exact ⟨rfl, rfl⟩
    | false =>
      have hh : half n false = n / 2 := by unfold half; rw [if_neg h, if_neg (by simp)]
      have Hh := Lib.hid hh
      clear hh
      go_enter Try.func13, Try.ntmps13
      go_wp2
      go_ret
      rw [Hh.out]
      exact ⟨rfl, rfl⟩

theorem right_iff' {s : Side} : right s = true ↔ (0 ≤ s.style ∧ s.style ≤ 9) ∧ (0 ≤ s.width ∧ s.width ≤ 1073741824) ∧ (s.style ≤ 1 → s.width = 0) ∧ (0 ≤ s.by_ ∧ s.by_ ≤ 5) ∧ (0 ≤ s.row ∧ s.row ≤ 1000000) ∧ (0 ≤ s.col ∧ s.col ≤ 1000000) := by
  rw [right_iff]
  unfold drawn
  by_cases h0 : s.style = 0
  · simp [h0]; omega
  · by_cases h1 : s.style = 1
    · simp [h1]; omega
    · simp [h0, h1]; omega

set_option maxHeartbeats 2000000 in
/-- purflingref11.Right -/
theorem c17 (s : Side) (w : World) : Calls Try.prog 17 #[.agg s.arr] w fun e w' => e = .returned (.bool (right s)) ∧ Below w.heap.size w w' := by
  have hi := right_iff' (s := s)
  generalize right s = r at *
  obtain ⟨sty, wid, co, by_, row, col⟩ := s
  dsimp only at hi
  unfold Side.arr
  dsimp only
  have hB : Below w.heap.size w ((w.alloc (.cells #[.int .i64 sty, .int .i64 wid, .int .u32 co, .int .i64 by_, .int .i64 row, .int .i64 col] 30)).alloc (.cells #[.int .i64 sty, .int .i64 wid, .int .u32 co] 28)) := ((Below.refl _ w).alloc (Nat.le_refl _) _).alloc (by simp) _
  have HB := Lib.hid hB
  clear hB
  by_cases hc2 : sty < 0
  · obtain rfl : r = false := by
      rw [← Bool.not_eq_true, hi]; omega
    clear hi
    go_enter Try.func17, Try.ntmps17
    go_wp2
    go_ret
    exact ⟨by first | rfl | exact congrArg (fun x => Ending.returned (.bool x)) (decide_eq_false (by omega)), HB.out⟩
  · skip
    by_cases hc4 : 9 < sty
    · obtain rfl : r = false := by
        rw [← Bool.not_eq_true, hi]; omega
      clear hi
      go_enter Try.func17, Try.ntmps17
      go_wp2
      go_ret
      exact ⟨by first | rfl | exact congrArg (fun x => Ending.returned (.bool x)) (decide_eq_false (by omega)), HB.out⟩
    · skip
      by_cases hc6 : wid < 0
      · obtain rfl : r = false := by
          rw [← Bool.not_eq_true, hi]; omega
        clear hi
        go_enter Try.func17, Try.ntmps17
        go_wp2
        go_ret
        exact ⟨by first | rfl | exact congrArg (fun x => Ending.returned (.bool x)) (decide_eq_false (by omega)), HB.out⟩
      · skip
        by_cases hc8 : 1073741824 < wid
        · obtain rfl : r = false := by
            rw [← Bool.not_eq_true, hi]; omega
          clear hi
          go_enter Try.func17, Try.ntmps17
          go_wp2
          go_ret
          exact ⟨by first | rfl | exact congrArg (fun x => Ending.returned (.bool x)) (decide_eq_false (by omega)), HB.out⟩
        · skip
          by_cases hs : sty ≤ 1
          · by_cases hw : wid = 0
            · subst hw
              by_cases hc14 : by_ < 0
              · obtain rfl : r = false := by
                  rw [← Bool.not_eq_true, hi]; omega
                clear hi
                go_enter Try.func17, Try.ntmps17
                go_wp2
                go_ret
                exact ⟨by first | rfl | exact congrArg (fun x => Ending.returned (.bool x)) (decide_eq_false (by omega)), HB.out⟩
              · skip
                by_cases hc16 : 5 < by_
                · obtain rfl : r = false := by
                    rw [← Bool.not_eq_true, hi]; omega
                  clear hi
                  go_enter Try.func17, Try.ntmps17
                  go_wp2
                  go_ret
                  exact ⟨by first | rfl | exact congrArg (fun x => Ending.returned (.bool x)) (decide_eq_false (by omega)), HB.out⟩
                · skip
                  by_cases hc18 : row < 0
                  · obtain rfl : r = false := by
                      rw [← Bool.not_eq_true, hi]; omega
                    clear hi
                    go_enter Try.func17, Try.ntmps17
                    go_wp2
                    go_ret
                    exact ⟨by first | rfl | exact congrArg (fun x => Ending.returned (.bool x)) (decide_eq_false (by omega)), HB.out⟩
                  · skip
                    by_cases hc20 : 1000000 < row
                    · obtain rfl : r = false := by
                        rw [← Bool.not_eq_true, hi]; omega
                      clear hi
                      go_enter Try.func17, Try.ntmps17
                      go_wp2
                      go_ret
                      exact ⟨by first | rfl | exact congrArg (fun x => Ending.returned (.bool x)) (decide_eq_false (by omega)), HB.out⟩
                    · skip
                      by_cases hc22 : col < 0
                      · obtain rfl : r = false := by
                          rw [← Bool.not_eq_true, hi]; omega
                        clear hi
                        go_enter Try.func17, Try.ntmps17
                        go_wp2
                        go_ret
                        exact ⟨by first | rfl | exact congrArg (fun x => Ending.returned (.bool x)) (decide_eq_false (by omega)), HB.out⟩
                      · skip
                        by_cases hc24 : 1000000 < col
                        · obtain rfl : r = false := by
                            rw [← Bool.not_eq_true, hi]; omega
                          clear hi
                          go_enter Try.func17, Try.ntmps17
                          go_wp2
                          go_ret
                          exact ⟨by first | rfl | exact congrArg (fun x => Ending.returned (.bool x)) (decide_eq_false (by omega)), HB.out⟩
                        · skip
                          obtain rfl : r = true := by
                            rw [hi]; omega
                          clear hi
                          go_enter Try.func17, Try.ntmps17
                          go_wp2
                          go_ret
                          exact ⟨by first | rfl | exact congrArg (fun x => Ending.returned (.bool x)) (decide_eq_false (by omega)), HB.out⟩
            · have t1 : (wid != 0) = true := by rw [bne_iff_ne]; exact hw
              obtain rfl : r = false := by
                rw [← Bool.not_eq_true, hi]; omega
              clear hi
              go_enter Try.func17, Try.ntmps17
              go_wp2
              go_ret
              exact ⟨by first | rfl | exact congrArg (fun x => Ending.returned (.bool x)) (decide_eq_false (by omega)), HB.out⟩
          · skip
            by_cases hc12 : by_ < 0
            · obtain rfl : r = false := by
                rw [← Bool.not_eq_true, hi]; omega
              clear hi
              go_enter Try.func17, Try.ntmps17
              go_wp2
              go_ret
              exact ⟨by first | rfl | exact congrArg (fun x => Ending.returned (.bool x)) (decide_eq_false (by omega)), HB.out⟩
            · skip
              by_cases hc14 : 5 < by_
              · obtain rfl : r = false := by
                  rw [← Bool.not_eq_true, hi]; omega
                clear hi
                go_enter Try.func17, Try.ntmps17
                go_wp2
                go_ret
                exact ⟨by first | rfl | exact congrArg (fun x => Ending.returned (.bool x)) (decide_eq_false (by omega)), HB.out⟩
              · skip
                by_cases hc16 : row < 0
                · obtain rfl : r = false := by
                    rw [← Bool.not_eq_true, hi]; omega
                  clear hi
                  go_enter Try.func17, Try.ntmps17
                  go_wp2
                  go_ret
                  exact ⟨by first | rfl | exact congrArg (fun x => Ending.returned (.bool x)) (decide_eq_false (by omega)), HB.out⟩
                · skip
                  by_cases hc18 : 1000000 < row
                  · obtain rfl : r = false := by
                      rw [← Bool.not_eq_true, hi]; omega
                    clear hi
                    go_enter Try.func17, Try.ntmps17
                    go_wp2
                    go_ret
                    exact ⟨by first | rfl | exact congrArg (fun x => Ending.returned (.bool x)) (decide_eq_false (by omega)), HB.out⟩
                  · skip
                    by_cases hc20 : col < 0
                    · obtain rfl : r = false := by
                        rw [← Bool.not_eq_true, hi]; omega
                      clear hi
                      go_enter Try.func17, Try.ntmps17
                      go_wp2
                      go_ret
                      exact ⟨by first | rfl | exact congrArg (fun x => Ending.returned (.bool x)) (decide_eq_false (by omega)), HB.out⟩
                    · skip
                      by_cases hc22 : 1000000 < col
                      · obtain rfl : r = false := by
                          rw [← Bool.not_eq_true, hi]; omega
                        clear hi
                        go_enter Try.func17, Try.ntmps17
                        go_wp2
                        go_ret
                        exact ⟨by first | rfl | exact congrArg (fun x => Ending.returned (.bool x)) (decide_eq_false (by omega)), HB.out⟩
                      · skip
                        obtain rfl : r = true := by
                          rw [hi]; omega
                        clear hi
                        go_enter Try.func17, Try.ntmps17
                        go_wp2
                        go_ret
                        exact ⟨by first | rfl | exact congrArg (fun x => Ending.returned (.bool x)) (decide_eq_false (by omega)), HB.out⟩

end Go.Proofs.Ytffnnfdlelaonaa
