/- The contract of the reference's Right. -/
import Derived.Test.YtgpcoljgpgamdaaN
namespace Go.Proofs.Ytgpcoljgpgamdaa
open Go.RowKit Go.Shelf
set_option linter.unusedVariables false

theorem okCell_iff {rows : Int} {c : Cell} : okCell rows c = true ↔ 0 ≤ c.row ∧ c.row ≤ rows ∧ 1 ≤ c.rows ∧ c.rows ≤ rows - c.row ∧ 0 ≤ c.al ∧ c.al ≤ 3 ∧ 0 ≤ c.high ∧ c.high ≤ 1125899906842623 ∧ 0 ≤ c.base ∧ c.base ≤ 1125899906842623 := by
  unfold okCell okW inR
  simp only [Bool.and_eq_true, decide_eq_true_eq]
  omega

set_option maxRecDepth 100000 in
set_option maxHeartbeats 4000000 in
theorem right14 (A : Option Addr) (xs : List Cell) (c : Nat) (rows : Int) (w : World) (hx : Cells w A xs) (hl : xs.length ≤ 17592186044416) :
    Calls Try.prog 14 #[.int .i64 rows, .slice A xs.length c] w fun e w' => e = .returned (.bool (rightC rows xs)) ∧ Below w.heap.size w w' := by
  have Hx := Lib.hid hx
  clear hx
  have HB0 : Hid (Below w.heap.size w w) := Lib.hid (Below.refl _ _)
  by_cases hr0 : 0 ≤ rows
  · by_cases hr1 : rows ≤ 10000
    · have He : Hid (rightC rows xs = !bads rows xs) := Lib.hid (by unfold rightC; rw [inR_iff.2 ⟨hr0, hr1⟩]; rfl)
      generalize rightC rows xs = rc at *
      go_enter Try.func14, Try.ntmps14
      go_wp2_with (fail)
      go_loopw [5] (fun i wr => ∃ k : Nat, k ≤ xs.length ∧ i = .int .i64 k ∧ Hid (∀ j, j < k → okCell rows (xs[j]?.getD default) = true) ∧ Hid (Below w.heap.size w wr)) (fun i _ => xs.length - (intOf i).toNat)
      case atStart => exact ⟨0, Nat.zero_le _, rfl, fun j hj => absurd hj (Nat.not_lt_zero j), HB0⟩
      case round =>
        obtain ⟨k, hk, rfl, hp, HB⟩ := hrel
        by_cases hlt : k < xs.length
        · obtain ⟨x, b, off, hxk, rfl, hc⟩ := (Hx.out.below HB.out).get k hlt
          obtain ⟨q0, q1, q2, q3, q4, q5, q6, q7, q8, q9, q10⟩ := hc
          cases hb : okCell rows x with
          | true =>
            have hnext : Hid (∀ j, j < k + 1 → okCell rows (xs[j]?.getD default) = true) := fun j hj => by
              by_cases e : j = k
              · subst e; rw [hxk.out]; exact hb
              · exact hp.out j (by omega)
            obtain ⟨b0, b1, b2, b3, b4, b5, b6, b7, b8, b9⟩ := okCell_iff.1 hb
            clear hb hp
            obtain ⟨node, row, col, rws, cols, mn, mx, high, base, hbb, al⟩ := x
            dsimp only at b0 b1 b2 b3 b4 b5 b6 b7 b8 b9 q0 q1 q2 q3 q4 q5 q6 q7 q8 q9 q10
            have HB2 := Lib.hid ((HB.out.alloc HB.out.size (.cells #[.int .i64 node, .int .i64 row, .int .i64 col, .int .i64 rws, .int .i64 cols, .int .i64 mn, .int .i64 mx, .int .i64 high, .int .i64 base, .bool hbb, .int .i64 al] 41)).alloc (by have := HB.out.size; simp; omega) (.cells #[.int .i64 node, .int .i64 row, .int .i64 col, .int .i64 rws, .int .i64 cols] 37))
            go_wp2_with (fail)
            go_roundw
            case rel => exact ⟨k + 1, by omega, by go_num, hnext, HB2⟩
            case measure => simp [intOf]; omega
          | false =>
            have Hbad := Lib.hid (bads_of (rows := rows) hlt (by rw [hxk.out]; exact hb))
            have Hn : Hid (¬ (0 ≤ x.row ∧ x.row ≤ rows ∧ 1 ≤ x.rows ∧ x.rows ≤ rows - x.row ∧ 0 ≤ x.al ∧ x.al ≤ 3 ∧ 0 ≤ x.high ∧ x.high ≤ 1125899906842623 ∧ 0 ≤ x.base ∧ x.base ≤ 1125899906842623)) := Lib.hid (fun h => by rw [okCell_iff.2 h] at hb; cases hb)
            obtain rfl : rc = false := by rw [He.out, Hbad.out]; rfl
            clear hb hp hxk He Hbad
            obtain ⟨node, row, col, rws, cols, mn, mx, high, base, hbb, al⟩ := x
            dsimp only at q0 q1 q2 q3 q4 q5 q6 q7 q8 q9 q10
            have HB2 := Lib.hid ((HB.out.alloc HB.out.size (.cells #[.int .i64 node, .int .i64 row, .int .i64 col, .int .i64 rws, .int .i64 cols, .int .i64 mn, .int .i64 mx, .int .i64 high, .int .i64 base, .bool hbb, .int .i64 al] 41)).alloc (by have := HB.out.size; simp; omega) (.cells #[.int .i64 node, .int .i64 row, .int .i64 col, .int .i64 rws, .int .i64 cols] 37))
            by_cases b0 : 0 ≤ row
            · by_cases b1 : row ≤ rows
              · by_cases b2 : 1 ≤ rws
                · by_cases b3 : rws ≤ rows - row
                  · by_cases b4 : 0 ≤ al
                    · by_cases b5 : al ≤ 3
                      · by_cases b6 : 0 ≤ high
                        · by_cases b7 : high ≤ 1125899906842623
                          · by_cases b8 : 0 ≤ base
                            · by_cases b9 : base ≤ 1125899906842623
                              · exact absurd ⟨b0, b1, b2, b3, b4, b5, b6, b7, b8, b9⟩ Hn.out
                              · go_wp2_with (fail)
                                go_ret
                                exact ⟨rfl, HB2.out⟩
                            · go_wp2_with (fail)
                              go_ret
                              exact ⟨rfl, HB2.out⟩
                          · go_wp2_with (fail)
                            go_ret
                            exact ⟨rfl, HB2.out⟩
                        · go_wp2_with (fail)
                          go_ret
                          exact ⟨rfl, HB2.out⟩
                      · go_wp2_with (fail)
                        go_ret
                        exact ⟨rfl, HB2.out⟩
                    · go_wp2_with (fail)
                      go_ret
                      exact ⟨rfl, HB2.out⟩
                  · go_wp2_with (fail)
                    go_ret
                    exact ⟨rfl, HB2.out⟩
                · go_wp2_with (fail)
                  go_ret
                  exact ⟨rfl, HB2.out⟩
              · go_wp2_with (fail)
                go_ret
                exact ⟨rfl, HB2.out⟩
            · go_wp2_with (fail)
              go_ret
              exact ⟨rfl, HB2.out⟩
        · obtain rfl : k = xs.length := by omega
          have He2 : Hid (rc = true) := Lib.hid (by rw [He.out, bads_none hp.out]; rfl)
          clear He hp
          go_wp2_with (fail)
          go_ret
          exact ⟨by rw [He2.out]; rfl, HB.out⟩
    · have He : Hid (rightC rows xs = false) := Lib.hid (by
        unfold rightC
        have : inR 0 10000 rows = false := by
          cases h : inR 0 10000 rows with
          | true => exact absurd (inR_iff.1 h).2 hr1
          | false => rfl
        rw [this]; rfl)
      go_enter Try.func14, Try.ntmps14
      go_wp2_with (fail)
      go_ret
      exact ⟨by rw [He.out]; rfl, HB0.out⟩
  · have He : Hid (rightC rows xs = false) := Lib.hid (by
      unfold rightC
      have : inR 0 10000 rows = false := by
        cases h : inR 0 10000 rows with
        | true => exact absurd (inR_iff.1 h).1 hr0
        | false => rfl
      rw [this]; rfl)
    go_enter Try.func14, Try.ntmps14
    go_wp2_with (fail)
    go_ret
    exact ⟨by rw [He.out]; rfl, HB0.out⟩

end Go.Proofs.Ytgpcoljgpgamdaa
