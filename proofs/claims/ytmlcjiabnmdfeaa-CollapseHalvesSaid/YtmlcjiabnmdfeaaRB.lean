/- The reference's tests of runs. -/
import Derived.Test.YtmlcjiabnmdfeaaRA
import Derived.WalkSmall
namespace Go.Proofs.Ytmlcjiabnmdfeaa
open Go Go.RowKit Go.Shelf CT
set_option linter.unusedVariables false

set_option maxRecDepth 100000 in
set_option maxHeartbeats 8000000 in
/-- the reference's runs -/
theorem c30 (A : Option Addr) (xs : List Run) (c : Nat) (n : Int) (w : World) (hx : GR.Many Run.cells 14 w A xs) (hl : xs.length ≤ 1000000) :
    Calls Try.prog 30 #[.slice A xs.length c, .int .i64 n] w fun e w' => e = .returned (.bool (!wrongR n xs)) ∧ Below w.heap.size w w' := by
  have HX := Lib.hid hx
  clear hx
  unfold wrongR
  go_enter Try.func30, Try.ntmps30
  go_wp2_with (fail)
  go_loopw [5] (fun a wr => ∃ k : Nat, k ≤ xs.length ∧ a = .int .i64 k ∧ Hid (∀ j, j < k → (!okR n (xs[j]?.getD default)) = false) ∧ Hid (Below w.heap.size w wr)) (fun a _ => xs.length - (intOf a).toNat)
  case atStart => exact ⟨0, Nat.zero_le _, rfl, Lib.hid fun j hj => absurd hj (Nat.not_lt_zero j), Lib.hid (Below.refl _ _)⟩
  case round =>
    obtain ⟨k, hk, rfl, hp, HB⟩ := hrel
    by_cases hlt : k < xs.length
    · have ti : decide ((k : Int) < (xs.length : Int)) = true := decide_eq_true (by omega)
      obtain ⟨x, b, off, hxk, rfl, hat, _⟩ := (HX.out.below HB.out).get k hlt
      have h29 := c29 x.ls wr
      obtain ⟨r, hr⟩ : ∃ r, wrongL x.ls.lines = r := ⟨_, rfl⟩
      rw [hr] at h29
      have Hr : Hid ((!okR n x) = (r || !decide (0 ≤ x.from_ ∧ x.from_ < x.to_ ∧ x.to_ ≤ n))) := Lib.hid (by unfold okR; rw [hr]; simp)
      have H29 := Lib.hid h29
      clear h29 hr
      have hnext : (!okR n x) = false → Hid (∀ j, j < k + 1 → (!okR n (xs[j]?.getD default)) = false) := fun h => Lib.hid fun j hj => by
        by_cases e : j = k
        · subst e; rw [hxk.out]; exact h
        · exact hp.out j (by omega)
      have hany : (!okR n x) = true → xs.any (fun r => !okR n r) = true := fun h => any_at (p := fun r => !okR n r) hlt (by rw [hxk.out]; exact h)
      rw [Hr.out] at hnext hany
      have HN := Lib.hid hnext
      have HY := Lib.hid hany
      clear hnext hany Hr
      obtain ⟨x0, x1, x2, x3, x4, x5, x6, x7, x8, x9, x10, x11, x12, x13⟩ := x
      have q0 : wr.cell? ⟨b, off + k * 14, none⟩ = some (.int .i64 x0) := hat 0 _ rfl
      have q1 : wr.cell? ⟨b, off + k * 14 + 1, none⟩ = some (.int .i64 x1) := hat 1 _ rfl
      have q2 : wr.cell? ⟨b, off + k * 14 + 2, none⟩ = some (.int .i64 x2) := hat 2 _ rfl
      have q3 : wr.cell? ⟨b, off + k * 14 + 3, none⟩ = some (.int .i64 x3) := hat 3 _ rfl
      have q4 : wr.cell? ⟨b, off + k * 14 + 4, none⟩ = some (.int .u32 x4) := hat 4 _ rfl
      have q5 : wr.cell? ⟨b, off + k * 14 + 5, none⟩ = some (.int .i64 x5) := hat 5 _ rfl
      have q6 : wr.cell? ⟨b, off + k * 14 + 6, none⟩ = some (.int .i64 x6) := hat 6 _ rfl
      have q7 : wr.cell? ⟨b, off + k * 14 + 7, none⟩ = some (.int .u32 x7) := hat 7 _ rfl
      have q8 : wr.cell? ⟨b, off + k * 14 + 8, none⟩ = some (.int .i64 x8) := hat 8 _ rfl
      have q9 : wr.cell? ⟨b, off + k * 14 + 9, none⟩ = some (.int .i64 x9) := hat 9 _ rfl
      have q10 : wr.cell? ⟨b, off + k * 14 + 10, none⟩ = some (.int .u32 x10) := hat 10 _ rfl
      have q11 : wr.cell? ⟨b, off + k * 14 + 11, none⟩ = some (.int .i64 x11) := hat 11 _ rfl
      have q12 : wr.cell? ⟨b, off + k * 14 + 12, none⟩ = some (.int .i64 x12) := hat 12 _ rfl
      have q13 : wr.cell? ⟨b, off + k * 14 + 13, none⟩ = some (.int .u32 x13) := hat 13 _ rfl
      have hlb : b < wr.heap.size := World.block_lt_of_cell? _ _ q0
      have HL := Lib.hid hlb
      have HQ0 := Lib.hid q0
      have HQ1 := Lib.hid q1
      unfold Run.ls L4.arr at H29
      dsimp only at H29 HN HY q0
      clear hat hlb
      go_wp2_with (fail)
      refine H29.out.mono ?_
      rintro e w1 ⟨rfl, hb⟩
      have HB1 := Lib.hid (HB.out.trans (hb.mono HB.out.size))
      have p0 := (hb.cell (p := ⟨b, off + k * 14, none⟩) HL.out).trans HQ0.out
      have p1 := (hb.cell (p := ⟨b, off + k * 14 + 1, none⟩) HL.out).trans HQ1.out
      clear q0 q1 q2 q3 q4 q5 q6 q7 q8 q9 q10 q11 q12 q13 hb HB H29
      cases r with
      | true =>
        have HY2 := Lib.hid (HY.out rfl)
        clear HY HN
        go_wp2_with (fail)
        repeat (go_quiet (fail); try go_wp2_with (fail))
        go_ret
        exact ⟨by rw [HY2.out]; rfl, below_drewN HB1.out _⟩
      | false =>
        by_cases c1 : x0 < 0
        · have t1 : decide (x0 < 0) = true := decide_eq_true c1
          have HY2 := Lib.hid (HY.out (by rw [decide_eq_false (by omega)]; rfl))
          clear HY HN c1
          go_wp2_with (fail)
          repeat (go_quiet (fail); try go_wp2_with (fail))
          go_ret
          exact ⟨by rw [HY2.out]; rfl, below_drewN HB1.out _⟩
        have t1 : decide (x0 < 0) = false := decide_eq_false c1
        by_cases c2 : x1 ≤ x0
        · have t2 : decide (x1 ≤ x0) = true := decide_eq_true c2
          have HY2 := Lib.hid (HY.out (by rw [decide_eq_false (by omega)]; rfl))
          clear HY HN c1 c2
          go_wp2_with (fail)
          repeat (go_quiet (fail); try go_wp2_with (fail))
          go_ret
          exact ⟨by rw [HY2.out]; rfl, below_drewN HB1.out _⟩
        have t2 : decide (x1 ≤ x0) = false := decide_eq_false c2
        by_cases c3 : n < x1
        · have t3 : decide (n < x1) = true := decide_eq_true c3
          have HY2 := Lib.hid (HY.out (by rw [decide_eq_false (by omega)]; rfl))
          clear HY HN c1 c2 c3
          go_wp2_with (fail)
          repeat (go_quiet (fail); try go_wp2_with (fail))
          go_ret
          exact ⟨by rw [HY2.out]; rfl, below_drewN HB1.out _⟩
        have t3 : decide (n < x1) = false := decide_eq_false c3
        have HN2 := HN.out (by rw [decide_eq_true (by omega)]; rfl)
        clear HY HN c1 c2 c3
        go_wp2_with (fail)
        repeat (go_quiet (fail); try go_wp2_with (fail))
        go_roundw
        case rel => exact ⟨k + 1, by omega, by go_num, HN2, Lib.hid (below_drewN HB1.out _)⟩
        case measure => simp [intOf]; omega
    · obtain rfl : k = xs.length := by omega
      have ti : decide ((xs.length : Int) < (xs.length : Int)) = false := decide_eq_false (by omega)
      go_wp2_with (fail)
      go_ret
      exact ⟨by rw [any_none (p := fun r => !okR n r) hp.out]; rfl, HB.out⟩
end Go.Proofs.Ytmlcjiabnmdfeaa
