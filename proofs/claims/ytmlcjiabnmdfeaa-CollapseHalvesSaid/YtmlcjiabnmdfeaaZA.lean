/- Contract of the laws' head: it is true. -/
import Derived.Test.YtmlcjiabnmdfeaaZ
namespace Go.Proofs.Ytmlcjiabnmdfeaa
open Go Go.RowKit Go.Shelf CT
set_option linter.unusedVariables false

theorem oneF_wf (b1 b2 : Nat) : (oneF b1 b2).wf := by
  have h4 : ∀ q : L4, q.a2 = 0 → q.b2 = 0 → q.c2 = 0 → q.d2 = 0 → q.wf := fun q h1 h2 h3 h4 l hl => by
    simp [L4.lines] at hl
    rcases hl with rfl | rfl | rfl | rfl
    · show 0 ≤ q.a2 ∧ q.a2 ≤ 4294967295; omega
    · show 0 ≤ q.b2 ∧ q.b2 ≤ 4294967295; omega
    · show 0 ≤ q.c2 ∧ q.c2 ≤ 4294967295; omega
    · show 0 ≤ q.d2 ∧ q.d2 ≤ 4294967295; omega
  refine ⟨fun q hq => ?_, h4 _ rfl rfl rfl rfl, fun r hr => (by cases hr), fun r hr => (by cases hr), fun r hr => (by cases hr), fun r hr => (by cases hr)⟩
  obtain rfl := List.mem_singleton.1 hq
  exact h4 _ rfl rfl rfl rfl
def negF : Fr := ⟨-1, 0, none, [], 0, none, [], 0, none, [], 0, none, [], 0, none, [], 0, none, [], 0, ⟨0, 0, 0, 0, 0, 0, 0, 0, 0, 0, 0, 0⟩⟩
theorem negF_wf : negF.wf := by
  refine ⟨fun q hq => (by cases hq), ?_, fun r hr => (by cases hr), fun r hr => (by cases hr), fun r hr => (by cases hr), fun r hr => (by cases hr)⟩
  exact l4_default
theorem negF_in (W : World) : negF.In W := ⟨GR.Many.nil _ _, GR.Many.nil _ _, GR.Many.nil _ _, GR.Many.nil _ _, GR.Many.nil _ _, GR.Many.nil _ _, by simp [negF]⟩
theorem oneF_ok (b1 b2 : Nat) : okFr (oneF b1 b2) = true := by kernel_rfl
theorem negF_ok : okFr negF = false := by kernel_rfl
def oneE : List Edge := [⟨0, 0, true, 4, 6, 0, 5, 0, 0, 2⟩, ⟨1, 0, true, 4, 6, 0, 5, 0, 0, 2⟩, ⟨0, 0, false, 4, 6, 0, 5, 0, 0, 2⟩, ⟨0, 1, false, 4, 6, 0, 5, 0, 0, 2⟩]
theorem oneF_all (b1 b2 : Nat) : allE (oneF b1 b2) = oneE := by kernel_rfl
theorem oneF_insets (b1 b2 : Nat) : insets (oneF b1 b2) oneE = [⟨3, 3, 3, 3⟩] := by kernel_rfl
theorem eq52 (r0 r1 r2 r3 q0 q1 q2 q3 : Int) (w : World) : (Op.equalIn 10000 52 (.agg #[.int .i64 r0, .int .i64 r1, .int .i64 r2, .int .i64 r3]) (.agg #[.int .i64 q0, .int .i64 q1, .int .i64 q2, .int .i64 q3])).run Try.prog w = .ok (decide (r0 = q0 ∧ r1 = q1 ∧ r2 = q2 ∧ r3 = q3)) w := by
  have u2 := Try.underlying2
  have a2 := Try.isAgg2
  have z2 := Try.sizeOf2
  rw [show (10000 : Nat) = 9999 + 1 from rfl, Op.equalIn]
  simp only [Sem.run_bind, run_underlying Try.underlying52, Result.andThen_ok]
  simp only [Std.Legacy.Range.forIn_eq_forIn_range', Std.Legacy.Range.size, Nat.sub_zero, Nat.add_sub_cancel, Nat.div_one, List.range'_succ, List.range'_zero, List.forIn_cons, List.forIn_nil]
  go_simp
  by_cases h0 : r0 = q0
  case neg => simp [h0]
  subst h0
  by_cases h1 : r1 = q1
  case neg => simp [h1]
  subst h1
  by_cases h2 : r2 = q2
  case neg => simp [h2]
  subst h2
  by_cases h3 : r3 = q3
  case neg => simp [h3]
  subst h3
  simp

set_option maxRecDepth 100000 in
set_option maxHeartbeats 8000000 in
/-- shown -/
theorem c10 (w : World) : Calls Try.prog 10 #[] w fun e w' => e = .returned (.bool true) ∧ Below w.heap.size w w' := by
  go_enter Try.func10, Try.ntmps10
  go_wp2_with (fail)
  refine (c24 w).mono ?_
  rintro e w1 ⟨b1, b2, rfl, hI, hb⟩
  have HI := Lib.hid hI
  have HB1 := Lib.hid hb
  clear hI hb
  go_wp2_with (fail)
  refine (c12 (oneF b1 b2) w1 HI.out (by decide : (1 : Int) ≤ 8) (by decide : (1 : Int) ≤ 8) (oneF_wf b1 b2)).mono ?_
  rintro e w2 ⟨h, -, hb⟩
  obtain ⟨v, rfl, ho⟩ := h (oneF_ok b1 b2)
  rw [oneF_all] at ho
  obtain ⟨bE, cE, rfl⟩ := own_some ho (by decide)
  obtain ⟨A, cap, hv, -, hm, -⟩ := GR.own_many Edge.len ho rfl
  have hA : A = some ⟨bE, 0, none⟩ := by injection hv with h1 h2 h3; exact h1.symm
  subst hA
  clear hv
  have HM := Lib.hid hm
  have HB2 := Lib.hid (HB1.out.trans (hb.mono HB1.out.size))
  clear h ho hm hb
  rw [show oneE.length = 4 from rfl]
  go_wp2_with (fail)
  refine (c12 negF w2 (negF_in _) (by decide) (by decide) negF_wf).mono ?_
  rintro e w3 ⟨-, h, hb⟩
  obtain rfl := h negF_ok
  have HM3 := Lib.hid (HM.out.below hb)
  have HB3 := Lib.hid (HB2.out.trans (hb.mono HB2.out.size))
  clear h hb
  go_wp2_with (fail)
  refine (c24 w3).mono ?_
  rintro e w4 ⟨d1, d2, rfl, hI, hb⟩
  have HI4 := Lib.hid hI
  have HM4 := Lib.hid (HM3.out.below hb)
  have HB4 := Lib.hid (HB3.out.trans (hb.mono HB3.out.size))
  clear hI hb
  go_wp2_with (fail)
  refine (c18 (oneF d1 d2) (some ⟨bE, 0, none⟩) oneE cE w4 HI4.out (by decide : (1 : Int) ≤ 8) (by decide : (1 : Int) ≤ 8) HM4.out (by decide) (fun x hx => by simp [oneE] at hx; rcases hx with rfl | rfl | rfl | rfl <;> decide)).mono ?_
  rintro e w5 ⟨h, -, hb⟩
  obtain ⟨v, rfl, ho⟩ := h (oneF_ok d1 d2)
  rw [oneF_insets] at ho
  obtain ⟨bI, cI, rfl⟩ := own_some ho (by decide)
  obtain ⟨A, cap, hv, -, hm, -⟩ := GR.own_many I4.len ho rfl
  have hA : A = some ⟨bI, 0, none⟩ := by injection hv with h1 h2 h3; exact h1.symm
  subst hA
  clear hv
  obtain ⟨x, b, off, hxk, hA, hat, _⟩ := hm.get 0 (by decide)
  cases hA
  have i0 : w5.cell? ⟨bI, 0, none⟩ = some (.int .i64 3) := by have := hxk.out; subst this; exact hat 0 _ rfl
  have i1 : w5.cell? ⟨bI, 1, none⟩ = some (.int .i64 3) := by have := hxk.out; subst this; exact hat 1 _ rfl
  have i2 : w5.cell? ⟨bI, 2, none⟩ = some (.int .i64 3) := by have := hxk.out; subst this; exact hat 2 _ rfl
  have i3 : w5.cell? ⟨bI, 3, none⟩ = some (.int .i64 3) := by have := hxk.out; subst this; exact hat 3 _ rfl
  clear hat hxk
  have hm5 := HM4.out.below hb
  obtain ⟨x, b, off, hxk, hA, hat, _⟩ := hm5.get 0 (by decide)
  cases hA
  have j0 : w5.cell? ⟨bE, 6, none⟩ = some (.int .i64 5) := by have := hxk.out; subst this; exact hat 6 _ rfl
  clear hat hxk
  obtain ⟨x, b, off, hxk, hA, hat, _⟩ := hm5.get 3 (by decide)
  cases hA
  have j3 : w5.cell? ⟨bE, 39, none⟩ = some (.int .i64 2) := by have := hxk.out; subst this; exact hat 9 _ rfl
  clear hat hxk
  have HB5 := Lib.hid (HB4.out.trans (hb.mono HB4.out.size))
  have E52 := eq52 3 3 3 3 3 3 3 3 w5
  clear h ho hm hb hm5
  rw [show ([⟨3, 3, 3, 3⟩] : List I4).length = 1 from rfl]
  go_wp2_with (fail)
  go_ret
  exact ⟨rfl, HB5.out⟩
end Go.Proofs.Ytmlcjiabnmdfeaa
