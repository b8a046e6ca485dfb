/- The reference's tests of lines. -/
import Derived.Test.YtmlcjiabnmdfeaaB
namespace Go.Proofs.Ytmlcjiabnmdfeaa
open Go Go.RowKit Go.Shelf CT
set_option linter.unusedVariables false

set_option maxRecDepth 100000 in
set_option maxHeartbeats 4000000 in
/-- the reference's lines -/
theorem c29 (q : L4) (w : World) : Calls Try.prog 29 #[.agg q.arr] w fun e w' => e = .returned (.bool (!wrongL q.lines)) ∧ Below w.heap.size w w' := by
  have hB : Below w.heap.size w (w.alloc (.cells q.arr 28)) := (Below.refl _ _).alloc (Nat.le_refl _) _
  have HM := Lib.hid (four_lines (GR.At.new (enc := L4.cells) (w := w) 28 q) (by simp) : GR.Many Line.cells 3 (w.alloc (.cells q.arr 28)) (some ⟨w.heap.size, 0, none⟩) q.lines)
  have HB := Lib.hid hB
  have HQ : Hid (q.lines.length = 4) := Lib.hid rfl
  obtain ⟨w0, hw0⟩ : ∃ w0, w.alloc (.cells q.arr 28) = w0 := ⟨_, rfl⟩
  clear hB
  unfold wrongL
  obtain ⟨L, hL⟩ : ∃ L, q.lines = L := ⟨_, rfl⟩
  rw [hL] at HM HQ ⊢
  clear hL
  go_enter Try.func29, Try.ntmps29
  go_wp2_with (fail)
  rw [hw0] at HM HB
  clear hw0
  go_loopw [3] (fun a wr => ∃ k : Nat, k ≤ 4 ∧ a = .int .i64 k ∧ Hid (∀ j, j < k → (!okL (L[j]?.getD default)) = false) ∧ Hid (Below w.heap.size w wr) ∧ Hid (Below w0.heap.size w0 wr)) (fun a _ => 4 - (intOf a).toNat)
  case atStart => exact ⟨0, Nat.zero_le _, rfl, Lib.hid fun j hj => absurd hj (Nat.not_lt_zero j), HB, Lib.hid (Below.refl _ _)⟩
  case round =>
    clear HB
    obtain ⟨k, hk, rfl, hp, HB, HC⟩ := hrel
    by_cases hlt : k < 4
    · have ti : decide ((k : Int) < 4) = true := decide_eq_true (by omega)
      obtain ⟨x, b, off, hxk, hA, hat, _⟩ := (HM.out.below HC.out).get k (by rw [HQ.out]; exact hlt)
      cases hA
      have h48 := CT.c17 x.side wr
      obtain ⟨r, hr⟩ : ∃ r, CT.right x.side = r := ⟨_, rfl⟩
      rw [hr] at h48
      have Hr : Hid ((!okL x) = !r) := Lib.hid (by unfold okL; rw [hr])
      have H48 := Lib.hid h48
      clear h48 hr
      obtain ⟨x0, x1, x2⟩ := x
      have q0 : wr.cell? ⟨w.heap.size, k * 3, none⟩ = some (.int .i64 x0) := by have := hat 0 _ rfl; rwa [Nat.zero_add] at this
      have q1 : wr.cell? ⟨w.heap.size, k * 3 + 1, none⟩ = some (.int .i64 x1) := by have := hat 1 _ rfl; rwa [Nat.zero_add] at this
      have q2 : wr.cell? ⟨w.heap.size, k * 3 + 2, none⟩ = some (.int .u32 x2) := by have := hat 2 _ rfl; rwa [Nat.zero_add] at this
      unfold Line.side CT.Side.arr at H48
      dsimp only at H48 q0
      clear hat
      cases r with
      | true =>
        have hnext : Hid (∀ j, j < k + 1 → (!okL (L[j]?.getD default)) = false) := Lib.hid fun j hj => by
          by_cases e : j = k
          · subst e; rw [hxk.out]; exact Hr.out
          · exact hp.out j (by omega)
        go_wp2_with (go_at_call 48; refine H48.out.mono ?_; rintro e w' ⟨rfl, hb'⟩; have HB2 := Lib.hid (HB.out.trans (hb'.mono HB.out.size)); have HC2 := Lib.hid (HC.out.trans (hb'.mono HC.out.size)); clear hb')
        go_roundw
        case rel => exact ⟨k + 1, by omega, by go_num, hnext, HB2, HC2⟩
        case measure => simp [intOf]; omega
      | false =>
        go_wp2_with (go_at_call 48; refine H48.out.mono ?_; rintro e w' ⟨rfl, hb'⟩; have HB2 := Lib.hid (HB.out.trans (hb'.mono HB.out.size)); clear hb')
        go_ret
        exact ⟨by rw [any_at (p := fun x => !okL x) (by rw [HQ.out]; exact hlt) (by rw [hxk.out]; exact Hr.out)]; rfl, HB2.out⟩
    · obtain rfl : k = 4 := by omega
      have ti : decide (((4 : Nat) : Int) < 4) = false := by decide
      go_wp2_with (fail)
      go_ret
      exact ⟨by rw [any_none (p := fun x => !okL x) (by rw [HQ.out]; exact hp.out)]; rfl, HB.out⟩
end Go.Proofs.Ytmlcjiabnmdfeaa
