/- The walk of the law ContestDrawn by the contracts. -/
import Derived.Test.YtffnnfdlelaonaaP
namespace Go.Proofs.Ytffnnfdlelaonaa
open Go.RowKit Go.Shelf
set_option linter.unusedVariables false

set_option maxRecDepth 100000 in
set_option maxHeartbeats 4000000 in
theorem drawn_A (a b : Side) (w : World) (x : Bool)
    (h1 : ∀ W, Calls Try.prog 16 #[.agg a.arr, .agg b.arr] W fun r W' => r = .returned (.tuple #[.bool x, .int .i64 110]) ∧ Below W.heap.size W W') :
    Calls Try.prog 7 #[.agg a.arr, .agg b.arr] w fun e w' => e = .returned (.bool true) ∧ Below w.heap.size w w' := by
  have H1 := Lib.hid h1
  clear h1
  obtain ⟨W0, hW0⟩ : ∃ W0, ((w.alloc (.cells a.arr 30)).alloc (.cells b.arr 30)) = W0 := ⟨_, rfl⟩
  have hB0 : Below w.heap.size w W0 := by rw [← hW0]; exact ((Below.refl _ w).alloc (Nat.le_refl _) _).alloc (by simp) _
  have ra0 : Row W0 (w.heap.size) a := by
    have := (Row.new w a).alloc (.cells b.arr 30)
    rw [hW0] at this; exact this
  have rb0 : Row W0 (w.heap.size + 1) b := by
    have := Row.new (w.alloc (.cells a.arr 30)) b
    rw [World.size_alloc] at this; rw [hW0] at this; exact this
  have HW0 := Lib.hid hW0
  clear hW0
  unfold Side.arr at HW0 ⊢
  go_enter Try.func7, Try.ntmps7
  go_wp2_with (fail)
  rw [HW0.out]
  unfold Side.arr at H1
  refine (c11 _).mono ?_
  rintro e w1 ⟨rfl, hb1⟩
  have hB1 := hB0.trans (hb1.mono hB0.size)
  have ra1 := ra0.turn hb1
  obtain ⟨a10, a11, a12, a13, a14, a15⟩ := ra1.side
  have rb1 := rb0.turn hb1
  obtain ⟨b10, b11, b12, b13, b14, b15⟩ := rb1.side
  clear hb1 hB0 ra0 rb0
  go_wp2_with (fail)
  clear a10 a11 a12 a13 a14 a15 b10 b11 b12 b13 b14 b15
  refine (H1.out _).mono ?_
  rintro e w2 ⟨rfl, hb2⟩
  have hB2 := hB1.trans (hb2.mono hB1.size)
  have ra2 := ra1.turn hb2
  obtain ⟨a20, a21, a22, a23, a24, a25⟩ := ra2.side
  have rb2 := rb1.turn hb2
  obtain ⟨b20, b21, b22, b23, b24, b25⟩ := rb2.side
  clear hb2 hB1 ra1 rb1
  go_wp2
  go_ret
  exact ⟨rfl, hB2⟩

set_option maxRecDepth 100000 in
set_option maxHeartbeats 4000000 in
theorem drawn_B (a b : Side) (w : World) (x : Bool) (g : a.style < 2)
    (h1 : ∀ W, Calls Try.prog 16 #[.agg a.arr, .agg b.arr] W fun r W' => r = .returned (.tuple #[.bool x, .int .i64 0]) ∧ Below W.heap.size W W') :
    Calls Try.prog 7 #[.agg a.arr, .agg b.arr] w fun e w' => e = .returned (.bool true) ∧ Below w.heap.size w w' := by
  have H1 := Lib.hid h1
  clear h1
  obtain ⟨W0, hW0⟩ : ∃ W0, ((w.alloc (.cells a.arr 30)).alloc (.cells b.arr 30)) = W0 := ⟨_, rfl⟩
  have hB0 : Below w.heap.size w W0 := by rw [← hW0]; exact ((Below.refl _ w).alloc (Nat.le_refl _) _).alloc (by simp) _
  have ra0 : Row W0 (w.heap.size) a := by
    have := (Row.new w a).alloc (.cells b.arr 30)
    rw [hW0] at this; exact this
  have rb0 : Row W0 (w.heap.size + 1) b := by
    have := Row.new (w.alloc (.cells a.arr 30)) b
    rw [World.size_alloc] at this; rw [hW0] at this; exact this
  have HW0 := Lib.hid hW0
  clear hW0
  unfold Side.arr at HW0 ⊢
  go_enter Try.func7, Try.ntmps7
  go_wp2_with (fail)
  rw [HW0.out]
  unfold Side.arr at H1
  refine (c11 _).mono ?_
  rintro e w1 ⟨rfl, hb1⟩
  have hB1 := hB0.trans (hb1.mono hB0.size)
  have ra1 := ra0.turn hb1
  obtain ⟨a10, a11, a12, a13, a14, a15⟩ := ra1.side
  have rb1 := rb0.turn hb1
  obtain ⟨b10, b11, b12, b13, b14, b15⟩ := rb1.side
  clear hb1 hB0 ra0 rb0
  go_wp2_with (fail)
  clear a10 a11 a12 a13 a14 a15 b10 b11 b12 b13 b14 b15
  refine (H1.out _).mono ?_
  rintro e w2 ⟨rfl, hb2⟩
  have hB2 := hB1.trans (hb2.mono hB1.size)
  have ra2 := ra1.turn hb2
  obtain ⟨a20, a21, a22, a23, a24, a25⟩ := ra2.side
  have rb2 := rb1.turn hb2
  obtain ⟨b20, b21, b22, b23, b24, b25⟩ := rb2.side
  clear hb2 hB1 ra1 rb1
  go_wp2
  go_ret
  exact ⟨rfl, hB2⟩

set_option maxRecDepth 100000 in
set_option maxHeartbeats 4000000 in
theorem drawn_C (a b : Side) (w : World) (g : ¬ a.style < 2) (g1 : b.style = 1)
    (h1 : ∀ W, Calls Try.prog 16 #[.agg a.arr, .agg b.arr] W fun r W' => r = .returned (.tuple #[.bool false, .int .i64 0]) ∧ Below W.heap.size W W') :
    Calls Try.prog 7 #[.agg a.arr, .agg b.arr] w fun e w' => e = .returned (.bool true) ∧ Below w.heap.size w w' := by
  have H1 := Lib.hid h1
  clear h1
  have t1 : (b.style == 1) = true := by rw [beq_iff_eq]; assumption
  clear g1
  obtain ⟨W0, hW0⟩ : ∃ W0, ((w.alloc (.cells a.arr 30)).alloc (.cells b.arr 30)) = W0 := ⟨_, rfl⟩
  have hB0 : Below w.heap.size w W0 := by rw [← hW0]; exact ((Below.refl _ w).alloc (Nat.le_refl _) _).alloc (by simp) _
  have ra0 : Row W0 (w.heap.size) a := by
    have := (Row.new w a).alloc (.cells b.arr 30)
    rw [hW0] at this; exact this
  have rb0 : Row W0 (w.heap.size + 1) b := by
    have := Row.new (w.alloc (.cells a.arr 30)) b
    rw [World.size_alloc] at this; rw [hW0] at this; exact this
  have HW0 := Lib.hid hW0
  clear hW0
  unfold Side.arr at HW0 ⊢
  go_enter Try.func7, Try.ntmps7
  go_wp2_with (fail)
  rw [HW0.out]
  unfold Side.arr at H1
  refine (c11 _).mono ?_
  rintro e w1 ⟨rfl, hb1⟩
  have hB1 := hB0.trans (hb1.mono hB0.size)
  have ra1 := ra0.turn hb1
  obtain ⟨a10, a11, a12, a13, a14, a15⟩ := ra1.side
  have rb1 := rb0.turn hb1
  obtain ⟨b10, b11, b12, b13, b14, b15⟩ := rb1.side
  clear hb1 hB0 ra0 rb0
  go_wp2_with (fail)
  clear a10 a11 a12 a13 a14 a15 b10 b11 b12 b13 b14 b15
  refine (H1.out _).mono ?_
  rintro e w2 ⟨rfl, hb2⟩
  have hB2 := hB1.trans (hb2.mono hB1.size)
  have ra2 := ra1.turn hb2
  obtain ⟨a20, a21, a22, a23, a24, a25⟩ := ra2.side
  have rb2 := rb1.turn hb2
  obtain ⟨b20, b21, b22, b23, b24, b25⟩ := rb2.side
  clear hb2 hB1 ra1 rb1
  go_wp2
  go_ret
  exact ⟨rfl, hB2⟩

set_option maxRecDepth 100000 in
set_option maxHeartbeats 4000000 in
theorem drawn_D (a b : Side) (w : World) (g : ¬ a.style < 2) (g1 : b.style = 0)
    (h1 : ∀ W, Calls Try.prog 16 #[.agg a.arr, .agg b.arr] W fun r W' => r = .returned (.tuple #[.bool true, .int .i64 0]) ∧ Below W.heap.size W W') :
    Calls Try.prog 7 #[.agg a.arr, .agg b.arr] w fun e w' => e = .returned (.bool true) ∧ Below w.heap.size w w' := by
  have H1 := Lib.hid h1
  clear h1
  have t1 : (b.style == 0) = true := by rw [beq_iff_eq]; assumption
  have t2 : (b.style == 1) = false := by rw [g1]; rfl
  clear g1
  obtain ⟨W0, hW0⟩ : ∃ W0, ((w.alloc (.cells a.arr 30)).alloc (.cells b.arr 30)) = W0 := ⟨_, rfl⟩
  have hB0 : Below w.heap.size w W0 := by rw [← hW0]; exact ((Below.refl _ w).alloc (Nat.le_refl _) _).alloc (by simp) _
  have ra0 : Row W0 (w.heap.size) a := by
    have := (Row.new w a).alloc (.cells b.arr 30)
    rw [hW0] at this; exact this
  have rb0 : Row W0 (w.heap.size + 1) b := by
    have := Row.new (w.alloc (.cells a.arr 30)) b
    rw [World.size_alloc] at this; rw [hW0] at this; exact this
  have HW0 := Lib.hid hW0
  clear hW0
  unfold Side.arr at HW0 ⊢
  go_enter Try.func7, Try.ntmps7
  go_wp2_with (fail)
  rw [HW0.out]
  unfold Side.arr at H1
  refine (c11 _).mono ?_
  rintro e w1 ⟨rfl, hb1⟩
  have hB1 := hB0.trans (hb1.mono hB0.size)
  have ra1 := ra0.turn hb1
  obtain ⟨a10, a11, a12, a13, a14, a15⟩ := ra1.side
  have rb1 := rb0.turn hb1
  obtain ⟨b10, b11, b12, b13, b14, b15⟩ := rb1.side
  clear hb1 hB0 ra0 rb0
  go_wp2_with (fail)
  clear a10 a11 a12 a13 a14 a15 b10 b11 b12 b13 b14 b15
  refine (H1.out _).mono ?_
  rintro e w2 ⟨rfl, hb2⟩
  have hB2 := hB1.trans (hb2.mono hB1.size)
  have ra2 := ra1.turn hb2
  obtain ⟨a20, a21, a22, a23, a24, a25⟩ := ra2.side
  have rb2 := rb1.turn hb2
  obtain ⟨b20, b21, b22, b23, b24, b25⟩ := rb2.side
  clear hb2 hB1 ra1 rb1
  go_wp2
  go_ret
  exact ⟨rfl, hB2⟩

set_option maxRecDepth 100000 in
set_option maxHeartbeats 4000000 in
theorem drawn_E (a b : Side) (w : World) (x : Bool) (g : ¬ a.style < 2) (g1 : b.style ≠ 0) (g2 : b.style ≠ 1) (g3 : a.width = b.width)
    (h1 : ∀ W, Calls Try.prog 16 #[.agg a.arr, .agg b.arr] W fun r W' => r = .returned (.tuple #[.bool x, .int .i64 0]) ∧ Below W.heap.size W W') :
    Calls Try.prog 7 #[.agg a.arr, .agg b.arr] w fun e w' => e = .returned (.bool true) ∧ Below w.heap.size w w' := by
  have H1 := Lib.hid h1
  clear h1
  have t1 : (b.style == 0) = false := by rw [beq_eq_false_iff_ne]; assumption
  have t2 : (b.style == 1) = false := by rw [beq_eq_false_iff_ne]; assumption
  have t3 : (a.width == b.width) = true := by rw [beq_iff_eq]; assumption
  clear g1 g2 g3
  obtain ⟨W0, hW0⟩ : ∃ W0, ((w.alloc (.cells a.arr 30)).alloc (.cells b.arr 30)) = W0 := ⟨_, rfl⟩
  have hB0 : Below w.heap.size w W0 := by rw [← hW0]; exact ((Below.refl _ w).alloc (Nat.le_refl _) _).alloc (by simp) _
  have ra0 : Row W0 (w.heap.size) a := by
    have := (Row.new w a).alloc (.cells b.arr 30)
    rw [hW0] at this; exact this
  have rb0 : Row W0 (w.heap.size + 1) b := by
    have := Row.new (w.alloc (.cells a.arr 30)) b
    rw [World.size_alloc] at this; rw [hW0] at this; exact this
  have HW0 := Lib.hid hW0
  clear hW0
  unfold Side.arr at HW0 ⊢
  go_enter Try.func7, Try.ntmps7
  go_wp2_with (fail)
  rw [HW0.out]
  unfold Side.arr at H1
  refine (c11 _).mono ?_
  rintro e w1 ⟨rfl, hb1⟩
  have hB1 := hB0.trans (hb1.mono hB0.size)
  have ra1 := ra0.turn hb1
  obtain ⟨a10, a11, a12, a13, a14, a15⟩ := ra1.side
  have rb1 := rb0.turn hb1
  obtain ⟨b10, b11, b12, b13, b14, b15⟩ := rb1.side
  clear hb1 hB0 ra0 rb0
  go_wp2_with (fail)
  clear a10 a11 a12 a13 a14 a15 b10 b11 b12 b13 b14 b15
  refine (H1.out _).mono ?_
  rintro e w2 ⟨rfl, hb2⟩
  have hB2 := hB1.trans (hb2.mono hB1.size)
  have ra2 := ra1.turn hb2
  obtain ⟨a20, a21, a22, a23, a24, a25⟩ := ra2.side
  have rb2 := rb1.turn hb2
  obtain ⟨b20, b21, b22, b23, b24, b25⟩ := rb2.side
  clear hb2 hB1 ra1 rb1
  go_wp2
  go_ret
  exact ⟨rfl, hB2⟩

set_option maxRecDepth 100000 in
set_option maxHeartbeats 4000000 in
theorem drawn_F (a b : Side) (w : World) (g : ¬ a.style < 2) (g1 : b.style ≠ 0) (g2 : b.style ≠ 1) (g3 : a.width ≠ b.width)
    (h1 : ∀ W, Calls Try.prog 16 #[.agg a.arr, .agg b.arr] W fun r W' => r = .returned (.tuple #[.bool (decide (b.width < a.width)), .int .i64 0]) ∧ Below W.heap.size W W') :
    Calls Try.prog 7 #[.agg a.arr, .agg b.arr] w fun e w' => e = .returned (.bool true) ∧ Below w.heap.size w w' := by
  have H1 := Lib.hid h1
  clear h1
  have t1 : (b.style == 0) = false := by rw [beq_eq_false_iff_ne]; assumption
  have t2 : (b.style == 1) = false := by rw [beq_eq_false_iff_ne]; assumption
  have t3 : (a.width == b.width) = false := by rw [beq_eq_false_iff_ne]; assumption
  clear g1 g2 g3
  obtain ⟨W0, hW0⟩ : ∃ W0, ((w.alloc (.cells a.arr 30)).alloc (.cells b.arr 30)) = W0 := ⟨_, rfl⟩
  have hB0 : Below w.heap.size w W0 := by rw [← hW0]; exact ((Below.refl _ w).alloc (Nat.le_refl _) _).alloc (by simp) _
  have ra0 : Row W0 (w.heap.size) a := by
    have := (Row.new w a).alloc (.cells b.arr 30)
    rw [hW0] at this; exact this
  have rb0 : Row W0 (w.heap.size + 1) b := by
    have := Row.new (w.alloc (.cells a.arr 30)) b
    rw [World.size_alloc] at this; rw [hW0] at this; exact this
  have HW0 := Lib.hid hW0
  clear hW0
  unfold Side.arr at HW0 ⊢
  go_enter Try.func7, Try.ntmps7
  go_wp2_with (fail)
  rw [HW0.out]
  unfold Side.arr at H1
  refine (c11 _).mono ?_
  rintro e w1 ⟨rfl, hb1⟩
  have hB1 := hB0.trans (hb1.mono hB0.size)
  have ra1 := ra0.turn hb1
  obtain ⟨a10, a11, a12, a13, a14, a15⟩ := ra1.side
  have rb1 := rb0.turn hb1
  obtain ⟨b10, b11, b12, b13, b14, b15⟩ := rb1.side
  clear hb1 hB0 ra0 rb0
  go_wp2_with (fail)
  clear a10 a11 a12 a13 a14 a15 b10 b11 b12 b13 b14 b15
  refine (H1.out _).mono ?_
  rintro e w2 ⟨rfl, hb2⟩
  have hB2 := hB1.trans (hb2.mono hB1.size)
  have ra2 := ra1.turn hb2
  obtain ⟨a20, a21, a22, a23, a24, a25⟩ := ra2.side
  have rb2 := rb1.turn hb2
  obtain ⟨b20, b21, b22, b23, b24, b25⟩ := rb2.side
  clear hb2 hB1 ra1 rb1
  go_wp2
  go_ret
  exact ⟨rfl, hB2⟩

theorem drawn_walk (a b : Side) (w : World) (ha : a.wf) (hb : b.wf) :
    Calls Try.prog 7 #[.agg a.arr, .agg b.arr] w fun e w' => e = .returned (.bool true) ∧ Below w.heap.size w w' := by
  have h1 := fun W => c16 a b W ha hb
  cases hr : (right a && right b) with
  | false =>
    have e : okE a b = 110 := by unfold okE; rw [hr]; rfl
    rw [e] at h1
    exact drawn_A a b w _ h1
  | true =>
    have e : okE a b = 0 := by unfold okE; rw [hr]; rfl
    have e' : winsB a b = refw a b := by unfold winsB; rw [hr, ord_ref]; rfl
    rw [e, e'] at h1
    by_cases g : a.style < 2
    · exact drawn_B a b w _ g h1
    · have p1 : a.style ≠ 1 := by omega
      have p0 : a.style ≠ 0 := by omega
      by_cases g1 : b.style = 1
      · have hx : refw a b = false := by unfold refw; simp [p1, g1]
        rw [hx] at h1
        exact drawn_C a b w g g1 h1
      · by_cases g0 : b.style = 0
        · have hx : refw a b = true := by unfold refw; simp [p1, p0, g0]
          rw [hx] at h1
          exact drawn_D a b w g g0 h1
        · by_cases g3 : a.width = b.width
          · exact drawn_E a b w _ g g0 g1 g3 h1
          · have hx : refw a b = decide (b.width < a.width) := by unfold refw; simp [p1, p0, g0, g1, g3]
            rw [hx] at h1
            exact drawn_F a b w g g0 g1 g3 h1

end Go.Proofs.Ytffnnfdlelaonaa
