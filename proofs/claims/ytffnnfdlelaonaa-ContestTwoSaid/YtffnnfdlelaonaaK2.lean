/- The walk of the law ContestTwo by the contracts. -/
import Derived.Test.YtffnnfdlelaonaaP
namespace Go.Proofs.Ytffnnfdlelaonaa
open Go.RowKit Go.Shelf
set_option linter.unusedVariables false

theorem side_ext {a b : Side} (h0 : a.style = b.style) (h1 : a.width = b.width) (h2 : a.color = b.color) (h3 : a.by_ = b.by_) (h4 : a.row = b.row) (h5 : a.col = b.col) : a = b := by
  obtain ⟨a0, a1, a2, a3, a4, a5⟩ := a
  obtain ⟨b0, b1, b2, b3, b4, b5⟩ := b
  dsimp only at h0 h1 h2 h3 h4 h5
  subst h0 h1 h2 h3 h4 h5; rfl
set_option maxRecDepth 100000 in
set_option maxHeartbeats 4000000 in
theorem two_A (a b c : Side) (w : World) (z v : Bool) (g h : Int)
    (h1 : ∀ W, Calls Try.prog 16 #[.agg a.arr, .agg b.arr] W fun r W' => r = .returned (.tuple #[.bool false, .int .i64 110]) ∧ Below W.heap.size W W')
    (h2 : ∀ W, Calls Try.prog 16 #[.agg b.arr, .agg a.arr] W fun r W' => r = .returned (.tuple #[.bool false, .int .i64 110]) ∧ Below W.heap.size W W')
    (h3 : ∀ W, Calls Try.prog 16 #[.agg b.arr, .agg c.arr] W fun r W' => r = .returned (.tuple #[.bool z, .int .i64 g]) ∧ Below W.heap.size W W')
    (h4 : ∀ W, Calls Try.prog 16 #[.agg a.arr, .agg c.arr] W fun r W' => r = .returned (.tuple #[.bool v, .int .i64 h]) ∧ Below W.heap.size W W')
    (hq : True) :
    Calls Try.prog 6 #[.agg a.arr, .agg b.arr, .agg c.arr] w fun e w' => e = .returned (.bool true) ∧ Below w.heap.size w w' := by
  have H1 := Lib.hid h1
  have H2 := Lib.hid h2
  have H3 := Lib.hid h3
  have H4 := Lib.hid h4
  have HQ := Lib.hid hq
  clear hq
  clear h1 h2 h3 h4
  obtain ⟨W0, hW0⟩ : ∃ W0, (((w.alloc (.cells a.arr 30)).alloc (.cells b.arr 30)).alloc (.cells c.arr 30)) = W0 := ⟨_, rfl⟩
  have hB0 : Below w.heap.size w W0 := by rw [← hW0]; exact (((Below.refl _ w).alloc (Nat.le_refl _) _).alloc (by simp) _).alloc (by simp; omega) _
  have ra0 : Row W0 (w.heap.size) a := by
    have := ((Row.new w a).alloc (.cells b.arr 30)).alloc (.cells c.arr 30)
    rw [hW0] at this; exact this
  have rb0 : Row W0 (w.heap.size + 1) b := by
    have := (Row.new (w.alloc (.cells a.arr 30)) b).alloc (.cells c.arr 30)
    rw [World.size_alloc] at this; rw [hW0] at this; exact this
  have rc0 : Row W0 (w.heap.size + 1 + 1) c := by
    have := Row.new ((w.alloc (.cells a.arr 30)).alloc (.cells b.arr 30)) c
    rw [World.size_alloc, World.size_alloc] at this; rw [hW0] at this; exact this
  have HW0 := Lib.hid hW0
  clear hW0
  unfold Side.arr at HW0 ⊢
  go_enter Try.func6, Try.ntmps6
  go_wp2_with (fail)
  rw [HW0.out]
  unfold Side.arr at H1 H2 H3 H4
  refine (c11 _).mono ?_
  rintro e w1 ⟨rfl, hb1⟩
  have hB1 := hB0.trans (hb1.mono hB0.size)
  have ra1 := ra0.turn hb1
  obtain ⟨a10, a11, a12, a13, a14, a15⟩ := ra1.side
  have rb1 := rb0.turn hb1
  obtain ⟨b10, b11, b12, b13, b14, b15⟩ := rb1.side
  have rc1 := rc0.turn hb1
  obtain ⟨c10, c11, c12, c13, c14, c15⟩ := rc1.side
  clear hb1 hB0 ra0 rb0 rc0
  go_wp2_with (fail)
  clear a10 a11 a12 a13 a14 a15 b10 b11 b12 b13 b14 b15 c10 c11 c12 c13 c14 c15
  refine (H1.out _).mono ?_
  rintro e w2 ⟨rfl, hb2⟩
  have hB2 := hB1.trans (hb2.mono hB1.size)
  have ra2 := ra1.turn hb2
  obtain ⟨a20, a21, a22, a23, a24, a25⟩ := ra2.side
  have rb2 := rb1.turn hb2
  obtain ⟨b20, b21, b22, b23, b24, b25⟩ := rb2.side
  have rc2 := rc1.turn hb2
  obtain ⟨c20, c21, c22, c23, c24, c25⟩ := rc2.side
  clear hb2 hB1 ra1 rb1 rc1
  go_wp2_with (fail)
  clear a20 a21 a22 a23 a24 a25 b20 b21 b22 b23 b24 b25 c20 c21 c22 c23 c24 c25
  refine (H2.out _).mono ?_
  rintro e w3 ⟨rfl, hb3⟩
  have hB3 := hB2.trans (hb3.mono hB2.size)
  have ra3 := ra2.turn hb3
  obtain ⟨a30, a31, a32, a33, a34, a35⟩ := ra3.side
  have rb3 := rb2.turn hb3
  obtain ⟨b30, b31, b32, b33, b34, b35⟩ := rb3.side
  have rc3 := rc2.turn hb3
  obtain ⟨c30, c31, c32, c33, c34, c35⟩ := rc3.side
  clear hb3 hB2 ra2 rb2 rc2
  go_wp2_with (fail)
  clear a30 a31 a32 a33 a34 a35 b30 b31 b32 b33 b34 b35 c30 c31 c32 c33 c34 c35
  refine (H3.out _).mono ?_
  rintro e w4 ⟨rfl, hb4⟩
  have hB4 := hB3.trans (hb4.mono hB3.size)
  have ra4 := ra3.turn hb4
  obtain ⟨a40, a41, a42, a43, a44, a45⟩ := ra4.side
  have rb4 := rb3.turn hb4
  obtain ⟨b40, b41, b42, b43, b44, b45⟩ := rb4.side
  have rc4 := rc3.turn hb4
  obtain ⟨c40, c41, c42, c43, c44, c45⟩ := rc4.side
  clear hb4 hB3 ra3 rb3 rc3
  go_wp2_with (fail)
  clear a40 a41 a42 a43 a44 a45 b40 b41 b42 b43 b44 b45 c40 c41 c42 c43 c44 c45
  refine (H4.out _).mono ?_
  rintro e w5 ⟨rfl, hb5⟩
  have hB5 := hB4.trans (hb5.mono hB4.size)
  have ra5 := ra4.turn hb5
  obtain ⟨a50, a51, a52, a53, a54, a55⟩ := ra5.side
  have rb5 := rb4.turn hb5
  obtain ⟨b50, b51, b52, b53, b54, b55⟩ := rb5.side
  have rc5 := rc4.turn hb5
  obtain ⟨c50, c51, c52, c53, c54, c55⟩ := rc5.side
  clear hb5 hB4 ra4 rb4 rc4
  go_wp2
  all_goals go_ret
  all_goals first | exact ⟨rfl, hB5⟩ | exact absurd (side_ext (by assumption) (by assumption) (by assumption) (by assumption) (by assumption) (by assumption)) HQ.out

set_option maxRecDepth 100000 in
set_option maxHeartbeats 4000000 in
theorem two_B1a (a b c : Side) (w : World) (z v : Bool) (h : Int)
    (h1 : ∀ W, Calls Try.prog 16 #[.agg a.arr, .agg b.arr] W fun r W' => r = .returned (.tuple #[.bool true, .int .i64 0]) ∧ Below W.heap.size W W')
    (h2 : ∀ W, Calls Try.prog 16 #[.agg b.arr, .agg a.arr] W fun r W' => r = .returned (.tuple #[.bool false, .int .i64 0]) ∧ Below W.heap.size W W')
    (h3 : ∀ W, Calls Try.prog 16 #[.agg b.arr, .agg c.arr] W fun r W' => r = .returned (.tuple #[.bool z, .int .i64 110]) ∧ Below W.heap.size W W')
    (h4 : ∀ W, Calls Try.prog 16 #[.agg a.arr, .agg c.arr] W fun r W' => r = .returned (.tuple #[.bool v, .int .i64 h]) ∧ Below W.heap.size W W')
    (hq : a ≠ b) :
    Calls Try.prog 6 #[.agg a.arr, .agg b.arr, .agg c.arr] w fun e w' => e = .returned (.bool true) ∧ Below w.heap.size w w' := by
  have H1 := Lib.hid h1
  have H2 := Lib.hid h2
  have H3 := Lib.hid h3
  have H4 := Lib.hid h4
  have HQ := Lib.hid hq
  clear hq
  clear h1 h2 h3 h4
  obtain ⟨W0, hW0⟩ : ∃ W0, (((w.alloc (.cells a.arr 30)).alloc (.cells b.arr 30)).alloc (.cells c.arr 30)) = W0 := ⟨_, rfl⟩
  have hB0 : Below w.heap.size w W0 := by rw [← hW0]; exact (((Below.refl _ w).alloc (Nat.le_refl _) _).alloc (by simp) _).alloc (by simp; omega) _
  have ra0 : Row W0 (w.heap.size) a := by
    have := ((Row.new w a).alloc (.cells b.arr 30)).alloc (.cells c.arr 30)
    rw [hW0] at this; exact this
  have rb0 : Row W0 (w.heap.size + 1) b := by
    have := (Row.new (w.alloc (.cells a.arr 30)) b).alloc (.cells c.arr 30)
    rw [World.size_alloc] at this; rw [hW0] at this; exact this
  have rc0 : Row W0 (w.heap.size + 1 + 1) c := by
    have := Row.new ((w.alloc (.cells a.arr 30)).alloc (.cells b.arr 30)) c
    rw [World.size_alloc, World.size_alloc] at this; rw [hW0] at this; exact this
  have HW0 := Lib.hid hW0
  clear hW0
  unfold Side.arr at HW0 ⊢
  go_enter Try.func6, Try.ntmps6
  go_wp2_with (fail)
  rw [HW0.out]
  unfold Side.arr at H1 H2 H3 H4
  refine (c11 _).mono ?_
  rintro e w1 ⟨rfl, hb1⟩
  have hB1 := hB0.trans (hb1.mono hB0.size)
  have ra1 := ra0.turn hb1
  obtain ⟨a10, a11, a12, a13, a14, a15⟩ := ra1.side
  have rb1 := rb0.turn hb1
  obtain ⟨b10, b11, b12, b13, b14, b15⟩ := rb1.side
  have rc1 := rc0.turn hb1
  obtain ⟨c10, c11, c12, c13, c14, c15⟩ := rc1.side
  clear hb1 hB0 ra0 rb0 rc0
  go_wp2_with (fail)
  clear a10 a11 a12 a13 a14 a15 b10 b11 b12 b13 b14 b15 c10 c11 c12 c13 c14 c15
  refine (H1.out _).mono ?_
  rintro e w2 ⟨rfl, hb2⟩
  have hB2 := hB1.trans (hb2.mono hB1.size)
  have ra2 := ra1.turn hb2
  obtain ⟨a20, a21, a22, a23, a24, a25⟩ := ra2.side
  have rb2 := rb1.turn hb2
  obtain ⟨b20, b21, b22, b23, b24, b25⟩ := rb2.side
  have rc2 := rc1.turn hb2
  obtain ⟨c20, c21, c22, c23, c24, c25⟩ := rc2.side
  clear hb2 hB1 ra1 rb1 rc1
  go_wp2_with (fail)
  clear a20 a21 a22 a23 a24 a25 b20 b21 b22 b23 b24 b25 c20 c21 c22 c23 c24 c25
  refine (H2.out _).mono ?_
  rintro e w3 ⟨rfl, hb3⟩
  have hB3 := hB2.trans (hb3.mono hB2.size)
  have ra3 := ra2.turn hb3
  obtain ⟨a30, a31, a32, a33, a34, a35⟩ := ra3.side
  have rb3 := rb2.turn hb3
  obtain ⟨b30, b31, b32, b33, b34, b35⟩ := rb3.side
  have rc3 := rc2.turn hb3
  obtain ⟨c30, c31, c32, c33, c34, c35⟩ := rc3.side
  clear hb3 hB2 ra2 rb2 rc2
  go_wp2_with (fail)
  clear a30 a31 a32 a33 a34 a35 b30 b31 b32 b33 b34 b35 c30 c31 c32 c33 c34 c35
  refine (H3.out _).mono ?_
  rintro e w4 ⟨rfl, hb4⟩
  have hB4 := hB3.trans (hb4.mono hB3.size)
  have ra4 := ra3.turn hb4
  obtain ⟨a40, a41, a42, a43, a44, a45⟩ := ra4.side
  have rb4 := rb3.turn hb4
  obtain ⟨b40, b41, b42, b43, b44, b45⟩ := rb4.side
  have rc4 := rc3.turn hb4
  obtain ⟨c40, c41, c42, c43, c44, c45⟩ := rc4.side
  clear hb4 hB3 ra3 rb3 rc3
  go_wp2_with (fail)
  clear a40 a41 a42 a43 a44 a45 b40 b41 b42 b43 b44 b45 c40 c41 c42 c43 c44 c45
  refine (H4.out _).mono ?_
  rintro e w5 ⟨rfl, hb5⟩
  have hB5 := hB4.trans (hb5.mono hB4.size)
  have ra5 := ra4.turn hb5
  obtain ⟨a50, a51, a52, a53, a54, a55⟩ := ra5.side
  have rb5 := rb4.turn hb5
  obtain ⟨b50, b51, b52, b53, b54, b55⟩ := rb5.side
  have rc5 := rc4.turn hb5
  obtain ⟨c50, c51, c52, c53, c54, c55⟩ := rc5.side
  clear hb5 hB4 ra4 rb4 rc4
  go_wp2
  all_goals go_ret
  all_goals first | exact ⟨rfl, hB5⟩ | exact absurd (side_ext (by assumption) (by assumption) (by assumption) (by assumption) (by assumption) (by assumption)) HQ.out

set_option maxRecDepth 100000 in
set_option maxHeartbeats 4000000 in
theorem two_B1b (a b c : Side) (w : World) (v : Bool)
    (h1 : ∀ W, Calls Try.prog 16 #[.agg a.arr, .agg b.arr] W fun r W' => r = .returned (.tuple #[.bool true, .int .i64 0]) ∧ Below W.heap.size W W')
    (h2 : ∀ W, Calls Try.prog 16 #[.agg b.arr, .agg a.arr] W fun r W' => r = .returned (.tuple #[.bool false, .int .i64 0]) ∧ Below W.heap.size W W')
    (h3 : ∀ W, Calls Try.prog 16 #[.agg b.arr, .agg c.arr] W fun r W' => r = .returned (.tuple #[.bool false, .int .i64 0]) ∧ Below W.heap.size W W')
    (h4 : ∀ W, Calls Try.prog 16 #[.agg a.arr, .agg c.arr] W fun r W' => r = .returned (.tuple #[.bool v, .int .i64 0]) ∧ Below W.heap.size W W')
    (hq : a ≠ b) :
    Calls Try.prog 6 #[.agg a.arr, .agg b.arr, .agg c.arr] w fun e w' => e = .returned (.bool true) ∧ Below w.heap.size w w' := by
  have H1 := Lib.hid h1
  have H2 := Lib.hid h2
  have H3 := Lib.hid h3
  have H4 := Lib.hid h4
  have HQ := Lib.hid hq
  clear hq
  clear h1 h2 h3 h4
  obtain ⟨W0, hW0⟩ : ∃ W0, (((w.alloc (.cells a.arr 30)).alloc (.cells b.arr 30)).alloc (.cells c.arr 30)) = W0 := ⟨_, rfl⟩
  have hB0 : Below w.heap.size w W0 := by rw [← hW0]; exact (((Below.refl _ w).alloc (Nat.le_refl _) _).alloc (by simp) _).alloc (by simp; omega) _
  have ra0 : Row W0 (w.heap.size) a := by
    have := ((Row.new w a).alloc (.cells b.arr 30)).alloc (.cells c.arr 30)
    rw [hW0] at this; exact this
  have rb0 : Row W0 (w.heap.size + 1) b := by
    have := (Row.new (w.alloc (.cells a.arr 30)) b).alloc (.cells c.arr 30)
    rw [World.size_alloc] at this; rw [hW0] at this; exact this
  have rc0 : Row W0 (w.heap.size + 1 + 1) c := by
    have := Row.new ((w.alloc (.cells a.arr 30)).alloc (.cells b.arr 30)) c
    rw [World.size_alloc, World.size_alloc] at this; rw [hW0] at this; exact this
  have HW0 := Lib.hid hW0
  clear hW0
  unfold Side.arr at HW0 ⊢
  go_enter Try.func6, Try.ntmps6
  go_wp2_with (fail)
  rw [HW0.out]
  unfold Side.arr at H1 H2 H3 H4
  refine (c11 _).mono ?_
  rintro e w1 ⟨rfl, hb1⟩
  have hB1 := hB0.trans (hb1.mono hB0.size)
  have ra1 := ra0.turn hb1
  obtain ⟨a10, a11, a12, a13, a14, a15⟩ := ra1.side
  have rb1 := rb0.turn hb1
  obtain ⟨b10, b11, b12, b13, b14, b15⟩ := rb1.side
  have rc1 := rc0.turn hb1
  obtain ⟨c10, c11, c12, c13, c14, c15⟩ := rc1.side
  clear hb1 hB0 ra0 rb0 rc0
  go_wp2_with (fail)
  clear a10 a11 a12 a13 a14 a15 b10 b11 b12 b13 b14 b15 c10 c11 c12 c13 c14 c15
  refine (H1.out _).mono ?_
  rintro e w2 ⟨rfl, hb2⟩
  have hB2 := hB1.trans (hb2.mono hB1.size)
  have ra2 := ra1.turn hb2
  obtain ⟨a20, a21, a22, a23, a24, a25⟩ := ra2.side
  have rb2 := rb1.turn hb2
  obtain ⟨b20, b21, b22, b23, b24, b25⟩ := rb2.side
  have rc2 := rc1.turn hb2
  obtain ⟨c20, c21, c22, c23, c24, c25⟩ := rc2.side
  clear hb2 hB1 ra1 rb1 rc1
  go_wp2_with (fail)
  clear a20 a21 a22 a23 a24 a25 b20 b21 b22 b23 b24 b25 c20 c21 c22 c23 c24 c25
  refine (H2.out _).mono ?_
  rintro e w3 ⟨rfl, hb3⟩
  have hB3 := hB2.trans (hb3.mono hB2.size)
  have ra3 := ra2.turn hb3
  obtain ⟨a30, a31, a32, a33, a34, a35⟩ := ra3.side
  have rb3 := rb2.turn hb3
  obtain ⟨b30, b31, b32, b33, b34, b35⟩ := rb3.side
  have rc3 := rc2.turn hb3
  obtain ⟨c30, c31, c32, c33, c34, c35⟩ := rc3.side
  clear hb3 hB2 ra2 rb2 rc2
  go_wp2_with (fail)
  clear a30 a31 a32 a33 a34 a35 b30 b31 b32 b33 b34 b35 c30 c31 c32 c33 c34 c35
  refine (H3.out _).mono ?_
  rintro e w4 ⟨rfl, hb4⟩
  have hB4 := hB3.trans (hb4.mono hB3.size)
  have ra4 := ra3.turn hb4
  obtain ⟨a40, a41, a42, a43, a44, a45⟩ := ra4.side
  have rb4 := rb3.turn hb4
  obtain ⟨b40, b41, b42, b43, b44, b45⟩ := rb4.side
  have rc4 := rc3.turn hb4
  obtain ⟨c40, c41, c42, c43, c44, c45⟩ := rc4.side
  clear hb4 hB3 ra3 rb3 rc3
  go_wp2_with (fail)
  clear a40 a41 a42 a43 a44 a45 b40 b41 b42 b43 b44 b45 c40 c41 c42 c43 c44 c45
  refine (H4.out _).mono ?_
  rintro e w5 ⟨rfl, hb5⟩
  have hB5 := hB4.trans (hb5.mono hB4.size)
  have ra5 := ra4.turn hb5
  obtain ⟨a50, a51, a52, a53, a54, a55⟩ := ra5.side
  have rb5 := rb4.turn hb5
  obtain ⟨b50, b51, b52, b53, b54, b55⟩ := rb5.side
  have rc5 := rc4.turn hb5
  obtain ⟨c50, c51, c52, c53, c54, c55⟩ := rc5.side
  clear hb5 hB4 ra4 rb4 rc4
  go_wp2
  all_goals go_ret
  all_goals first | exact ⟨rfl, hB5⟩ | exact absurd (side_ext (by assumption) (by assumption) (by assumption) (by assumption) (by assumption) (by assumption)) HQ.out

set_option maxRecDepth 100000 in
set_option maxHeartbeats 4000000 in
theorem two_B1c (a b c : Side) (w : World)
    (h1 : ∀ W, Calls Try.prog 16 #[.agg a.arr, .agg b.arr] W fun r W' => r = .returned (.tuple #[.bool true, .int .i64 0]) ∧ Below W.heap.size W W')
    (h2 : ∀ W, Calls Try.prog 16 #[.agg b.arr, .agg a.arr] W fun r W' => r = .returned (.tuple #[.bool false, .int .i64 0]) ∧ Below W.heap.size W W')
    (h3 : ∀ W, Calls Try.prog 16 #[.agg b.arr, .agg c.arr] W fun r W' => r = .returned (.tuple #[.bool true, .int .i64 0]) ∧ Below W.heap.size W W')
    (h4 : ∀ W, Calls Try.prog 16 #[.agg a.arr, .agg c.arr] W fun r W' => r = .returned (.tuple #[.bool true, .int .i64 0]) ∧ Below W.heap.size W W')
    (hq : a ≠ b) :
    Calls Try.prog 6 #[.agg a.arr, .agg b.arr, .agg c.arr] w fun e w' => e = .returned (.bool true) ∧ Below w.heap.size w w' := by
  have H1 := Lib.hid h1
  have H2 := Lib.hid h2
  have H3 := Lib.hid h3
  have H4 := Lib.hid h4
  have HQ := Lib.hid hq
  clear hq
  clear h1 h2 h3 h4
  obtain ⟨W0, hW0⟩ : ∃ W0, (((w.alloc (.cells a.arr 30)).alloc (.cells b.arr 30)).alloc (.cells c.arr 30)) = W0 := ⟨_, rfl⟩
  have hB0 : Below w.heap.size w W0 := by rw [← hW0]; exact (((Below.refl _ w).alloc (Nat.le_refl _) _).alloc (by simp) _).alloc (by simp; omega) _
  have ra0 : Row W0 (w.heap.size) a := by
    have := ((Row.new w a).alloc (.cells b.arr 30)).alloc (.cells c.arr 30)
    rw [hW0] at this; exact this
  have rb0 : Row W0 (w.heap.size + 1) b := by
    have := (Row.new (w.alloc (.cells a.arr 30)) b).alloc (.cells c.arr 30)
    rw [World.size_alloc] at this; rw [hW0] at this; exact this
  have rc0 : Row W0 (w.heap.size + 1 + 1) c := by
    have := Row.new ((w.alloc (.cells a.arr 30)).alloc (.cells b.arr 30)) c
    rw [World.size_alloc, World.size_alloc] at this; rw [hW0] at this; exact this
  have HW0 := Lib.hid hW0
  clear hW0
  unfold Side.arr at HW0 ⊢
  go_enter Try.func6, Try.ntmps6
  go_wp2_with (fail)
  rw [HW0.out]
  unfold Side.arr at H1 H2 H3 H4
  refine (c11 _).mono ?_
  rintro e w1 ⟨rfl, hb1⟩
  have hB1 := hB0.trans (hb1.mono hB0.size)
  have ra1 := ra0.turn hb1
  obtain ⟨a10, a11, a12, a13, a14, a15⟩ := ra1.side
  have rb1 := rb0.turn hb1
  obtain ⟨b10, b11, b12, b13, b14, b15⟩ := rb1.side
  have rc1 := rc0.turn hb1
  obtain ⟨c10, c11, c12, c13, c14, c15⟩ := rc1.side
  clear hb1 hB0 ra0 rb0 rc0
  go_wp2_with (fail)
  clear a10 a11 a12 a13 a14 a15 b10 b11 b12 b13 b14 b15 c10 c11 c12 c13 c14 c15
  refine (H1.out _).mono ?_
  rintro e w2 ⟨rfl, hb2⟩
  have hB2 := hB1.trans (hb2.mono hB1.size)
  have ra2 := ra1.turn hb2
  obtain ⟨a20, a21, a22, a23, a24, a25⟩ := ra2.side
  have rb2 := rb1.turn hb2
  obtain ⟨b20, b21, b22, b23, b24, b25⟩ := rb2.side
  have rc2 := rc1.turn hb2
  obtain ⟨c20, c21, c22, c23, c24, c25⟩ := rc2.side
  clear hb2 hB1 ra1 rb1 rc1
  go_wp2_with (fail)
  clear a20 a21 a22 a23 a24 a25 b20 b21 b22 b23 b24 b25 c20 c21 c22 c23 c24 c25
  refine (H2.out _).mono ?_
  rintro e w3 ⟨rfl, hb3⟩
  have hB3 := hB2.trans (hb3.mono hB2.size)
  have ra3 := ra2.turn hb3
  obtain ⟨a30, a31, a32, a33, a34, a35⟩ := ra3.side
  have rb3 := rb2.turn hb3
  obtain ⟨b30, b31, b32, b33, b34, b35⟩ := rb3.side
  have rc3 := rc2.turn hb3
  obtain ⟨c30, c31, c32, c33, c34, c35⟩ := rc3.side
  clear hb3 hB2 ra2 rb2 rc2
  go_wp2_with (fail)
  clear a30 a31 a32 a33 a34 a35 b30 b31 b32 b33 b34 b35 c30 c31 c32 c33 c34 c35
  refine (H3.out _).mono ?_
  rintro e w4 ⟨rfl, hb4⟩
  have hB4 := hB3.trans (hb4.mono hB3.size)
  have ra4 := ra3.turn hb4
  obtain ⟨a40, a41, a42, a43, a44, a45⟩ := ra4.side
  have rb4 := rb3.turn hb4
  obtain ⟨b40, b41, b42, b43, b44, b45⟩ := rb4.side
  have rc4 := rc3.turn hb4
  obtain ⟨c40, c41, c42, c43, c44, c45⟩ := rc4.side
  clear hb4 hB3 ra3 rb3 rc3
  go_wp2_with (fail)
  clear a40 a41 a42 a43 a44 a45 b40 b41 b42 b43 b44 b45 c40 c41 c42 c43 c44 c45
  refine (H4.out _).mono ?_
  rintro e w5 ⟨rfl, hb5⟩
  have hB5 := hB4.trans (hb5.mono hB4.size)
  have ra5 := ra4.turn hb5
  obtain ⟨a50, a51, a52, a53, a54, a55⟩ := ra5.side
  have rb5 := rb4.turn hb5
  obtain ⟨b50, b51, b52, b53, b54, b55⟩ := rb5.side
  have rc5 := rc4.turn hb5
  obtain ⟨c50, c51, c52, c53, c54, c55⟩ := rc5.side
  clear hb5 hB4 ra4 rb4 rc4
  go_wp2
  all_goals go_ret
  all_goals first | exact ⟨rfl, hB5⟩ | exact absurd (side_ext (by assumption) (by assumption) (by assumption) (by assumption) (by assumption) (by assumption)) HQ.out

set_option maxRecDepth 100000 in
set_option maxHeartbeats 4000000 in
theorem two_B2a (a b c : Side) (w : World) (z v : Bool) (h : Int)
    (h1 : ∀ W, Calls Try.prog 16 #[.agg a.arr, .agg b.arr] W fun r W' => r = .returned (.tuple #[.bool false, .int .i64 0]) ∧ Below W.heap.size W W')
    (h2 : ∀ W, Calls Try.prog 16 #[.agg b.arr, .agg a.arr] W fun r W' => r = .returned (.tuple #[.bool true, .int .i64 0]) ∧ Below W.heap.size W W')
    (h3 : ∀ W, Calls Try.prog 16 #[.agg b.arr, .agg c.arr] W fun r W' => r = .returned (.tuple #[.bool z, .int .i64 110]) ∧ Below W.heap.size W W')
    (h4 : ∀ W, Calls Try.prog 16 #[.agg a.arr, .agg c.arr] W fun r W' => r = .returned (.tuple #[.bool v, .int .i64 h]) ∧ Below W.heap.size W W')
    (hq : a ≠ b) :
    Calls Try.prog 6 #[.agg a.arr, .agg b.arr, .agg c.arr] w fun e w' => e = .returned (.bool true) ∧ Below w.heap.size w w' := by
  have H1 := Lib.hid h1
  have H2 := Lib.hid h2
  have H3 := Lib.hid h3
  have H4 := Lib.hid h4
  have HQ := Lib.hid hq
  clear hq
  clear h1 h2 h3 h4
  obtain ⟨W0, hW0⟩ : ∃ W0, (((w.alloc (.cells a.arr 30)).alloc (.cells b.arr 30)).alloc (.cells c.arr 30)) = W0 := ⟨_, rfl⟩
  have hB0 : Below w.heap.size w W0 := by rw [← hW0]; exact (((Below.refl _ w).alloc (Nat.le_refl _) _).alloc (by simp) _).alloc (by simp; omega) _
  have ra0 : Row W0 (w.heap.size) a := by
    have := ((Row.new w a).alloc (.cells b.arr 30)).alloc (.cells c.arr 30)
    rw [hW0] at this; exact this
  have rb0 : Row W0 (w.heap.size + 1) b := by
    have := (Row.new (w.alloc (.cells a.arr 30)) b).alloc (.cells c.arr 30)
    rw [World.size_alloc] at this; rw [hW0] at this; exact this
  have rc0 : Row W0 (w.heap.size + 1 + 1) c := by
    have := Row.new ((w.alloc (.cells a.arr 30)).alloc (.cells b.arr 30)) c
    rw [World.size_alloc, World.size_alloc] at this; rw [hW0] at this; exact this
  have HW0 := Lib.hid hW0
  clear hW0
  unfold Side.arr at HW0 ⊢
  go_enter Try.func6, Try.ntmps6
  go_wp2_with (fail)
  rw [HW0.out]
  unfold Side.arr at H1 H2 H3 H4
  refine (c11 _).mono ?_
  rintro e w1 ⟨rfl, hb1⟩
  have hB1 := hB0.trans (hb1.mono hB0.size)
  have ra1 := ra0.turn hb1
  obtain ⟨a10, a11, a12, a13, a14, a15⟩ := ra1.side
  have rb1 := rb0.turn hb1
  obtain ⟨b10, b11, b12, b13, b14, b15⟩ := rb1.side
  have rc1 := rc0.turn hb1
  obtain ⟨c10, c11, c12, c13, c14, c15⟩ := rc1.side
  clear hb1 hB0 ra0 rb0 rc0
  go_wp2_with (fail)
  clear a10 a11 a12 a13 a14 a15 b10 b11 b12 b13 b14 b15 c10 c11 c12 c13 c14 c15
  refine (H1.out _).mono ?_
  rintro e w2 ⟨rfl, hb2⟩
  have hB2 := hB1.trans (hb2.mono hB1.size)
  have ra2 := ra1.turn hb2
  obtain ⟨a20, a21, a22, a23, a24, a25⟩ := ra2.side
  have rb2 := rb1.turn hb2
  obtain ⟨b20, b21, b22, b23, b24, b25⟩ := rb2.side
  have rc2 := rc1.turn hb2
  obtain ⟨c20, c21, c22, c23, c24, c25⟩ := rc2.side
  clear hb2 hB1 ra1 rb1 rc1
  go_wp2_with (fail)
  clear a20 a21 a22 a23 a24 a25 b20 b21 b22 b23 b24 b25 c20 c21 c22 c23 c24 c25
  refine (H2.out _).mono ?_
  rintro e w3 ⟨rfl, hb3⟩
  have hB3 := hB2.trans (hb3.mono hB2.size)
  have ra3 := ra2.turn hb3
  obtain ⟨a30, a31, a32, a33, a34, a35⟩ := ra3.side
  have rb3 := rb2.turn hb3
  obtain ⟨b30, b31, b32, b33, b34, b35⟩ := rb3.side
  have rc3 := rc2.turn hb3
  obtain ⟨c30, c31, c32, c33, c34, c35⟩ := rc3.side
  clear hb3 hB2 ra2 rb2 rc2
  go_wp2_with (fail)
  clear a30 a31 a32 a33 a34 a35 b30 b31 b32 b33 b34 b35 c30 c31 c32 c33 c34 c35
  refine (H3.out _).mono ?_
  rintro e w4 ⟨rfl, hb4⟩
  have hB4 := hB3.trans (hb4.mono hB3.size)
  have ra4 := ra3.turn hb4
  obtain ⟨a40, a41, a42, a43, a44, a45⟩ := ra4.side
  have rb4 := rb3.turn hb4
  obtain ⟨b40, b41, b42, b43, b44, b45⟩ := rb4.side
  have rc4 := rc3.turn hb4
  obtain ⟨c40, c41, c42, c43, c44, c45⟩ := rc4.side
  clear hb4 hB3 ra3 rb3 rc3
  go_wp2_with (fail)
  clear a40 a41 a42 a43 a44 a45 b40 b41 b42 b43 b44 b45 c40 c41 c42 c43 c44 c45
  refine (H4.out _).mono ?_
  rintro e w5 ⟨rfl, hb5⟩
  have hB5 := hB4.trans (hb5.mono hB4.size)
  have ra5 := ra4.turn hb5
  obtain ⟨a50, a51, a52, a53, a54, a55⟩ := ra5.side
  have rb5 := rb4.turn hb5
  obtain ⟨b50, b51, b52, b53, b54, b55⟩ := rb5.side
  have rc5 := rc4.turn hb5
  obtain ⟨c50, c51, c52, c53, c54, c55⟩ := rc5.side
  clear hb5 hB4 ra4 rb4 rc4
  go_wp2
  all_goals go_ret
  all_goals first | exact ⟨rfl, hB5⟩ | exact absurd (side_ext (by assumption) (by assumption) (by assumption) (by assumption) (by assumption) (by assumption)) HQ.out

set_option maxRecDepth 100000 in
set_option maxHeartbeats 4000000 in
theorem two_B2b (a b c : Side) (w : World) (z v : Bool)
    (h1 : ∀ W, Calls Try.prog 16 #[.agg a.arr, .agg b.arr] W fun r W' => r = .returned (.tuple #[.bool false, .int .i64 0]) ∧ Below W.heap.size W W')
    (h2 : ∀ W, Calls Try.prog 16 #[.agg b.arr, .agg a.arr] W fun r W' => r = .returned (.tuple #[.bool true, .int .i64 0]) ∧ Below W.heap.size W W')
    (h3 : ∀ W, Calls Try.prog 16 #[.agg b.arr, .agg c.arr] W fun r W' => r = .returned (.tuple #[.bool z, .int .i64 0]) ∧ Below W.heap.size W W')
    (h4 : ∀ W, Calls Try.prog 16 #[.agg a.arr, .agg c.arr] W fun r W' => r = .returned (.tuple #[.bool v, .int .i64 0]) ∧ Below W.heap.size W W')
    (hq : a ≠ b) :
    Calls Try.prog 6 #[.agg a.arr, .agg b.arr, .agg c.arr] w fun e w' => e = .returned (.bool true) ∧ Below w.heap.size w w' := by
  have H1 := Lib.hid h1
  have H2 := Lib.hid h2
  have H3 := Lib.hid h3
  have H4 := Lib.hid h4
  have HQ := Lib.hid hq
  clear hq
  clear h1 h2 h3 h4
  obtain ⟨W0, hW0⟩ : ∃ W0, (((w.alloc (.cells a.arr 30)).alloc (.cells b.arr 30)).alloc (.cells c.arr 30)) = W0 := ⟨_, rfl⟩
  have hB0 : Below w.heap.size w W0 := by rw [← hW0]; exact (((Below.refl _ w).alloc (Nat.le_refl _) _).alloc (by simp) _).alloc (by simp; omega) _
  have ra0 : Row W0 (w.heap.size) a := by
    have := ((Row.new w a).alloc (.cells b.arr 30)).alloc (.cells c.arr 30)
    rw [hW0] at this; exact this
  have rb0 : Row W0 (w.heap.size + 1) b := by
    have := (Row.new (w.alloc (.cells a.arr 30)) b).alloc (.cells c.arr 30)
    rw [World.size_alloc] at this; rw [hW0] at this; exact this
  have rc0 : Row W0 (w.heap.size + 1 + 1) c := by
    have := Row.new ((w.alloc (.cells a.arr 30)).alloc (.cells b.arr 30)) c
    rw [World.size_alloc, World.size_alloc] at this; rw [hW0] at this; exact this
  have HW0 := Lib.hid hW0
  clear hW0
  unfold Side.arr at HW0 ⊢
  go_enter Try.func6, Try.ntmps6
  go_wp2_with (fail)
  rw [HW0.out]
  unfold Side.arr at H1 H2 H3 H4
  refine (c11 _).mono ?_
  rintro e w1 ⟨rfl, hb1⟩
  have hB1 := hB0.trans (hb1.mono hB0.size)
  have ra1 := ra0.turn hb1
  obtain ⟨a10, a11, a12, a13, a14, a15⟩ := ra1.side
  have rb1 := rb0.turn hb1
  obtain ⟨b10, b11, b12, b13, b14, b15⟩ := rb1.side
  have rc1 := rc0.turn hb1
  obtain ⟨c10, c11, c12, c13, c14, c15⟩ := rc1.side
  clear hb1 hB0 ra0 rb0 rc0
  go_wp2_with (fail)
  clear a10 a11 a12 a13 a14 a15 b10 b11 b12 b13 b14 b15 c10 c11 c12 c13 c14 c15
  refine (H1.out _).mono ?_
  rintro e w2 ⟨rfl, hb2⟩
  have hB2 := hB1.trans (hb2.mono hB1.size)
  have ra2 := ra1.turn hb2
  obtain ⟨a20, a21, a22, a23, a24, a25⟩ := ra2.side
  have rb2 := rb1.turn hb2
  obtain ⟨b20, b21, b22, b23, b24, b25⟩ := rb2.side
  have rc2 := rc1.turn hb2
  obtain ⟨c20, c21, c22, c23, c24, c25⟩ := rc2.side
  clear hb2 hB1 ra1 rb1 rc1
  go_wp2_with (fail)
  clear a20 a21 a22 a23 a24 a25 b20 b21 b22 b23 b24 b25 c20 c21 c22 c23 c24 c25
  refine (H2.out _).mono ?_
  rintro e w3 ⟨rfl, hb3⟩
  have hB3 := hB2.trans (hb3.mono hB2.size)
  have ra3 := ra2.turn hb3
  obtain ⟨a30, a31, a32, a33, a34, a35⟩ := ra3.side
  have rb3 := rb2.turn hb3
  obtain ⟨b30, b31, b32, b33, b34, b35⟩ := rb3.side
  have rc3 := rc2.turn hb3
  obtain ⟨c30, c31, c32, c33, c34, c35⟩ := rc3.side
  clear hb3 hB2 ra2 rb2 rc2
  go_wp2_with (fail)
  clear a30 a31 a32 a33 a34 a35 b30 b31 b32 b33 b34 b35 c30 c31 c32 c33 c34 c35
  refine (H3.out _).mono ?_
  rintro e w4 ⟨rfl, hb4⟩
  have hB4 := hB3.trans (hb4.mono hB3.size)
  have ra4 := ra3.turn hb4
  obtain ⟨a40, a41, a42, a43, a44, a45⟩ := ra4.side
  have rb4 := rb3.turn hb4
  obtain ⟨b40, b41, b42, b43, b44, b45⟩ := rb4.side
  have rc4 := rc3.turn hb4
  obtain ⟨c40, c41, c42, c43, c44, c45⟩ := rc4.side
  clear hb4 hB3 ra3 rb3 rc3
  go_wp2_with (fail)
  clear a40 a41 a42 a43 a44 a45 b40 b41 b42 b43 b44 b45 c40 c41 c42 c43 c44 c45
  refine (H4.out _).mono ?_
  rintro e w5 ⟨rfl, hb5⟩
  have hB5 := hB4.trans (hb5.mono hB4.size)
  have ra5 := ra4.turn hb5
  obtain ⟨a50, a51, a52, a53, a54, a55⟩ := ra5.side
  have rb5 := rb4.turn hb5
  obtain ⟨b50, b51, b52, b53, b54, b55⟩ := rb5.side
  have rc5 := rc4.turn hb5
  obtain ⟨c50, c51, c52, c53, c54, c55⟩ := rc5.side
  clear hb5 hB4 ra4 rb4 rc4
  go_wp2
  all_goals go_ret
  all_goals first | exact ⟨rfl, hB5⟩ | exact absurd (side_ext (by assumption) (by assumption) (by assumption) (by assumption) (by assumption) (by assumption)) HQ.out

set_option maxRecDepth 100000 in
set_option maxHeartbeats 4000000 in
theorem two_B3a (a b c : Side) (w : World) (z v : Bool) (h : Int)
    (h1 : ∀ W, Calls Try.prog 16 #[.agg a.arr, .agg b.arr] W fun r W' => r = .returned (.tuple #[.bool false, .int .i64 0]) ∧ Below W.heap.size W W')
    (h2 : ∀ W, Calls Try.prog 16 #[.agg b.arr, .agg a.arr] W fun r W' => r = .returned (.tuple #[.bool false, .int .i64 0]) ∧ Below W.heap.size W W')
    (h3 : ∀ W, Calls Try.prog 16 #[.agg b.arr, .agg c.arr] W fun r W' => r = .returned (.tuple #[.bool z, .int .i64 110]) ∧ Below W.heap.size W W')
    (h4 : ∀ W, Calls Try.prog 16 #[.agg a.arr, .agg c.arr] W fun r W' => r = .returned (.tuple #[.bool v, .int .i64 h]) ∧ Below W.heap.size W W')
    (hq : a = b) :
    Calls Try.prog 6 #[.agg a.arr, .agg b.arr, .agg c.arr] w fun e w' => e = .returned (.bool true) ∧ Below w.heap.size w w' := by
  obtain rfl : a = b := hq
  have H1 := Lib.hid h1
  have H2 := Lib.hid h2
  have H3 := Lib.hid h3
  have H4 := Lib.hid h4
  have HQ : True := trivial
  clear h1 h2 h3 h4
  obtain ⟨W0, hW0⟩ : ∃ W0, (((w.alloc (.cells a.arr 30)).alloc (.cells a.arr 30)).alloc (.cells c.arr 30)) = W0 := ⟨_, rfl⟩
  have hB0 : Below w.heap.size w W0 := by rw [← hW0]; exact (((Below.refl _ w).alloc (Nat.le_refl _) _).alloc (by simp) _).alloc (by simp; omega) _
  have ra0 : Row W0 (w.heap.size) a := by
    have := ((Row.new w a).alloc (.cells a.arr 30)).alloc (.cells c.arr 30)
    rw [hW0] at this; exact this
  have rb0 : Row W0 (w.heap.size + 1) a := by
    have := (Row.new (w.alloc (.cells a.arr 30)) a).alloc (.cells c.arr 30)
    rw [World.size_alloc] at this; rw [hW0] at this; exact this
  have rc0 : Row W0 (w.heap.size + 1 + 1) c := by
    have := Row.new ((w.alloc (.cells a.arr 30)).alloc (.cells a.arr 30)) c
    rw [World.size_alloc, World.size_alloc] at this; rw [hW0] at this; exact this
  have HW0 := Lib.hid hW0
  clear hW0
  unfold Side.arr at HW0 ⊢
  go_enter Try.func6, Try.ntmps6
  go_wp2_with (fail)
  rw [HW0.out]
  unfold Side.arr at H1 H2 H3 H4
  refine (c11 _).mono ?_
  rintro e w1 ⟨rfl, hb1⟩
  have hB1 := hB0.trans (hb1.mono hB0.size)
  have ra1 := ra0.turn hb1
  obtain ⟨a10, a11, a12, a13, a14, a15⟩ := ra1.side
  have rb1 := rb0.turn hb1
  obtain ⟨b10, b11, b12, b13, b14, b15⟩ := rb1.side
  have rc1 := rc0.turn hb1
  obtain ⟨c10, c11, c12, c13, c14, c15⟩ := rc1.side
  clear hb1 hB0 ra0 rb0 rc0
  go_wp2_with (fail)
  clear a10 a11 a12 a13 a14 a15 b10 b11 b12 b13 b14 b15 c10 c11 c12 c13 c14 c15
  refine (H1.out _).mono ?_
  rintro e w2 ⟨rfl, hb2⟩
  have hB2 := hB1.trans (hb2.mono hB1.size)
  have ra2 := ra1.turn hb2
  obtain ⟨a20, a21, a22, a23, a24, a25⟩ := ra2.side
  have rb2 := rb1.turn hb2
  obtain ⟨b20, b21, b22, b23, b24, b25⟩ := rb2.side
  have rc2 := rc1.turn hb2
  obtain ⟨c20, c21, c22, c23, c24, c25⟩ := rc2.side
  clear hb2 hB1 ra1 rb1 rc1
  go_wp2_with (fail)
  clear a20 a21 a22 a23 a24 a25 b20 b21 b22 b23 b24 b25 c20 c21 c22 c23 c24 c25
  refine (H2.out _).mono ?_
  rintro e w3 ⟨rfl, hb3⟩
  have hB3 := hB2.trans (hb3.mono hB2.size)
  have ra3 := ra2.turn hb3
  obtain ⟨a30, a31, a32, a33, a34, a35⟩ := ra3.side
  have rb3 := rb2.turn hb3
  obtain ⟨b30, b31, b32, b33, b34, b35⟩ := rb3.side
  have rc3 := rc2.turn hb3
  obtain ⟨c30, c31, c32, c33, c34, c35⟩ := rc3.side
  clear hb3 hB2 ra2 rb2 rc2
  go_wp2_with (fail)
  clear a30 a31 a32 a33 a34 a35 b30 b31 b32 b33 b34 b35 c30 c31 c32 c33 c34 c35
  refine (H3.out _).mono ?_
  rintro e w4 ⟨rfl, hb4⟩
  have hB4 := hB3.trans (hb4.mono hB3.size)
  have ra4 := ra3.turn hb4
  obtain ⟨a40, a41, a42, a43, a44, a45⟩ := ra4.side
  have rb4 := rb3.turn hb4
  obtain ⟨b40, b41, b42, b43, b44, b45⟩ := rb4.side
  have rc4 := rc3.turn hb4
  obtain ⟨c40, c41, c42, c43, c44, c45⟩ := rc4.side
  clear hb4 hB3 ra3 rb3 rc3
  go_wp2_with (fail)
  clear a40 a41 a42 a43 a44 a45 b40 b41 b42 b43 b44 b45 c40 c41 c42 c43 c44 c45
  refine (H4.out _).mono ?_
  rintro e w5 ⟨rfl, hb5⟩
  have hB5 := hB4.trans (hb5.mono hB4.size)
  have ra5 := ra4.turn hb5
  obtain ⟨a50, a51, a52, a53, a54, a55⟩ := ra5.side
  have rb5 := rb4.turn hb5
  obtain ⟨b50, b51, b52, b53, b54, b55⟩ := rb5.side
  have rc5 := rc4.turn hb5
  obtain ⟨c50, c51, c52, c53, c54, c55⟩ := rc5.side
  clear hb5 hB4 ra4 rb4 rc4
  go_wp2
  all_goals go_ret
  all_goals exact ⟨rfl, hB5⟩

set_option maxRecDepth 100000 in
set_option maxHeartbeats 4000000 in
theorem two_B3b (a b c : Side) (w : World) (z v : Bool)
    (h1 : ∀ W, Calls Try.prog 16 #[.agg a.arr, .agg b.arr] W fun r W' => r = .returned (.tuple #[.bool false, .int .i64 0]) ∧ Below W.heap.size W W')
    (h2 : ∀ W, Calls Try.prog 16 #[.agg b.arr, .agg a.arr] W fun r W' => r = .returned (.tuple #[.bool false, .int .i64 0]) ∧ Below W.heap.size W W')
    (h3 : ∀ W, Calls Try.prog 16 #[.agg b.arr, .agg c.arr] W fun r W' => r = .returned (.tuple #[.bool z, .int .i64 0]) ∧ Below W.heap.size W W')
    (h4 : ∀ W, Calls Try.prog 16 #[.agg a.arr, .agg c.arr] W fun r W' => r = .returned (.tuple #[.bool v, .int .i64 0]) ∧ Below W.heap.size W W')
    (hq : a = b) :
    Calls Try.prog 6 #[.agg a.arr, .agg b.arr, .agg c.arr] w fun e w' => e = .returned (.bool true) ∧ Below w.heap.size w w' := by
  obtain rfl : a = b := hq
  have H1 := Lib.hid h1
  have H2 := Lib.hid h2
  have H3 := Lib.hid h3
  have H4 := Lib.hid h4
  have HQ : True := trivial
  clear h1 h2 h3 h4
  obtain ⟨W0, hW0⟩ : ∃ W0, (((w.alloc (.cells a.arr 30)).alloc (.cells a.arr 30)).alloc (.cells c.arr 30)) = W0 := ⟨_, rfl⟩
  have hB0 : Below w.heap.size w W0 := by rw [← hW0]; exact (((Below.refl _ w).alloc (Nat.le_refl _) _).alloc (by simp) _).alloc (by simp; omega) _
  have ra0 : Row W0 (w.heap.size) a := by
    have := ((Row.new w a).alloc (.cells a.arr 30)).alloc (.cells c.arr 30)
    rw [hW0] at this; exact this
  have rb0 : Row W0 (w.heap.size + 1) a := by
    have := (Row.new (w.alloc (.cells a.arr 30)) a).alloc (.cells c.arr 30)
    rw [World.size_alloc] at this; rw [hW0] at this; exact this
  have rc0 : Row W0 (w.heap.size + 1 + 1) c := by
    have := Row.new ((w.alloc (.cells a.arr 30)).alloc (.cells a.arr 30)) c
    rw [World.size_alloc, World.size_alloc] at this; rw [hW0] at this; exact this
  have HW0 := Lib.hid hW0
  clear hW0
  unfold Side.arr at HW0 ⊢
  go_enter Try.func6, Try.ntmps6
  go_wp2_with (fail)
  rw [HW0.out]
  unfold Side.arr at H1 H2 H3 H4
  refine (c11 _).mono ?_
  rintro e w1 ⟨rfl, hb1⟩
  have hB1 := hB0.trans (hb1.mono hB0.size)
  have ra1 := ra0.turn hb1
  obtain ⟨a10, a11, a12, a13, a14, a15⟩ := ra1.side
  have rb1 := rb0.turn hb1
  obtain ⟨b10, b11, b12, b13, b14, b15⟩ := rb1.side
  have rc1 := rc0.turn hb1
  obtain ⟨c10, c11, c12, c13, c14, c15⟩ := rc1.side
  clear hb1 hB0 ra0 rb0 rc0
  go_wp2_with (fail)
  clear a10 a11 a12 a13 a14 a15 b10 b11 b12 b13 b14 b15 c10 c11 c12 c13 c14 c15
  refine (H1.out _).mono ?_
  rintro e w2 ⟨rfl, hb2⟩
  have hB2 := hB1.trans (hb2.mono hB1.size)
  have ra2 := ra1.turn hb2
  obtain ⟨a20, a21, a22, a23, a24, a25⟩ := ra2.side
  have rb2 := rb1.turn hb2
  obtain ⟨b20, b21, b22, b23, b24, b25⟩ := rb2.side
  have rc2 := rc1.turn hb2
  obtain ⟨c20, c21, c22, c23, c24, c25⟩ := rc2.side
  clear hb2 hB1 ra1 rb1 rc1
  go_wp2_with (fail)
  clear a20 a21 a22 a23 a24 a25 b20 b21 b22 b23 b24 b25 c20 c21 c22 c23 c24 c25
  refine (H2.out _).mono ?_
  rintro e w3 ⟨rfl, hb3⟩
  have hB3 := hB2.trans (hb3.mono hB2.size)
  have ra3 := ra2.turn hb3
  obtain ⟨a30, a31, a32, a33, a34, a35⟩ := ra3.side
  have rb3 := rb2.turn hb3
  obtain ⟨b30, b31, b32, b33, b34, b35⟩ := rb3.side
  have rc3 := rc2.turn hb3
  obtain ⟨c30, c31, c32, c33, c34, c35⟩ := rc3.side
  clear hb3 hB2 ra2 rb2 rc2
  go_wp2_with (fail)
  clear a30 a31 a32 a33 a34 a35 b30 b31 b32 b33 b34 b35 c30 c31 c32 c33 c34 c35
  refine (H3.out _).mono ?_
  rintro e w4 ⟨rfl, hb4⟩
  have hB4 := hB3.trans (hb4.mono hB3.size)
  have ra4 := ra3.turn hb4
  obtain ⟨a40, a41, a42, a43, a44, a45⟩ := ra4.side
  have rb4 := rb3.turn hb4
  obtain ⟨b40, b41, b42, b43, b44, b45⟩ := rb4.side
  have rc4 := rc3.turn hb4
  obtain ⟨c40, c41, c42, c43, c44, c45⟩ := rc4.side
  clear hb4 hB3 ra3 rb3 rc3
  go_wp2_with (fail)
  clear a40 a41 a42 a43 a44 a45 b40 b41 b42 b43 b44 b45 c40 c41 c42 c43 c44 c45
  refine (H4.out _).mono ?_
  rintro e w5 ⟨rfl, hb5⟩
  have hB5 := hB4.trans (hb5.mono hB4.size)
  have ra5 := ra4.turn hb5
  obtain ⟨a50, a51, a52, a53, a54, a55⟩ := ra5.side
  have rb5 := rb4.turn hb5
  obtain ⟨b50, b51, b52, b53, b54, b55⟩ := rb5.side
  have rc5 := rc4.turn hb5
  obtain ⟨c50, c51, c52, c53, c54, c55⟩ := rc5.side
  clear hb5 hB4 ra4 rb4 rc4
  go_wp2
  all_goals go_ret
  all_goals exact ⟨rfl, hB5⟩

theorem okE_of {a b : Side} (h : right a = true) (h' : right b = true) : okE a b = 0 := by unfold okE; rw [h, h']; rfl
theorem okE_wrong {a b : Side} (h : (right a && right b) = false) : okE a b = 110 := by unfold okE; rw [h]; rfl
theorem winsB_of {a b : Side} (h : right a = true) (h' : right b = true) : winsB a b = decide (ord a b < 0) := by unfold winsB; rw [h, h']; rfl
theorem winsB_wrong {a b : Side} (h : (right a && right b) = false) : winsB a b = false := by unfold winsB; rw [h]; rfl

theorem two_walk (a b c : Side) (w : World) (ha : a.wf) (hb : b.wf) (hc : c.wf) :
    Calls Try.prog 6 #[.agg a.arr, .agg b.arr, .agg c.arr] w fun e w' => e = .returned (.bool true) ∧ Below w.heap.size w w' := by
  have h1 := fun W => c16 a b W ha hb
  have h2 := fun W => c16 b a W hb ha
  have h3 := fun W => c16 b c W hb hc
  have h4 := fun W => c16 a c W ha hc
  have hq : True := trivial
  cases hra : right a with
  | false =>
    rw [winsB_wrong (by rw [hra]; rfl), okE_wrong (by rw [hra]; rfl)] at h1
    rw [winsB_wrong (by rw [hra, Bool.and_false]), okE_wrong (by rw [hra, Bool.and_false])] at h2
    exact two_A a b c w _ _ _ _ h1 h2 h3 h4 hq
  | true =>
    cases hrb : right b with
    | false =>
      rw [winsB_wrong (by rw [hrb, Bool.and_false]), okE_wrong (by rw [hrb, Bool.and_false])] at h1
      rw [winsB_wrong (by rw [hrb]; rfl), okE_wrong (by rw [hrb]; rfl)] at h2
      exact two_A a b c w _ _ _ _ h1 h2 h3 h4 hq
    | true =>
      rw [winsB_of hra hrb, okE_of hra hrb] at h1
      rw [winsB_of hrb hra, okE_of hrb hra, ord_neg a b] at h2
      rcases Int.lt_trichotomy (ord a b) 0 with ho | ho | ho
      · rw [decide_eq_true ho] at h1
        rw [decide_eq_false (by omega)] at h2
        have hq' : a ≠ b := fun e => by rw [e, ord_self] at ho; omega
        cases hrc : right c with
        | false =>
          rw [okE_wrong (by rw [hrc, Bool.and_false])] at h3
          exact two_B1a a b c w _ _ _ h1 h2 h3 h4 hq'
        | true =>
          rw [okE_of hrb hrc] at h3
          rw [okE_of hra hrc] at h4
          cases hz : winsB b c with
          | false => rw [hz] at h3; exact two_B1b a b c w _ h1 h2 h3 h4 hq'
          | true =>
            rw [hz] at h3
            rw [winsB_of hrb hrc, decide_eq_true_eq] at hz
            rw [winsB_of hra hrc, decide_eq_true (ord_trans ho hz)] at h4
            exact two_B1c a b c w h1 h2 h3 h4 hq'
      · rw [decide_eq_false (by omega)] at h1
        rw [decide_eq_false (by omega)] at h2
        have hq' : a = b := ord_zero ho
        cases hrc : right c with
        | false =>
          rw [okE_wrong (by rw [hrc, Bool.and_false])] at h3
          exact two_B3a a b c w _ _ _ h1 h2 h3 h4 hq'
        | true =>
          rw [okE_of hrb hrc] at h3
          rw [okE_of hra hrc] at h4
          exact two_B3b a b c w _ _ h1 h2 h3 h4 hq'
      · rw [decide_eq_false (by omega)] at h1
        rw [decide_eq_true (by omega)] at h2
        have hq' : a ≠ b := fun e => by rw [e, ord_self] at ho; omega
        cases hrc : right c with
        | false =>
          rw [okE_wrong (by rw [hrc, Bool.and_false])] at h3
          exact two_B2a a b c w _ _ _ h1 h2 h3 h4 hq'
        | true =>
          rw [okE_of hrb hrc] at h3
          rw [okE_of hra hrc] at h4
          exact two_B2b a b c w _ _ h1 h2 h3 h4 hq'

end Go.Proofs.Ytffnnfdlelaonaa
