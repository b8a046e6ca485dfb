/- The walk of the law ContestWins by the contracts. -/
import Derived.Test.YtffnnfdlelaonaaI
namespace Go.Proofs.Ytffnnfdlelaonaa
open Go.RowKit Go.Shelf
set_option linter.unusedVariables false

set_option maxRecDepth 100000 in
set_option maxHeartbeats 4000000 in
theorem wins_walk (a b : Side) (w : World) (ha : a.wf) (hb : b.wf) :
    Calls Try.prog 5 #[.agg a.arr, .agg b.arr] w fun e w' => e = .returned (.bool true) ∧ Below w.heap.size w w' := by
  cases hra : right a <;> cases hrb : right b
  · have hw : winsB a b = false := by unfold winsB; rw [hra, hrb]; rfl
    have he : okE a b = 110 := by unfold okE; rw [hra, hrb]; rfl
    have H16 := Lib.hid (fun W => c16 a b W ha hb)
    have H17 := Lib.hid (fun W => c17 a W)
    have H17' := Lib.hid (fun W => c17 b W)
    have H18 := Lib.hid (fun W => c18 a W)
    have H18' := Lib.hid (fun W => c18 b W)
    have H19 := Lib.hid (fun W => c19 a b W)
    rw [hw, he] at H16
    rw [hra] at H17 H18
    rw [hrb] at H17' H18'
    clear hw he hra hrb ha hb
    generalize refw a b = z at *
    obtain ⟨W0, hW0⟩ : ∃ W0, ((w.alloc (.cells a.arr 30)).alloc (.cells b.arr 30)) = W0 := ⟨_, rfl⟩
    have hB0 : Below w.heap.size w W0 := by rw [← hW0]; exact ((Below.refl _ w).alloc (Nat.le_refl _) _).alloc (by simp) _
    have ra0 : Row W0 (w.heap.size) a := by
      have := (Row.new w a).alloc (.cells b.arr 30)
      rw [hW0] at this; exact this
    have rb0 : Row W0 (w.heap.size + 1) b := by
      have := Row.new (w.alloc (.cells a.arr 30)) b
      rw [World.size_alloc] at this; rw [hW0] at this; exact this
    have HW0 := Lib.hid hW0
    clear hW0
    unfold Side.arr at HW0 ⊢
    go_enter Try.func5, Try.ntmps5
    go_wp2_with (fail)
    rw [HW0.out]
    unfold Side.arr at H16 H17 H17' H18 H18' H19
    refine (c11 _).mono ?_
    rintro e w1 ⟨rfl, hb1⟩
    have hB1 := hB0.trans (hb1.mono hB0.size)
    have ra1 := ra0.turn hb1
    obtain ⟨a10, a11, a12, a13, a14, a15⟩ := ra1.side
    have rb1 := rb0.turn hb1
    obtain ⟨b10, b11, b12, b13, b14, b15⟩ := rb1.side
    clear hb1 hB0 ra0 rb0
    go_wp2_with (fail)
    clear a10 a11 a12 a13 a14 a15 b10 b11 b12 b13 b14 b15
    refine (H16.out _).mono ?_
    rintro e w2 ⟨rfl, hb2⟩
    have hB2 := hB1.trans (hb2.mono hB1.size)
    have ra2 := ra1.turn hb2
    obtain ⟨a20, a21, a22, a23, a24, a25⟩ := ra2.side
    have rb2 := rb1.turn hb2
    obtain ⟨b20, b21, b22, b23, b24, b25⟩ := rb2.side
    clear hb2 hB1 ra1 rb1
    go_wp2_with (fail)
    clear a20 a21 a22 a23 a24 a25 b20 b21 b22 b23 b24 b25
    refine (H17.out _).mono ?_
    rintro e w3 ⟨rfl, hb3⟩
    have hB3 := hB2.trans (hb3.mono hB2.size)
    have ra3 := ra2.turn hb3
    obtain ⟨a30, a31, a32, a33, a34, a35⟩ := ra3.side
    have rb3 := rb2.turn hb3
    obtain ⟨b30, b31, b32, b33, b34, b35⟩ := rb3.side
    clear hb3 hB2 ra2 rb2
    go_wp2_with (fail)
    clear a30 a31 a32 a33 a34 a35 b30 b31 b32 b33 b34 b35
    refine (H17'.out _).mono ?_
    rintro e w4 ⟨rfl, hb4⟩
    have hB4 := hB3.trans (hb4.mono hB3.size)
    have ra4 := ra3.turn hb4
    obtain ⟨a40, a41, a42, a43, a44, a45⟩ := ra4.side
    have rb4 := rb3.turn hb4
    obtain ⟨b40, b41, b42, b43, b44, b45⟩ := rb4.side
    clear hb4 hB3 ra3 rb3
    go_wp2_with (fail)
    clear a40 a41 a42 a43 a44 a45 b40 b41 b42 b43 b44 b45
    refine (H18.out _).mono ?_
    rintro e w5 ⟨rfl, hb5⟩
    have hB5 := hB4.trans (hb5.mono hB4.size)
    have ra5 := ra4.turn hb5
    obtain ⟨a50, a51, a52, a53, a54, a55⟩ := ra5.side
    have rb5 := rb4.turn hb5
    obtain ⟨b50, b51, b52, b53, b54, b55⟩ := rb5.side
    clear hb5 hB4 ra4 rb4
    go_wp2_with (fail)
    clear a50 a51 a52 a53 a54 a55 b50 b51 b52 b53 b54 b55
    refine (H18'.out _).mono ?_
    rintro e w6 ⟨rfl, hb6⟩
    have hB6 := hB5.trans (hb6.mono hB5.size)
    have ra6 := ra5.turn hb6
    obtain ⟨a60, a61, a62, a63, a64, a65⟩ := ra6.side
    have rb6 := rb5.turn hb6
    obtain ⟨b60, b61, b62, b63, b64, b65⟩ := rb6.side
    clear hb6 hB5 ra5 rb5
    go_wp2
    go_ret
    exact ⟨rfl, hB6⟩
  · have hw : winsB a b = false := by unfold winsB; rw [hra, hrb]; rfl
    have he : okE a b = 110 := by unfold okE; rw [hra, hrb]; rfl
    have H16 := Lib.hid (fun W => c16 a b W ha hb)
    have H17 := Lib.hid (fun W => c17 a W)
    have H17' := Lib.hid (fun W => c17 b W)
    have H18 := Lib.hid (fun W => c18 a W)
    have H18' := Lib.hid (fun W => c18 b W)
    have H19 := Lib.hid (fun W => c19 a b W)
    rw [hw, he] at H16
    rw [hra] at H17 H18
    rw [hrb] at H17' H18'
    clear hw he hra hrb ha hb
    generalize refw a b = z at *
    obtain ⟨W0, hW0⟩ : ∃ W0, ((w.alloc (.cells a.arr 30)).alloc (.cells b.arr 30)) = W0 := ⟨_, rfl⟩
    have hB0 : Below w.heap.size w W0 := by rw [← hW0]; exact ((Below.refl _ w).alloc (Nat.le_refl _) _).alloc (by simp) _
    have ra0 : Row W0 (w.heap.size) a := by
      have := (Row.new w a).alloc (.cells b.arr 30)
      rw [hW0] at this; exact this
    have rb0 : Row W0 (w.heap.size + 1) b := by
      have := Row.new (w.alloc (.cells a.arr 30)) b
      rw [World.size_alloc] at this; rw [hW0] at this; exact this
    have HW0 := Lib.hid hW0
    clear hW0
    unfold Side.arr at HW0 ⊢
    go_enter Try.func5, Try.ntmps5
    go_wp2_with (fail)
    rw [HW0.out]
    unfold Side.arr at H16 H17 H17' H18 H18' H19
    refine (c11 _).mono ?_
    rintro e w1 ⟨rfl, hb1⟩
    have hB1 := hB0.trans (hb1.mono hB0.size)
    have ra1 := ra0.turn hb1
    obtain ⟨a10, a11, a12, a13, a14, a15⟩ := ra1.side
    have rb1 := rb0.turn hb1
    obtain ⟨b10, b11, b12, b13, b14, b15⟩ := rb1.side
    clear hb1 hB0 ra0 rb0
    go_wp2_with (fail)
    clear a10 a11 a12 a13 a14 a15 b10 b11 b12 b13 b14 b15
    refine (H16.out _).mono ?_
    rintro e w2 ⟨rfl, hb2⟩
    have hB2 := hB1.trans (hb2.mono hB1.size)
    have ra2 := ra1.turn hb2
    obtain ⟨a20, a21, a22, a23, a24, a25⟩ := ra2.side
    have rb2 := rb1.turn hb2
    obtain ⟨b20, b21, b22, b23, b24, b25⟩ := rb2.side
    clear hb2 hB1 ra1 rb1
    go_wp2_with (fail)
    clear a20 a21 a22 a23 a24 a25 b20 b21 b22 b23 b24 b25
    refine (H17.out _).mono ?_
    rintro e w3 ⟨rfl, hb3⟩
    have hB3 := hB2.trans (hb3.mono hB2.size)
    have ra3 := ra2.turn hb3
    obtain ⟨a30, a31, a32, a33, a34, a35⟩ := ra3.side
    have rb3 := rb2.turn hb3
    obtain ⟨b30, b31, b32, b33, b34, b35⟩ := rb3.side
    clear hb3 hB2 ra2 rb2
    go_wp2_with (fail)
    clear a30 a31 a32 a33 a34 a35 b30 b31 b32 b33 b34 b35
    refine (H17'.out _).mono ?_
    rintro e w4 ⟨rfl, hb4⟩
    have hB4 := hB3.trans (hb4.mono hB3.size)
    have ra4 := ra3.turn hb4
    obtain ⟨a40, a41, a42, a43, a44, a45⟩ := ra4.side
    have rb4 := rb3.turn hb4
    obtain ⟨b40, b41, b42, b43, b44, b45⟩ := rb4.side
    clear hb4 hB3 ra3 rb3
    go_wp2_with (fail)
    clear a40 a41 a42 a43 a44 a45 b40 b41 b42 b43 b44 b45
    refine (H18.out _).mono ?_
    rintro e w5 ⟨rfl, hb5⟩
    have hB5 := hB4.trans (hb5.mono hB4.size)
    have ra5 := ra4.turn hb5
    obtain ⟨a50, a51, a52, a53, a54, a55⟩ := ra5.side
    have rb5 := rb4.turn hb5
    obtain ⟨b50, b51, b52, b53, b54, b55⟩ := rb5.side
    clear hb5 hB4 ra4 rb4
    go_wp2_with (fail)
    clear a50 a51 a52 a53 a54 a55 b50 b51 b52 b53 b54 b55
    refine (H18'.out _).mono ?_
    rintro e w6 ⟨rfl, hb6⟩
    have hB6 := hB5.trans (hb6.mono hB5.size)
    have ra6 := ra5.turn hb6
    obtain ⟨a60, a61, a62, a63, a64, a65⟩ := ra6.side
    have rb6 := rb5.turn hb6
    obtain ⟨b60, b61, b62, b63, b64, b65⟩ := rb6.side
    clear hb6 hB5 ra5 rb5
    go_wp2
    go_ret
    exact ⟨rfl, hB6⟩
  · have hw : winsB a b = false := by unfold winsB; rw [hra, hrb]; rfl
    have he : okE a b = 110 := by unfold okE; rw [hra, hrb]; rfl
    have H16 := Lib.hid (fun W => c16 a b W ha hb)
    have H17 := Lib.hid (fun W => c17 a W)
    have H17' := Lib.hid (fun W => c17 b W)
    have H18 := Lib.hid (fun W => c18 a W)
    have H18' := Lib.hid (fun W => c18 b W)
    have H19 := Lib.hid (fun W => c19 a b W)
    rw [hw, he] at H16
    rw [hra] at H17 H18
    rw [hrb] at H17' H18'
    clear hw he hra hrb ha hb
    generalize refw a b = z at *
    obtain ⟨W0, hW0⟩ : ∃ W0, ((w.alloc (.cells a.arr 30)).alloc (.cells b.arr 30)) = W0 := ⟨_, rfl⟩
    have hB0 : Below w.heap.size w W0 := by rw [← hW0]; exact ((Below.refl _ w).alloc (Nat.le_refl _) _).alloc (by simp) _
    have ra0 : Row W0 (w.heap.size) a := by
      have := (Row.new w a).alloc (.cells b.arr 30)
      rw [hW0] at this; exact this
    have rb0 : Row W0 (w.heap.size + 1) b := by
      have := Row.new (w.alloc (.cells a.arr 30)) b
      rw [World.size_alloc] at this; rw [hW0] at this; exact this
    have HW0 := Lib.hid hW0
    clear hW0
    unfold Side.arr at HW0 ⊢
    go_enter Try.func5, Try.ntmps5
    go_wp2_with (fail)
    rw [HW0.out]
    unfold Side.arr at H16 H17 H17' H18 H18' H19
    refine (c11 _).mono ?_
    rintro e w1 ⟨rfl, hb1⟩
    have hB1 := hB0.trans (hb1.mono hB0.size)
    have ra1 := ra0.turn hb1
    obtain ⟨a10, a11, a12, a13, a14, a15⟩ := ra1.side
    have rb1 := rb0.turn hb1
    obtain ⟨b10, b11, b12, b13, b14, b15⟩ := rb1.side
    clear hb1 hB0 ra0 rb0
    go_wp2_with (fail)
    clear a10 a11 a12 a13 a14 a15 b10 b11 b12 b13 b14 b15
    refine (H16.out _).mono ?_
    rintro e w2 ⟨rfl, hb2⟩
    have hB2 := hB1.trans (hb2.mono hB1.size)
    have ra2 := ra1.turn hb2
    obtain ⟨a20, a21, a22, a23, a24, a25⟩ := ra2.side
    have rb2 := rb1.turn hb2
    obtain ⟨b20, b21, b22, b23, b24, b25⟩ := rb2.side
    clear hb2 hB1 ra1 rb1
    go_wp2_with (fail)
    clear a20 a21 a22 a23 a24 a25 b20 b21 b22 b23 b24 b25
    refine (H17.out _).mono ?_
    rintro e w3 ⟨rfl, hb3⟩
    have hB3 := hB2.trans (hb3.mono hB2.size)
    have ra3 := ra2.turn hb3
    obtain ⟨a30, a31, a32, a33, a34, a35⟩ := ra3.side
    have rb3 := rb2.turn hb3
    obtain ⟨b30, b31, b32, b33, b34, b35⟩ := rb3.side
    clear hb3 hB2 ra2 rb2
    go_wp2_with (fail)
    clear a30 a31 a32 a33 a34 a35 b30 b31 b32 b33 b34 b35
    refine (H17'.out _).mono ?_
    rintro e w4 ⟨rfl, hb4⟩
    have hB4 := hB3.trans (hb4.mono hB3.size)
    have ra4 := ra3.turn hb4
    obtain ⟨a40, a41, a42, a43, a44, a45⟩ := ra4.side
    have rb4 := rb3.turn hb4
    obtain ⟨b40, b41, b42, b43, b44, b45⟩ := rb4.side
    clear hb4 hB3 ra3 rb3
    go_wp2_with (fail)
    clear a40 a41 a42 a43 a44 a45 b40 b41 b42 b43 b44 b45
    refine (H18.out _).mono ?_
    rintro e w5 ⟨rfl, hb5⟩
    have hB5 := hB4.trans (hb5.mono hB4.size)
    have ra5 := ra4.turn hb5
    obtain ⟨a50, a51, a52, a53, a54, a55⟩ := ra5.side
    have rb5 := rb4.turn hb5
    obtain ⟨b50, b51, b52, b53, b54, b55⟩ := rb5.side
    clear hb5 hB4 ra4 rb4
    go_wp2_with (fail)
    clear a50 a51 a52 a53 a54 a55 b50 b51 b52 b53 b54 b55
    refine (H18'.out _).mono ?_
    rintro e w6 ⟨rfl, hb6⟩
    have hB6 := hB5.trans (hb6.mono hB5.size)
    have ra6 := ra5.turn hb6
    obtain ⟨a60, a61, a62, a63, a64, a65⟩ := ra6.side
    have rb6 := rb5.turn hb6
    obtain ⟨b60, b61, b62, b63, b64, b65⟩ := rb6.side
    clear hb6 hB5 ra5 rb5
    go_wp2
    go_ret
    exact ⟨rfl, hB6⟩
  · have hw : winsB a b = refw a b := by unfold winsB; rw [hra, hrb, ord_ref]; rfl
    have he : okE a b = 0 := by unfold okE; rw [hra, hrb]; rfl
    have H16 := Lib.hid (fun W => c16 a b W ha hb)
    have H17 := Lib.hid (fun W => c17 a W)
    have H17' := Lib.hid (fun W => c17 b W)
    have H18 := Lib.hid (fun W => c18 a W)
    have H18' := Lib.hid (fun W => c18 b W)
    have H19 := Lib.hid (fun W => c19 a b W)
    rw [hw, he] at H16
    rw [hra] at H17 H18
    rw [hrb] at H17' H18'
    clear hw he hra hrb ha hb
    generalize refw a b = z at *
    obtain ⟨W0, hW0⟩ : ∃ W0, ((w.alloc (.cells a.arr 30)).alloc (.cells b.arr 30)) = W0 := ⟨_, rfl⟩
    have hB0 : Below w.heap.size w W0 := by rw [← hW0]; exact ((Below.refl _ w).alloc (Nat.le_refl _) _).alloc (by simp) _
    have ra0 : Row W0 (w.heap.size) a := by
      have := (Row.new w a).alloc (.cells b.arr 30)
      rw [hW0] at this; exact this
    have rb0 : Row W0 (w.heap.size + 1) b := by
      have := Row.new (w.alloc (.cells a.arr 30)) b
      rw [World.size_alloc] at this; rw [hW0] at this; exact this
    have HW0 := Lib.hid hW0
    clear hW0
    unfold Side.arr at HW0 ⊢
    go_enter Try.func5, Try.ntmps5
    go_wp2_with (fail)
    rw [HW0.out]
    unfold Side.arr at H16 H17 H17' H18 H18' H19
    refine (c11 _).mono ?_
    rintro e w1 ⟨rfl, hb1⟩
    have hB1 := hB0.trans (hb1.mono hB0.size)
    have ra1 := ra0.turn hb1
    obtain ⟨a10, a11, a12, a13, a14, a15⟩ := ra1.side
    have rb1 := rb0.turn hb1
    obtain ⟨b10, b11, b12, b13, b14, b15⟩ := rb1.side
    clear hb1 hB0 ra0 rb0
    go_wp2_with (fail)
    clear a10 a11 a12 a13 a14 a15 b10 b11 b12 b13 b14 b15
    refine (H16.out _).mono ?_
    rintro e w2 ⟨rfl, hb2⟩
    have hB2 := hB1.trans (hb2.mono hB1.size)
    have ra2 := ra1.turn hb2
    obtain ⟨a20, a21, a22, a23, a24, a25⟩ := ra2.side
    have rb2 := rb1.turn hb2
    obtain ⟨b20, b21, b22, b23, b24, b25⟩ := rb2.side
    clear hb2 hB1 ra1 rb1
    go_wp2_with (fail)
    clear a20 a21 a22 a23 a24 a25 b20 b21 b22 b23 b24 b25
    refine (H17.out _).mono ?_
    rintro e w3 ⟨rfl, hb3⟩
    have hB3 := hB2.trans (hb3.mono hB2.size)
    have ra3 := ra2.turn hb3
    obtain ⟨a30, a31, a32, a33, a34, a35⟩ := ra3.side
    have rb3 := rb2.turn hb3
    obtain ⟨b30, b31, b32, b33, b34, b35⟩ := rb3.side
    clear hb3 hB2 ra2 rb2
    go_wp2_with (fail)
    clear a30 a31 a32 a33 a34 a35 b30 b31 b32 b33 b34 b35
    refine (H17'.out _).mono ?_
    rintro e w4 ⟨rfl, hb4⟩
    have hB4 := hB3.trans (hb4.mono hB3.size)
    have ra4 := ra3.turn hb4
    obtain ⟨a40, a41, a42, a43, a44, a45⟩ := ra4.side
    have rb4 := rb3.turn hb4
    obtain ⟨b40, b41, b42, b43, b44, b45⟩ := rb4.side
    clear hb4 hB3 ra3 rb3
    go_wp2_with (fail)
    clear a40 a41 a42 a43 a44 a45 b40 b41 b42 b43 b44 b45
    refine (H18.out _).mono ?_
    rintro e w5 ⟨rfl, hb5⟩
    have hB5 := hB4.trans (hb5.mono hB4.size)
    have ra5 := ra4.turn hb5
    obtain ⟨a50, a51, a52, a53, a54, a55⟩ := ra5.side
    have rb5 := rb4.turn hb5
    obtain ⟨b50, b51, b52, b53, b54, b55⟩ := rb5.side
    clear hb5 hB4 ra4 rb4
    go_wp2_with (fail)
    clear a50 a51 a52 a53 a54 a55 b50 b51 b52 b53 b54 b55
    refine (H18'.out _).mono ?_
    rintro e w6 ⟨rfl, hb6⟩
    have hB6 := hB5.trans (hb6.mono hB5.size)
    have ra6 := ra5.turn hb6
    obtain ⟨a60, a61, a62, a63, a64, a65⟩ := ra6.side
    have rb6 := rb5.turn hb6
    obtain ⟨b60, b61, b62, b63, b64, b65⟩ := rb6.side
    clear hb6 hB5 ra5 rb5
    go_wp2_with (fail)
    clear a60 a61 a62 a63 a64 a65 b60 b61 b62 b63 b64 b65
    refine (H19.out _).mono ?_
    rintro e w7 ⟨rfl, hb7⟩
    have hB7 := hB6.trans (hb7.mono hB6.size)
    have ra7 := ra6.turn hb7
    obtain ⟨a70, a71, a72, a73, a74, a75⟩ := ra7.side
    have rb7 := rb6.turn hb7
    obtain ⟨b70, b71, b72, b73, b74, b75⟩ := rb7.side
    clear hb7 hB6 ra6 rb6
    go_wp2
    go_ret
    exact ⟨rfl, hB7⟩

end Go.Proofs.Ytffnnfdlelaonaa
