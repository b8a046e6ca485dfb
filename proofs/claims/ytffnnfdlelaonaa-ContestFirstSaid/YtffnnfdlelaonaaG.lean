/- The contract of purflinglaw11.shown. -/
import Derived.Test.YtffnnfdlelaonaaF
namespace Go.Proofs.Ytffnnfdlelaonaa
open Go.RowKit Go.Shelf
set_option linter.unusedVariables false

set_option maxHeartbeats 2000000 in
/-- purflinglaw11.shown -/
theorem c11 (w : World) : Calls Try.prog 11 #[] w fun e w' => e = .returned (.bool true) ∧ Below w.heap.size w w' := by
  have hq1 := Lib.hid (fun W => eq30 sNone sNone W)
  have hq2 := Lib.hid (fun W => eq30 sTwo sTwo W)
  obtain ⟨W0, hW0⟩ : ∃ W0, ((w.alloc (.cells sTwo.arr 30)).alloc (.cells sOne.arr 30)).alloc (.cells sNone.arr 30) = W0 := ⟨_, rfl⟩
  have hsz : W0.heap.size = w.heap.size + 1 + 1 + 1 := by rw [← hW0]; simp
  have hB0 : Below w.heap.size w W0 := by rw [← hW0]; exact (((Below.refl _ w).alloc (Nat.le_refl _) _).alloc (by simp) _).alloc (by simp; omega) _
  have r1 : Row W0 w.heap.size sTwo := by rw [← hW0]; exact ((Row.new w sTwo).alloc _).alloc _
  have r2 : Row W0 (w.heap.size + 1) sOne := by
    have := (Row.new (w.alloc (.cells sTwo.arr 30)) sOne).alloc (.cells sNone.arr 30)
    rw [World.size_alloc, hW0] at this; exact this
  have r3 : Row W0 (w.heap.size + 1 + 1) sNone := by
    have := Row.new ((w.alloc (.cells sTwo.arr 30)).alloc (.cells sOne.arr 30)) sNone
    rw [World.size_alloc, World.size_alloc, hW0] at this; exact this
  have H15a := h15a W0
  rw [hsz, ← hW0] at H15a
  have h15 := Lib.hid H15a
  clear H15a
  have hR1 := Lib.hid r1
  have hR2 := Lib.hid r2
  have hR3 := Lib.hid r3
  have HW0 := Lib.hid hW0
  have HB0 := Lib.hid hB0
  have H15e : ∀ W, Calls Try.prog 15 #[.slice none 0 0] W fun e w' => e = .returned (.tuple #[.agg #[.int .i64 0, .int .i64 0, .int .u32 0, .int .i64 0, .int .i64 0, .int .i64 0], .int .i64 110]) ∧ Below W.heap.size W w' := fun W => c15_empty none 0 W
  have h15e := Lib.hid H15e
  clear H15e
  have Hsz := Lib.hid hsz
  clear r1 r2 r3 hW0 hsz hB0
  simp only [Side.arr, sTwo, sOne, sNone] at h15
  go_enter Try.func11, Try.ntmps11
  go_wp2_with (fail)
  refine h15.out.mono ?_
  rintro e w1 ⟨rfl, hb1⟩
  have hsz := Hsz.out
  have hb1' : Below (w.heap.size + 1 + 1 + 1 + 1) (W0.alloc (.cells #[.int .i64 3, .int .i64 2, .int .u32 0, .int .i64 0, .int .i64 0, .int .i64 0, .int .i64 2, .int .i64 1, .int .u32 0, .int .i64 0, .int .i64 0, .int .i64 0, .int .i64 1, .int .i64 0, .int .u32 0, .int .i64 5, .int .i64 0, .int .i64 0] 30)) w1 := by rw [← HW0.out]; exact hb1
  have hB1 : Below w.heap.size w w1 := (HB0.out.alloc (by omega) _).trans (hb1'.mono (by omega))
  have hs1 := hb1'.size
  rw [World.size_alloc, hsz] at hs1
  have b1 := ((hR1.out.alloc (.cells #[.int .i64 3, .int .i64 2, .int .u32 0, .int .i64 0, .int .i64 0, .int .i64 0, .int .i64 2, .int .i64 1, .int .u32 0, .int .i64 0, .int .i64 0, .int .i64 0, .int .i64 1, .int .i64 0, .int .u32 0, .int .i64 5, .int .i64 0, .int .i64 0] 30)).below hb1' (by omega)).alloc (.cells sNone.arr 30)
  have b2 := ((hR2.out.alloc (.cells #[.int .i64 3, .int .i64 2, .int .u32 0, .int .i64 0, .int .i64 0, .int .i64 0, .int .i64 2, .int .i64 1, .int .u32 0, .int .i64 0, .int .i64 0, .int .i64 0, .int .i64 1, .int .i64 0, .int .u32 0, .int .i64 5, .int .i64 0, .int .i64 0] 30)).below hb1' (by omega)).alloc (.cells sNone.arr 30)
  have b3 := ((hR3.out.alloc (.cells #[.int .i64 3, .int .i64 2, .int .u32 0, .int .i64 0, .int .i64 0, .int .i64 0, .int .i64 2, .int .i64 1, .int .u32 0, .int .i64 0, .int .i64 0, .int .i64 0, .int .i64 1, .int .i64 0, .int .u32 0, .int .i64 5, .int .i64 0, .int .i64 0] 30)).below hb1' (by omega)).alloc (.cells sNone.arr 30)
  have b4 := Row.new w1 sNone
  clear hb1
  have h15' := h15b (w1.alloc (.cells sNone.arr 30))
  rw [World.size_alloc] at h15'
  have H15 := Lib.hid h15'
  clear h15'
  obtain ⟨m0, m1, m2, m3, m4, m5⟩ := b2.side
  obtain ⟨n0, n1, n2, n3, n4, n5⟩ := b1.side
  simp only [Side.arr, sNone, sOne, sTwo] at H15 m0 m1 m2 m3 m4 m5 n0 n1 n2 n3 n4 n5 hq1 hq2
  go_wp2_with (fail)
  refine H15.out.mono ?_
  rintro e w2 ⟨rfl, hb2⟩
  clear m0 m1 m2 m3 m4 m5 n0 n1 n2 n3 n4 n5
  have hb2' : Below (w1.heap.size + 1 + 1) ((w1.alloc (.cells sNone.arr 30)).alloc (.cells #[.int .i64 2, .int .i64 1, .int .u32 0, .int .i64 0, .int .i64 0, .int .i64 0, .int .i64 3, .int .i64 2, .int .u32 0, .int .i64 0, .int .i64 0, .int .i64 0] 30)) w2 := hb2
  clear hb2
  have hs2 := hb2'.size
  rw [World.size_alloc, World.size_alloc] at hs2
  have hB2 : Below w.heap.size w w2 := ((hB1.alloc (by omega) _).alloc (by simp; omega) _).trans (hb2'.mono (by omega))
  have d1 := ((b1.alloc (.cells #[.int .i64 2, .int .i64 1, .int .u32 0, .int .i64 0, .int .i64 0, .int .i64 0, .int .i64 3, .int .i64 2, .int .u32 0, .int .i64 0, .int .i64 0, .int .i64 0] 30)).below hb2' (by omega)).alloc (.cells sTwo.arr 30)
  have d3 := ((b3.alloc (.cells #[.int .i64 2, .int .i64 1, .int .u32 0, .int .i64 0, .int .i64 0, .int .i64 0, .int .i64 3, .int .i64 2, .int .u32 0, .int .i64 0, .int .i64 0, .int .i64 0] 30)).below hb2' (by omega)).alloc (.cells sTwo.arr 30)
  have d4 := ((b4.alloc (.cells #[.int .i64 2, .int .i64 1, .int .u32 0, .int .i64 0, .int .i64 0, .int .i64 0, .int .i64 3, .int .i64 2, .int .u32 0, .int .i64 0, .int .i64 0, .int .i64 0] 30)).below hb2' (by omega)).alloc (.cells sTwo.arr 30)
  have d6 := Row.new w2 sTwo
  go_wp2_with (fail)
  refine (h15e.out _).mono ?_
  rintro e w3 ⟨rfl, hb3⟩
  have hb3' : Below (w2.heap.size + 1) (w2.alloc (.cells sTwo.arr 30)) w3 := by rw [← World.size_alloc w2 (.cells sTwo.arr 30)]; exact hb3
  clear hb3
  have hs3 := hb3'.size
  rw [World.size_alloc] at hs3
  have hB3 : Below w.heap.size w w3 := (hB2.alloc (by omega) _).trans (hb3'.mono (by omega))
  have f1 := (d1.below hb3' (by omega)).alloc (.cells #[.int .i64 0, .int .i64 0, .int .u32 0, .int .i64 0, .int .i64 0, .int .i64 0] 30)
  have f3 := (d3.below hb3' (by omega)).alloc (.cells #[.int .i64 0, .int .i64 0, .int .u32 0, .int .i64 0, .int .i64 0, .int .i64 0] 30)
  have f4 := (d4.below hb3' (by omega)).alloc (.cells #[.int .i64 0, .int .i64 0, .int .u32 0, .int .i64 0, .int .i64 0, .int .i64 0] 30)
  have f6 := (d6.below hb3' (by omega)).alloc (.cells #[.int .i64 0, .int .i64 0, .int .u32 0, .int .i64 0, .int .i64 0, .int .i64 0] 30)
  obtain ⟨m0, m1, m2, m3, m4, m5⟩ := f1.side
  obtain ⟨n0, n1, n2, n3, n4, n5⟩ := f3.side
  obtain ⟨o0, o1, o2, o3, o4, o5⟩ := f4.side
  obtain ⟨p0, p1, p2, p3, p4, p5⟩ := f6.side
  have q1 := hq1.out
  have q2 := hq2.out
  have h12 := fun W => c12 3 true W (by omega)
  simp only [sNone, sTwo] at m0 m1 m2 m3 m4 m5 n0 n1 n2 n3 n4 n5 o0 o1 o2 o3 o4 o5 p0 p1 p2 p3 p4 p5 q1 q2
  have H12 := Lib.hid h12
  have HB3 := Lib.hid hB3
  clear hB1 hB2 hB3 h12 hb1' hb2' hb3' b1 b2 b3 b4 d1 d3 d4 d6 f1 f3 f4 f6
  go_wp2_with (fail)
  refine (H12.out _).mono ?_
  rintro e w4 ⟨rfl, rfl⟩
  go_wp2
  go_ret
  exact ⟨rfl, HB3.out.alloc HB3.out.size _⟩

end Go.Proofs.Ytffnnfdlelaonaa
