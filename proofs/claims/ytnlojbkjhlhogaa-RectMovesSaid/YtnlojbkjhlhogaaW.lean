/- The walk of the law RectMoves: any rectangle, two lengths, four more. -/
import Derived.Test.YtnlojbkjhlhogaaVD
namespace Go.Proofs.Ytnlojbkjhlhogaa
open Go Go.RowKit IV
set_option linter.unusedVariables false
theorem row_quad2 (w : World) (r : Rect) (f g k m : Int) : Hid (RRow ((w.alloc (.cells r.arr 23)).alloc (.cells #[.int .i64 f, .int .i64 g, .int .i64 k, .int .i64 m] 42)) w.heap.size r) ∧
    Hid (QRow ((w.alloc (.cells r.arr 23)).alloc (.cells #[.int .i64 f, .int .i64 g, .int .i64 k, .int .i64 m] 42)) (w.heap.size + 1) f g k m) ∧
    Hid (Below w.heap.size w ((w.alloc (.cells r.arr 23)).alloc (.cells #[.int .i64 f, .int .i64 g, .int .i64 k, .int .i64 m] 42))) := by
  have b1 := (Below.refl (w.alloc (.cells r.arr 23)).heap.size (w.alloc (.cells r.arr 23))).alloc (Nat.le_refl _) (.cells #[.int .i64 f, .int .i64 g, .int .i64 k, .int .i64 m] 42)
  have q1 := QRow.new (w.alloc (.cells r.arr 23)) f g k m
  rw [World.size_alloc] at q1
  exact ⟨Lib.hid ((RRow.new w r).turn b1), Lib.hid q1, Lib.hid (((Below.refl _ w).alloc (Nat.le_refl _) _).alloc (by simp) _)⟩

set_option maxRecDepth 100000 in
set_option maxHeartbeats 4000000 in
theorem moves_walk (r : Rect) (dx dy f g k m : Int) (w : World) (_ : -9223372036854775808 ≤ dx ∧ dx ≤ 9223372036854775807) (_ : -9223372036854775808 ≤ dy ∧ dy ≤ 9223372036854775807) : Calls Try.prog 9 #[.agg r.arr, .int .i64 dx, .int .i64 dy, .agg #[.int .i64 f, .int .i64 g, .int .i64 k, .int .i64 m]] w fun e w' => e = .returned (.bool true) ∧ Below w.heap.size w w' := by
  obtain ⟨R0_0, R1_0, HB0⟩ := row_quad2 w r f g k m
  have C1 := Lib.hid (fun W => c21 r dx dy W)
  have C2 := Lib.hid (fun W => c22 r dx dy W)
  have C3 := Lib.hid (fun W => c23 r f g k m W)
  have C4 := Lib.hid (fun W => c24 r f g k m W)
  generalize moved r dx dy = mv at *
  generalize erV r dx dy = em at *
  generalize inset r f g k m = si at *
  generalize erI r f g k m = ei at *
  obtain ⟨x, y, u, v⟩ := r
  obtain ⟨a0, a1, a2, a3⟩ := mv
  obtain ⟨i0, i1, i2, i3⟩ := si
  unfold Rect.arr at *
  dsimp only at *
  go_enter Try.func9, Try.ntmps9
  go_wp2_with (fail)
  generalize ((w.alloc (.cells #[.int .i64 x, .int .i64 y, .int .i64 u, .int .i64 v] 23)).alloc (.cells #[.int .i64 f, .int .i64 g, .int .i64 k, .int .i64 m] 42)) = w0 at *
  refine (shown w0).mono ?_
  rintro e w1 ⟨rfl, hb⟩
  have R0_1 := Lib.hid (R0_0.out.turn hb)
  have R1_1 := Lib.hid (R1_0.out.turn hb)
  have HB1 := Lib.hid (HB0.out.trans (hb.mono HB0.out.size))
  clear R0_0 R1_0 HB0
  clear hb
  have p0_0 : w1.cell? ⟨w.heap.size, 0, none⟩ = some (.int .i64 x) := R0_1.out.cells.1
  have p0_1 : w1.cell? ⟨w.heap.size, 1, none⟩ = some (.int .i64 y) := R0_1.out.cells.2.1
  have p0_2 : w1.cell? ⟨w.heap.size, 2, none⟩ = some (.int .i64 u) := R0_1.out.cells.2.2.1
  have p0_3 : w1.cell? ⟨w.heap.size, 3, none⟩ = some (.int .i64 v) := R0_1.out.cells.2.2.2
  go_wp2_with (fail)
  clear p0_0 p0_1 p0_2 p0_3
  refine (C1.out _).mono ?_
  rintro e w2 ⟨rfl, hb⟩
  have hbb := hb.trans (((Below.refl _ w2).alloc (Nat.le_refl _) (.cells #[.int .i64 a0, .int .i64 a1, .int .i64 a2, .int .i64 a3] 23)).mono hb.size)
  have R0_2 := Lib.hid (R0_1.out.turn hbb)
  have R1_2 := Lib.hid (R1_1.out.turn hbb)
  have R2_2 := Lib.hid (RRow.new w2 ⟨a0, a1, a2, a3⟩)
  try unfold Rect.arr at R2_2
  try dsimp only at R2_2
  have HB2 := Lib.hid (HB1.out.trans (hbb.mono HB1.out.size))
  clear R0_1 R1_1 HB1
  clear hb hbb
  have p0_0 : (w2.alloc (.cells #[.int .i64 a0, .int .i64 a1, .int .i64 a2, .int .i64 a3] 23)).cell? ⟨w.heap.size, 0, none⟩ = some (.int .i64 x) := R0_2.out.cells.1
  have p0_1 : (w2.alloc (.cells #[.int .i64 a0, .int .i64 a1, .int .i64 a2, .int .i64 a3] 23)).cell? ⟨w.heap.size, 1, none⟩ = some (.int .i64 y) := R0_2.out.cells.2.1
  have p0_2 : (w2.alloc (.cells #[.int .i64 a0, .int .i64 a1, .int .i64 a2, .int .i64 a3] 23)).cell? ⟨w.heap.size, 2, none⟩ = some (.int .i64 u) := R0_2.out.cells.2.2.1
  have p0_3 : (w2.alloc (.cells #[.int .i64 a0, .int .i64 a1, .int .i64 a2, .int .i64 a3] 23)).cell? ⟨w.heap.size, 3, none⟩ = some (.int .i64 v) := R0_2.out.cells.2.2.2
  go_wp2_with (fail)
  clear p0_0 p0_1 p0_2 p0_3
  generalize hq : w2.alloc (.cells #[.int .i64 a0, .int .i64 a1, .int .i64 a2, .int .i64 a3] 23) = w2' at *
  clear hq
  generalize w2.heap.size = bw2 at *
  refine (C2.out _).mono ?_
  rintro e w3 ⟨rfl, hb⟩
  have hbb := hb.trans (((Below.refl _ w3).alloc (Nat.le_refl _) (.cells #[.int .i64 a0, .int .i64 a1, .int .i64 a2, .int .i64 a3] 23)).mono hb.size)
  have R0_3 := Lib.hid (R0_2.out.turn hbb)
  have R1_3 := Lib.hid (R1_2.out.turn hbb)
  have R2_3 := Lib.hid (R2_2.out.turn hbb)
  have R3_3 := Lib.hid (RRow.new w3 ⟨a0, a1, a2, a3⟩)
  try unfold Rect.arr at R3_3
  try dsimp only at R3_3
  have HB3 := Lib.hid (HB2.out.trans (hbb.mono HB2.out.size))
  clear R0_2 R1_2 R2_2 HB2
  clear hb hbb
  have p0_0 : (w3.alloc (.cells #[.int .i64 a0, .int .i64 a1, .int .i64 a2, .int .i64 a3] 23)).cell? ⟨w.heap.size, 0, none⟩ = some (.int .i64 x) := R0_3.out.cells.1
  have p0_1 : (w3.alloc (.cells #[.int .i64 a0, .int .i64 a1, .int .i64 a2, .int .i64 a3] 23)).cell? ⟨w.heap.size, 1, none⟩ = some (.int .i64 y) := R0_3.out.cells.2.1
  have p0_2 : (w3.alloc (.cells #[.int .i64 a0, .int .i64 a1, .int .i64 a2, .int .i64 a3] 23)).cell? ⟨w.heap.size, 2, none⟩ = some (.int .i64 u) := R0_3.out.cells.2.2.1
  have p0_3 : (w3.alloc (.cells #[.int .i64 a0, .int .i64 a1, .int .i64 a2, .int .i64 a3] 23)).cell? ⟨w.heap.size, 3, none⟩ = some (.int .i64 v) := R0_3.out.cells.2.2.2
  have p1_0 : (w3.alloc (.cells #[.int .i64 a0, .int .i64 a1, .int .i64 a2, .int .i64 a3] 23)).cell? ⟨w.heap.size + 1, 0, none⟩ = some (.int .i64 f) := R1_3.out.cells.1
  have p1_1 : (w3.alloc (.cells #[.int .i64 a0, .int .i64 a1, .int .i64 a2, .int .i64 a3] 23)).cell? ⟨w.heap.size + 1, 1, none⟩ = some (.int .i64 g) := R1_3.out.cells.2.1
  have p1_2 : (w3.alloc (.cells #[.int .i64 a0, .int .i64 a1, .int .i64 a2, .int .i64 a3] 23)).cell? ⟨w.heap.size + 1, 2, none⟩ = some (.int .i64 k) := R1_3.out.cells.2.2.1
  have p1_3 : (w3.alloc (.cells #[.int .i64 a0, .int .i64 a1, .int .i64 a2, .int .i64 a3] 23)).cell? ⟨w.heap.size + 1, 3, none⟩ = some (.int .i64 m) := R1_3.out.cells.2.2.2
  go_wp2_with (fail)
  clear p0_0 p0_1 p0_2 p0_3 p1_0 p1_1 p1_2 p1_3
  generalize hq : w3.alloc (.cells #[.int .i64 a0, .int .i64 a1, .int .i64 a2, .int .i64 a3] 23) = w3' at *
  clear hq
  generalize w3.heap.size = bw3 at *
  refine (C3.out _).mono ?_
  rintro e w4 ⟨rfl, hb⟩
  have hbb := hb.trans (((Below.refl _ w4).alloc (Nat.le_refl _) (.cells #[.int .i64 i0, .int .i64 i1, .int .i64 i2, .int .i64 i3] 23)).mono hb.size)
  have R0_4 := Lib.hid (R0_3.out.turn hbb)
  have R1_4 := Lib.hid (R1_3.out.turn hbb)
  have R2_4 := Lib.hid (R2_3.out.turn hbb)
  have R3_4 := Lib.hid (R3_3.out.turn hbb)
  have R4_4 := Lib.hid (RRow.new w4 ⟨i0, i1, i2, i3⟩)
  try unfold Rect.arr at R4_4
  try dsimp only at R4_4
  have HB4 := Lib.hid (HB3.out.trans (hbb.mono HB3.out.size))
  clear R0_3 R1_3 R2_3 R3_3 HB3
  clear hb hbb
  have p0_0 : (w4.alloc (.cells #[.int .i64 i0, .int .i64 i1, .int .i64 i2, .int .i64 i3] 23)).cell? ⟨w.heap.size, 0, none⟩ = some (.int .i64 x) := R0_4.out.cells.1
  have p0_1 : (w4.alloc (.cells #[.int .i64 i0, .int .i64 i1, .int .i64 i2, .int .i64 i3] 23)).cell? ⟨w.heap.size, 1, none⟩ = some (.int .i64 y) := R0_4.out.cells.2.1
  have p0_2 : (w4.alloc (.cells #[.int .i64 i0, .int .i64 i1, .int .i64 i2, .int .i64 i3] 23)).cell? ⟨w.heap.size, 2, none⟩ = some (.int .i64 u) := R0_4.out.cells.2.2.1
  have p0_3 : (w4.alloc (.cells #[.int .i64 i0, .int .i64 i1, .int .i64 i2, .int .i64 i3] 23)).cell? ⟨w.heap.size, 3, none⟩ = some (.int .i64 v) := R0_4.out.cells.2.2.2
  have p1_0 : (w4.alloc (.cells #[.int .i64 i0, .int .i64 i1, .int .i64 i2, .int .i64 i3] 23)).cell? ⟨w.heap.size + 1, 0, none⟩ = some (.int .i64 f) := R1_4.out.cells.1
  have p1_1 : (w4.alloc (.cells #[.int .i64 i0, .int .i64 i1, .int .i64 i2, .int .i64 i3] 23)).cell? ⟨w.heap.size + 1, 1, none⟩ = some (.int .i64 g) := R1_4.out.cells.2.1
  have p1_2 : (w4.alloc (.cells #[.int .i64 i0, .int .i64 i1, .int .i64 i2, .int .i64 i3] 23)).cell? ⟨w.heap.size + 1, 2, none⟩ = some (.int .i64 k) := R1_4.out.cells.2.2.1
  have p1_3 : (w4.alloc (.cells #[.int .i64 i0, .int .i64 i1, .int .i64 i2, .int .i64 i3] 23)).cell? ⟨w.heap.size + 1, 3, none⟩ = some (.int .i64 m) := R1_4.out.cells.2.2.2
  go_wp2_with (fail)
  clear p0_0 p0_1 p0_2 p0_3 p1_0 p1_1 p1_2 p1_3
  generalize hq : w4.alloc (.cells #[.int .i64 i0, .int .i64 i1, .int .i64 i2, .int .i64 i3] 23) = w4' at *
  clear hq
  generalize w4.heap.size = bw4 at *
  refine (C4.out _).mono ?_
  rintro e w5 ⟨rfl, hb⟩
  have hbb := hb.trans (((Below.refl _ w5).alloc (Nat.le_refl _) (.cells #[.int .i64 i0, .int .i64 i1, .int .i64 i2, .int .i64 i3] 23)).mono hb.size)
  have R0_5 := Lib.hid (R0_4.out.turn hbb)
  have R1_5 := Lib.hid (R1_4.out.turn hbb)
  have R2_5 := Lib.hid (R2_4.out.turn hbb)
  have R3_5 := Lib.hid (R3_4.out.turn hbb)
  have R4_5 := Lib.hid (R4_4.out.turn hbb)
  have R5_5 := Lib.hid (RRow.new w5 ⟨i0, i1, i2, i3⟩)
  try unfold Rect.arr at R5_5
  try dsimp only at R5_5
  have HB5 := Lib.hid (HB4.out.trans (hbb.mono HB4.out.size))
  clear R0_4 R1_4 R2_4 R3_4 R4_4 HB4
  clear hb hbb
  have p0_0 : (w5.alloc (.cells #[.int .i64 i0, .int .i64 i1, .int .i64 i2, .int .i64 i3] 23)).cell? ⟨w.heap.size, 0, none⟩ = some (.int .i64 x) := R0_5.out.cells.1
  have p0_1 : (w5.alloc (.cells #[.int .i64 i0, .int .i64 i1, .int .i64 i2, .int .i64 i3] 23)).cell? ⟨w.heap.size, 1, none⟩ = some (.int .i64 y) := R0_5.out.cells.2.1
  have p0_2 : (w5.alloc (.cells #[.int .i64 i0, .int .i64 i1, .int .i64 i2, .int .i64 i3] 23)).cell? ⟨w.heap.size, 2, none⟩ = some (.int .i64 u) := R0_5.out.cells.2.2.1
  have p0_3 : (w5.alloc (.cells #[.int .i64 i0, .int .i64 i1, .int .i64 i2, .int .i64 i3] 23)).cell? ⟨w.heap.size, 3, none⟩ = some (.int .i64 v) := R0_5.out.cells.2.2.2
  have p1_0 : (w5.alloc (.cells #[.int .i64 i0, .int .i64 i1, .int .i64 i2, .int .i64 i3] 23)).cell? ⟨w.heap.size + 1, 0, none⟩ = some (.int .i64 f) := R1_5.out.cells.1
  have p1_1 : (w5.alloc (.cells #[.int .i64 i0, .int .i64 i1, .int .i64 i2, .int .i64 i3] 23)).cell? ⟨w.heap.size + 1, 1, none⟩ = some (.int .i64 g) := R1_5.out.cells.2.1
  have p1_2 : (w5.alloc (.cells #[.int .i64 i0, .int .i64 i1, .int .i64 i2, .int .i64 i3] 23)).cell? ⟨w.heap.size + 1, 2, none⟩ = some (.int .i64 k) := R1_5.out.cells.2.2.1
  have p1_3 : (w5.alloc (.cells #[.int .i64 i0, .int .i64 i1, .int .i64 i2, .int .i64 i3] 23)).cell? ⟨w.heap.size + 1, 3, none⟩ = some (.int .i64 m) := R1_5.out.cells.2.2.2
  have p2_0 : (w5.alloc (.cells #[.int .i64 i0, .int .i64 i1, .int .i64 i2, .int .i64 i3] 23)).cell? ⟨bw2, 0, none⟩ = some (.int .i64 a0) := R2_5.out.cells.1
  have p2_1 : (w5.alloc (.cells #[.int .i64 i0, .int .i64 i1, .int .i64 i2, .int .i64 i3] 23)).cell? ⟨bw2, 1, none⟩ = some (.int .i64 a1) := R2_5.out.cells.2.1
  have p2_2 : (w5.alloc (.cells #[.int .i64 i0, .int .i64 i1, .int .i64 i2, .int .i64 i3] 23)).cell? ⟨bw2, 2, none⟩ = some (.int .i64 a2) := R2_5.out.cells.2.2.1
  have p2_3 : (w5.alloc (.cells #[.int .i64 i0, .int .i64 i1, .int .i64 i2, .int .i64 i3] 23)).cell? ⟨bw2, 3, none⟩ = some (.int .i64 a3) := R2_5.out.cells.2.2.2
  have p3_0 : (w5.alloc (.cells #[.int .i64 i0, .int .i64 i1, .int .i64 i2, .int .i64 i3] 23)).cell? ⟨bw3, 0, none⟩ = some (.int .i64 a0) := R3_5.out.cells.1
  have p3_1 : (w5.alloc (.cells #[.int .i64 i0, .int .i64 i1, .int .i64 i2, .int .i64 i3] 23)).cell? ⟨bw3, 1, none⟩ = some (.int .i64 a1) := R3_5.out.cells.2.1
  have p3_2 : (w5.alloc (.cells #[.int .i64 i0, .int .i64 i1, .int .i64 i2, .int .i64 i3] 23)).cell? ⟨bw3, 2, none⟩ = some (.int .i64 a2) := R3_5.out.cells.2.2.1
  have p3_3 : (w5.alloc (.cells #[.int .i64 i0, .int .i64 i1, .int .i64 i2, .int .i64 i3] 23)).cell? ⟨bw3, 3, none⟩ = some (.int .i64 a3) := R3_5.out.cells.2.2.2
  have p4_0 : (w5.alloc (.cells #[.int .i64 i0, .int .i64 i1, .int .i64 i2, .int .i64 i3] 23)).cell? ⟨bw4, 0, none⟩ = some (.int .i64 i0) := R4_5.out.cells.1
  have p4_1 : (w5.alloc (.cells #[.int .i64 i0, .int .i64 i1, .int .i64 i2, .int .i64 i3] 23)).cell? ⟨bw4, 1, none⟩ = some (.int .i64 i1) := R4_5.out.cells.2.1
  have p4_2 : (w5.alloc (.cells #[.int .i64 i0, .int .i64 i1, .int .i64 i2, .int .i64 i3] 23)).cell? ⟨bw4, 2, none⟩ = some (.int .i64 i2) := R4_5.out.cells.2.2.1
  have p4_3 : (w5.alloc (.cells #[.int .i64 i0, .int .i64 i1, .int .i64 i2, .int .i64 i3] 23)).cell? ⟨bw4, 3, none⟩ = some (.int .i64 i3) := R4_5.out.cells.2.2.2
  have p5_0 : (w5.alloc (.cells #[.int .i64 i0, .int .i64 i1, .int .i64 i2, .int .i64 i3] 23)).cell? ⟨w5.heap.size, 0, none⟩ = some (.int .i64 i0) := R5_5.out.cells.1
  have p5_1 : (w5.alloc (.cells #[.int .i64 i0, .int .i64 i1, .int .i64 i2, .int .i64 i3] 23)).cell? ⟨w5.heap.size, 1, none⟩ = some (.int .i64 i1) := R5_5.out.cells.2.1
  have p5_2 : (w5.alloc (.cells #[.int .i64 i0, .int .i64 i1, .int .i64 i2, .int .i64 i3] 23)).cell? ⟨w5.heap.size, 2, none⟩ = some (.int .i64 i2) := R5_5.out.cells.2.2.1
  have p5_3 : (w5.alloc (.cells #[.int .i64 i0, .int .i64 i1, .int .i64 i2, .int .i64 i3] 23)).cell? ⟨w5.heap.size, 3, none⟩ = some (.int .i64 i3) := R5_5.out.cells.2.2.2
  clear C1 C2 C3 C4
  go_wp2_with (fail)
  go_ret
  exact ⟨rfl, HB5.out⟩
end Go.Proofs.Ytnlojbkjhlhogaa
