/- The walk of the law RectAround: any rectangles. -/
import Derived.Test.YtnlojbkjhlhogaaSB
namespace Go.Proofs.Ytnlojbkjhlhogaa
open Go Go.RowKit IV
set_option linter.unusedVariables false

set_option maxRecDepth 100000 in
set_option maxHeartbeats 4000000 in
theorem around_walk (A : Option Addr) (xs : List Rect) (c : Nat) (w : World) (hx : Rects w A xs) (hc : xs.length ≤ c) (hl : xs.length ≤ 17592186044416) :
    Calls Try.prog 4 #[.slice A xs.length c] w fun e w' => e = .returned (.bool true) ∧ Below w.heap.size w w' := by
  have HX := Lib.hid (hx.take 60)
  have HX0 := Lib.hid hx
  have hl6 : (xs.take 60).length ≤ 60 := by rw [List.length_take]; omega
  have C1 := Lib.hid (fun W => c17 A xs c W hl hc)
  have C2 := Lib.hid (fun W h => c16 A (xs.take 60) c W h (by omega))
  have C3 := Lib.hid (fun W h => c18 A (xs.take 60) c W h (by omega))
  clear hx hc
  generalize around (xs.take 60) = ar at *
  generalize erA (xs.take 60) = er at *
  generalize xs.take 60 = ys at *
  obtain ⟨a0, a1, a2, a3⟩ := ar
  unfold Rect.arr at *
  dsimp only at *
  go_enter Try.func4, Try.ntmps4
  go_wp2_with (fail)
  refine (shown w).mono ?_
  rintro e w1 ⟨rfl, hb⟩
  have HB0 := Lib.hid hb
  have HY1 := Lib.hid (HX.out.below hb)
  clear hb
  go_wp2_with (fail)
  refine (C1.out _).mono ?_
  rintro e w2 ⟨rfl, rfl⟩
  go_wp2_with (fail)
  refine (C2.out _ HY1.out).mono ?_
  rintro e w3 ⟨rfl, hb⟩
  have hbb := hb.trans (((Below.refl _ w3).alloc (Nat.le_refl _) (.cells #[.int .i64 a0, .int .i64 a1, .int .i64 a2, .int .i64 a3] 23)).mono hb.size)
  have HY2 := Lib.hid (HY1.out.below hbb)
  have R0_1 := Lib.hid (RRow.new w3 ⟨a0, a1, a2, a3⟩)
  try unfold Rect.arr at R0_1
  try dsimp only at R0_1
  have HB1 := Lib.hid (HB0.out.trans (hbb.mono HB0.out.size))
  clear  HB0
  clear hb hbb HY1
  have p0_0 : (w3.alloc (.cells #[.int .i64 a0, .int .i64 a1, .int .i64 a2, .int .i64 a3] 23)).cell? ⟨w3.heap.size, 0, none⟩ = some (.int .i64 a0) := R0_1.out.cells.1
  have p0_1 : (w3.alloc (.cells #[.int .i64 a0, .int .i64 a1, .int .i64 a2, .int .i64 a3] 23)).cell? ⟨w3.heap.size, 1, none⟩ = some (.int .i64 a1) := R0_1.out.cells.2.1
  have p0_2 : (w3.alloc (.cells #[.int .i64 a0, .int .i64 a1, .int .i64 a2, .int .i64 a3] 23)).cell? ⟨w3.heap.size, 2, none⟩ = some (.int .i64 a2) := R0_1.out.cells.2.2.1
  have p0_3 : (w3.alloc (.cells #[.int .i64 a0, .int .i64 a1, .int .i64 a2, .int .i64 a3] 23)).cell? ⟨w3.heap.size, 3, none⟩ = some (.int .i64 a3) := R0_1.out.cells.2.2.2
  go_wp2_with (fail)
  clear p0_0 p0_1 p0_2 p0_3
  generalize hq : w3.alloc (.cells #[.int .i64 a0, .int .i64 a1, .int .i64 a2, .int .i64 a3] 23) = w3' at *
  clear hq
  generalize w3.heap.size = bw3 at *
  refine (C1.out _).mono ?_
  rintro e w4 ⟨rfl, rfl⟩
  have p0_0 : w3'.cell? ⟨bw3, 0, none⟩ = some (.int .i64 a0) := R0_1.out.cells.1
  have p0_1 : w3'.cell? ⟨bw3, 1, none⟩ = some (.int .i64 a1) := R0_1.out.cells.2.1
  have p0_2 : w3'.cell? ⟨bw3, 2, none⟩ = some (.int .i64 a2) := R0_1.out.cells.2.2.1
  have p0_3 : w3'.cell? ⟨bw3, 3, none⟩ = some (.int .i64 a3) := R0_1.out.cells.2.2.2
  go_wp2_with (fail)
  clear p0_0 p0_1 p0_2 p0_3
  refine (C3.out _ HY2.out).mono ?_
  rintro e w5 ⟨rfl, hb⟩
  have hbb := hb.trans (((Below.refl _ w5).alloc (Nat.le_refl _) (.cells #[.int .i64 a0, .int .i64 a1, .int .i64 a2, .int .i64 a3] 23)).mono hb.size)
  have R0_2 := Lib.hid (R0_1.out.turn hbb)
  have R1_2 := Lib.hid (RRow.new w5 ⟨a0, a1, a2, a3⟩)
  try unfold Rect.arr at R1_2
  try dsimp only at R1_2
  have HB2 := Lib.hid (HB1.out.trans (hbb.mono HB1.out.size))
  clear R0_1 HB1
  clear hb hbb HY2 C1 C2 C3
  have p0_0 : (w5.alloc (.cells #[.int .i64 a0, .int .i64 a1, .int .i64 a2, .int .i64 a3] 23)).cell? ⟨bw3, 0, none⟩ = some (.int .i64 a0) := R0_2.out.cells.1
  have p0_1 : (w5.alloc (.cells #[.int .i64 a0, .int .i64 a1, .int .i64 a2, .int .i64 a3] 23)).cell? ⟨bw3, 1, none⟩ = some (.int .i64 a1) := R0_2.out.cells.2.1
  have p0_2 : (w5.alloc (.cells #[.int .i64 a0, .int .i64 a1, .int .i64 a2, .int .i64 a3] 23)).cell? ⟨bw3, 2, none⟩ = some (.int .i64 a2) := R0_2.out.cells.2.2.1
  have p0_3 : (w5.alloc (.cells #[.int .i64 a0, .int .i64 a1, .int .i64 a2, .int .i64 a3] 23)).cell? ⟨bw3, 3, none⟩ = some (.int .i64 a3) := R0_2.out.cells.2.2.2
  have p1_0 : (w5.alloc (.cells #[.int .i64 a0, .int .i64 a1, .int .i64 a2, .int .i64 a3] 23)).cell? ⟨w5.heap.size, 0, none⟩ = some (.int .i64 a0) := R1_2.out.cells.1
  have p1_1 : (w5.alloc (.cells #[.int .i64 a0, .int .i64 a1, .int .i64 a2, .int .i64 a3] 23)).cell? ⟨w5.heap.size, 1, none⟩ = some (.int .i64 a1) := R1_2.out.cells.2.1
  have p1_2 : (w5.alloc (.cells #[.int .i64 a0, .int .i64 a1, .int .i64 a2, .int .i64 a3] 23)).cell? ⟨w5.heap.size, 2, none⟩ = some (.int .i64 a2) := R1_2.out.cells.2.2.1
  have p1_3 : (w5.alloc (.cells #[.int .i64 a0, .int .i64 a1, .int .i64 a2, .int .i64 a3] 23)).cell? ⟨w5.heap.size, 3, none⟩ = some (.int .i64 a3) := R1_2.out.cells.2.2.2
  go_wp2_with (fail)
  go_ret
  exact ⟨rfl, HB2.out⟩
end Go.Proofs.Ytnlojbkjhlhogaa
