/- The walk of the law RectBack: what is moved to and fro is as it was; inset by nothing it is, too. -/
import Derived.Test.YtnlojbkjhlhogaaVD
namespace Go.Proofs.Ytnlojbkjhlhogaa
open Go Go.RowKit IV
set_option linter.unusedVariables false
theorem moved_ok {r : Rect} {dx dy : Int} (h : okV r dx dy = true) : moved r dx dy = ⟨r.x + dx, r.y + dy, r.w, r.h⟩ ∧ erV r dx dy = 0 := by
  unfold moved erV
  rw [if_pos h, if_pos h]
  exact ⟨rfl, rfl⟩
theorem moved_no {r : Rect} {dx dy : Int} (h : okV r dx dy = false) : moved r dx dy = ⟨0, 0, 0, 0⟩ ∧ erV r dx dy = 20 := by
  unfold moved erV
  rw [h]
  exact ⟨rfl, rfl⟩
theorem okV_iff {r : Rect} {dx dy : Int} : okV r dx dy = true ↔ right r = true ∧ ((-2305843009213693952 ≤ dx ∧ dx ≤ 2305843009213693952) ∧ (-2305843009213693952 ≤ dy ∧ dy ≤ 2305843009213693952)) ∧ right ⟨r.x + dx, r.y + dy, r.w, r.h⟩ = true := by
  unfold okV
  rw [Bool.and_eq_true, Bool.and_eq_true, inB_two]
theorem okV_right {r : Rect} {dx dy : Int} (h : okV r dx dy = true) : right r = true := (okV_iff.1 h).1
theorem moved_back {r : Rect} {dx dy : Int} (h : okV r dx dy = true) : moved ⟨r.x + dx, r.y + dy, r.w, r.h⟩ (-dx) (-dy) = r ∧ erV ⟨r.x + dx, r.y + dy, r.w, r.h⟩ (-dx) (-dy) = 0 := by
  obtain ⟨h1, h2, h3⟩ := okV_iff.1 h
  obtain ⟨x, y, u, v⟩ := r
  dsimp only at *
  have e : (⟨x + dx + -dx, y + dy + -dy, u, v⟩ : Rect) = ⟨x, y, u, v⟩ := by
    rw [show x + dx + -dx = x by omega, show y + dy + -dy = y by omega]
  have k : okV ⟨x + dx, y + dy, u, v⟩ (-dx) (-dy) = true := okV_iff.2 ⟨h3, by omega, by dsimp only; rw [e]; exact h1⟩
  have := moved_ok k
  dsimp only at this
  rw [e] at this
  exact this
theorem inset_none {r : Rect} (h : right r = true) : inset r 0 0 0 0 = ⟨r.x, r.y, r.w, r.h⟩ ∧ erI r 0 0 0 0 = 0 := by
  have k : okI r 0 0 0 0 = true := by
    unfold okI
    rw [show lensOk 0 0 0 0 = true by decide, Bool.true_and, okV_iff]
    refine ⟨h, by omega, ?_⟩
    rw [Int.add_zero, Int.add_zero]
    exact h
  have b := right_iff.1 h
  unfold inset erI
  rw [if_pos k, if_pos k, show max (r.w - 0 - 0) 0 = r.w by omega, show max (r.h - 0 - 0) 0 = r.h by omega, Int.add_zero, Int.add_zero]
  exact ⟨rfl, rfl⟩
theorem inset_wrong {r : Rect} (h : right r = false) : inset r 0 0 0 0 = ⟨0, 0, 0, 0⟩ ∧ erI r 0 0 0 0 = 20 := by
  have k : okI r 0 0 0 0 = false := by
    unfold okI okV
    rw [h, Bool.false_and, Bool.and_false]
  unfold inset erI
  rw [k]
  exact ⟨rfl, rfl⟩

set_option maxRecDepth 100000 in
set_option maxHeartbeats 4000000 in
theorem back_ok (r : Rect) (dx dy : Int) (w : World) (h0 : okV r dx dy = true) (hn : IntKind.i64.wrap (-dx) = -dx ∧ IntKind.i64.wrap (-dy) = -dy) : Calls Try.prog 10 #[.agg r.arr, .int .i64 dx, .int .i64 dy] w fun e w' => e = .returned (.bool true) ∧ Below w.heap.size w w' := by
  have R0_0 := Lib.hid (RRow.new w r)
  have HB0 := Lib.hid ((Below.refl _ w).alloc (Nat.le_refl _) (.cells r.arr 23))
  have Hn := Lib.hid hn
  have C1 : Hid (∀ W, Calls Try.prog 21 #[.agg r.arr, .int .i64 dx, .int .i64 dy] W fun e w' => e = .returned (.tuple #[.agg (Rect.arr ⟨r.x + dx, r.y + dy, r.w, r.h⟩), .int .i64 0]) ∧ Below W.heap.size W w') := Lib.hid fun W => by
    have h := c21 r dx dy W
    rw [(moved_ok h0).1, (moved_ok h0).2] at h
    exact h
  have C2 : Hid (∀ W, Calls Try.prog 21 #[.agg (Rect.arr ⟨r.x + dx, r.y + dy, r.w, r.h⟩), .int .i64 (-dx), .int .i64 (-dy)] W fun e w' => e = .returned (.tuple #[.agg r.arr, .int .i64 0]) ∧ Below W.heap.size W w') := Lib.hid fun W => by
    have h := c21 ⟨r.x + dx, r.y + dy, r.w, r.h⟩ (-dx) (-dy) W
    rw [(moved_back h0).1, (moved_back h0).2] at h
    exact h
  have C3 : Hid (∀ W, Calls Try.prog 23 #[.agg r.arr, .agg #[.int .i64 0, .int .i64 0, .int .i64 0, .int .i64 0]] W fun e w' => e = .returned (.tuple #[.agg r.arr, .int .i64 0]) ∧ Below W.heap.size W w') := Lib.hid fun W => by
    have h := c23 r 0 0 0 0 W
    rw [(inset_none (okV_right h0)).1, (inset_none (okV_right h0)).2] at h
    exact h
  clear h0 hn
  obtain ⟨x, y, u, v⟩ := r
  unfold Rect.arr at *
  dsimp only at *
  go_enter Try.func10, Try.ntmps10
  go_wp2_with (fail)
  generalize (w.alloc (.cells #[.int .i64 x, .int .i64 y, .int .i64 u, .int .i64 v] 23)) = w0 at *
  refine (shown w0).mono ?_
  rintro e w1 ⟨rfl, hb⟩
  have R0_1 := Lib.hid (R0_0.out.turn hb)
  have HB1 := Lib.hid (HB0.out.trans (hb.mono HB0.out.size))
  clear R0_0 HB0
  clear hb
  obtain ⟨hnx, hny⟩ := Hn.out
  have p0_0 : w1.cell? ⟨w.heap.size, 0, none⟩ = some (.int .i64 x) := R0_1.out.cells.1
  have p0_1 : w1.cell? ⟨w.heap.size, 1, none⟩ = some (.int .i64 y) := R0_1.out.cells.2.1
  have p0_2 : w1.cell? ⟨w.heap.size, 2, none⟩ = some (.int .i64 u) := R0_1.out.cells.2.2.1
  have p0_3 : w1.cell? ⟨w.heap.size, 3, none⟩ = some (.int .i64 v) := R0_1.out.cells.2.2.2
  go_wp2_with (fail)
  clear p0_0 p0_1 p0_2 p0_3
  refine (C1.out _).mono ?_
  rintro e w2 ⟨rfl, hb⟩
  have hbb := hb.trans (((Below.refl _ w2).alloc (Nat.le_refl _) (.cells #[.int .i64 (x + dx), .int .i64 (y + dy), .int .i64 u, .int .i64 v] 23)).mono hb.size)
  have R0_2 := Lib.hid (R0_1.out.turn hbb)
  have R1_2 := Lib.hid (RRow.new w2 ⟨(x + dx), (y + dy), u, v⟩)
  try unfold Rect.arr at R1_2
  try dsimp only at R1_2
  have HB2 := Lib.hid (HB1.out.trans (hbb.mono HB1.out.size))
  clear R0_1 HB1
  clear hb hbb
  have p0_0 : (w2.alloc (.cells #[.int .i64 (x + dx), .int .i64 (y + dy), .int .i64 u, .int .i64 v] 23)).cell? ⟨w.heap.size, 0, none⟩ = some (.int .i64 x) := R0_2.out.cells.1
  have p0_1 : (w2.alloc (.cells #[.int .i64 (x + dx), .int .i64 (y + dy), .int .i64 u, .int .i64 v] 23)).cell? ⟨w.heap.size, 1, none⟩ = some (.int .i64 y) := R0_2.out.cells.2.1
  have p0_2 : (w2.alloc (.cells #[.int .i64 (x + dx), .int .i64 (y + dy), .int .i64 u, .int .i64 v] 23)).cell? ⟨w.heap.size, 2, none⟩ = some (.int .i64 u) := R0_2.out.cells.2.2.1
  have p0_3 : (w2.alloc (.cells #[.int .i64 (x + dx), .int .i64 (y + dy), .int .i64 u, .int .i64 v] 23)).cell? ⟨w.heap.size, 3, none⟩ = some (.int .i64 v) := R0_2.out.cells.2.2.2
  have p1_0 : (w2.alloc (.cells #[.int .i64 (x + dx), .int .i64 (y + dy), .int .i64 u, .int .i64 v] 23)).cell? ⟨w2.heap.size, 0, none⟩ = some (.int .i64 (x + dx)) := R1_2.out.cells.1
  have p1_1 : (w2.alloc (.cells #[.int .i64 (x + dx), .int .i64 (y + dy), .int .i64 u, .int .i64 v] 23)).cell? ⟨w2.heap.size, 1, none⟩ = some (.int .i64 (y + dy)) := R1_2.out.cells.2.1
  have p1_2 : (w2.alloc (.cells #[.int .i64 (x + dx), .int .i64 (y + dy), .int .i64 u, .int .i64 v] 23)).cell? ⟨w2.heap.size, 2, none⟩ = some (.int .i64 u) := R1_2.out.cells.2.2.1
  have p1_3 : (w2.alloc (.cells #[.int .i64 (x + dx), .int .i64 (y + dy), .int .i64 u, .int .i64 v] 23)).cell? ⟨w2.heap.size, 3, none⟩ = some (.int .i64 v) := R1_2.out.cells.2.2.2
  go_wp2_with (fail)
  clear p0_0 p0_1 p0_2 p0_3 p1_0 p1_1 p1_2 p1_3
  generalize hq : w2.alloc (.cells #[.int .i64 (x + dx), .int .i64 (y + dy), .int .i64 u, .int .i64 v] 23) = w2' at *
  clear hq
  generalize w2.heap.size = bw2 at *
  refine (C2.out _).mono ?_
  rintro e w3 ⟨rfl, hb⟩
  have hbb := hb.trans (((Below.refl _ w3).alloc (Nat.le_refl _) (.cells #[.int .i64 x, .int .i64 y, .int .i64 u, .int .i64 v] 23)).mono hb.size)
  have R0_3 := Lib.hid (R0_2.out.turn hbb)
  have R1_3 := Lib.hid (R1_2.out.turn hbb)
  have R2_3 := Lib.hid (RRow.new w3 ⟨x, y, u, v⟩)
  try unfold Rect.arr at R2_3
  try dsimp only at R2_3
  have HB3 := Lib.hid (HB2.out.trans (hbb.mono HB2.out.size))
  clear R0_2 R1_2 HB2
  clear hb hbb
  clear hnx hny Hn C1 C2
  have p0_0 : (w3.alloc (.cells #[.int .i64 x, .int .i64 y, .int .i64 u, .int .i64 v] 23)).cell? ⟨w.heap.size, 0, none⟩ = some (.int .i64 x) := R0_3.out.cells.1
  have p0_1 : (w3.alloc (.cells #[.int .i64 x, .int .i64 y, .int .i64 u, .int .i64 v] 23)).cell? ⟨w.heap.size, 1, none⟩ = some (.int .i64 y) := R0_3.out.cells.2.1
  have p0_2 : (w3.alloc (.cells #[.int .i64 x, .int .i64 y, .int .i64 u, .int .i64 v] 23)).cell? ⟨w.heap.size, 2, none⟩ = some (.int .i64 u) := R0_3.out.cells.2.2.1
  have p0_3 : (w3.alloc (.cells #[.int .i64 x, .int .i64 y, .int .i64 u, .int .i64 v] 23)).cell? ⟨w.heap.size, 3, none⟩ = some (.int .i64 v) := R0_3.out.cells.2.2.2
  go_wp2_with (fail)
  clear p0_0 p0_1 p0_2 p0_3
  generalize hq : w3.alloc (.cells #[.int .i64 x, .int .i64 y, .int .i64 u, .int .i64 v] 23) = w3' at *
  clear hq
  generalize w3.heap.size = bw3 at *
  refine (C3.out _).mono ?_
  rintro e w4 ⟨rfl, hb⟩
  have hbb := hb.trans (((Below.refl _ w4).alloc (Nat.le_refl _) (.cells #[.int .i64 x, .int .i64 y, .int .i64 u, .int .i64 v] 23)).mono hb.size)
  have R0_4 := Lib.hid (R0_3.out.turn hbb)
  have R1_4 := Lib.hid (R1_3.out.turn hbb)
  have R2_4 := Lib.hid (R2_3.out.turn hbb)
  have R3_4 := Lib.hid (RRow.new w4 ⟨x, y, u, v⟩)
  try unfold Rect.arr at R3_4
  try dsimp only at R3_4
  have HB4 := Lib.hid (HB3.out.trans (hbb.mono HB3.out.size))
  clear R0_3 R1_3 R2_3 HB3
  clear hb hbb
  have p0_0 : (w4.alloc (.cells #[.int .i64 x, .int .i64 y, .int .i64 u, .int .i64 v] 23)).cell? ⟨w.heap.size, 0, none⟩ = some (.int .i64 x) := R0_4.out.cells.1
  have p0_1 : (w4.alloc (.cells #[.int .i64 x, .int .i64 y, .int .i64 u, .int .i64 v] 23)).cell? ⟨w.heap.size, 1, none⟩ = some (.int .i64 y) := R0_4.out.cells.2.1
  have p0_2 : (w4.alloc (.cells #[.int .i64 x, .int .i64 y, .int .i64 u, .int .i64 v] 23)).cell? ⟨w.heap.size, 2, none⟩ = some (.int .i64 u) := R0_4.out.cells.2.2.1
  have p0_3 : (w4.alloc (.cells #[.int .i64 x, .int .i64 y, .int .i64 u, .int .i64 v] 23)).cell? ⟨w.heap.size, 3, none⟩ = some (.int .i64 v) := R0_4.out.cells.2.2.2
  have p1_0 : (w4.alloc (.cells #[.int .i64 x, .int .i64 y, .int .i64 u, .int .i64 v] 23)).cell? ⟨bw2, 0, none⟩ = some (.int .i64 (x + dx)) := R1_4.out.cells.1
  have p1_1 : (w4.alloc (.cells #[.int .i64 x, .int .i64 y, .int .i64 u, .int .i64 v] 23)).cell? ⟨bw2, 1, none⟩ = some (.int .i64 (y + dy)) := R1_4.out.cells.2.1
  have p1_2 : (w4.alloc (.cells #[.int .i64 x, .int .i64 y, .int .i64 u, .int .i64 v] 23)).cell? ⟨bw2, 2, none⟩ = some (.int .i64 u) := R1_4.out.cells.2.2.1
  have p1_3 : (w4.alloc (.cells #[.int .i64 x, .int .i64 y, .int .i64 u, .int .i64 v] 23)).cell? ⟨bw2, 3, none⟩ = some (.int .i64 v) := R1_4.out.cells.2.2.2
  have p2_0 : (w4.alloc (.cells #[.int .i64 x, .int .i64 y, .int .i64 u, .int .i64 v] 23)).cell? ⟨bw3, 0, none⟩ = some (.int .i64 x) := R2_4.out.cells.1
  have p2_1 : (w4.alloc (.cells #[.int .i64 x, .int .i64 y, .int .i64 u, .int .i64 v] 23)).cell? ⟨bw3, 1, none⟩ = some (.int .i64 y) := R2_4.out.cells.2.1
  have p2_2 : (w4.alloc (.cells #[.int .i64 x, .int .i64 y, .int .i64 u, .int .i64 v] 23)).cell? ⟨bw3, 2, none⟩ = some (.int .i64 u) := R2_4.out.cells.2.2.1
  have p2_3 : (w4.alloc (.cells #[.int .i64 x, .int .i64 y, .int .i64 u, .int .i64 v] 23)).cell? ⟨bw3, 3, none⟩ = some (.int .i64 v) := R2_4.out.cells.2.2.2
  have p3_0 : (w4.alloc (.cells #[.int .i64 x, .int .i64 y, .int .i64 u, .int .i64 v] 23)).cell? ⟨w4.heap.size, 0, none⟩ = some (.int .i64 x) := R3_4.out.cells.1
  have p3_1 : (w4.alloc (.cells #[.int .i64 x, .int .i64 y, .int .i64 u, .int .i64 v] 23)).cell? ⟨w4.heap.size, 1, none⟩ = some (.int .i64 y) := R3_4.out.cells.2.1
  have p3_2 : (w4.alloc (.cells #[.int .i64 x, .int .i64 y, .int .i64 u, .int .i64 v] 23)).cell? ⟨w4.heap.size, 2, none⟩ = some (.int .i64 u) := R3_4.out.cells.2.2.1
  have p3_3 : (w4.alloc (.cells #[.int .i64 x, .int .i64 y, .int .i64 u, .int .i64 v] 23)).cell? ⟨w4.heap.size, 3, none⟩ = some (.int .i64 v) := R3_4.out.cells.2.2.2
  clear C3
  go_wp2_with (fail)
  go_ret
  exact ⟨rfl, HB4.out⟩

set_option maxRecDepth 100000 in
set_option maxHeartbeats 4000000 in
theorem back_no_r (r : Rect) (dx dy : Int) (w : World) (h0 : okV r dx dy = false ∧ right r = true) : Calls Try.prog 10 #[.agg r.arr, .int .i64 dx, .int .i64 dy] w fun e w' => e = .returned (.bool true) ∧ Below w.heap.size w w' := by
  have R0_0 := Lib.hid (RRow.new w r)
  have HB0 := Lib.hid ((Below.refl _ w).alloc (Nat.le_refl _) (.cells r.arr 23))
  have C1 : Hid (∀ W, Calls Try.prog 21 #[.agg r.arr, .int .i64 dx, .int .i64 dy] W fun e w' => e = .returned (.tuple #[.agg (Rect.arr ⟨0, 0, 0, 0⟩), .int .i64 20]) ∧ Below W.heap.size W w') := Lib.hid fun W => by
    have h := c21 r dx dy W
    rw [(moved_no h0.1).1, (moved_no h0.1).2] at h
    exact h
  have C2 : Hid (∀ nx ny W, ∃ m0 m1 m2 m3 me : Int, Calls Try.prog 21 #[.agg (Rect.arr ⟨0, 0, 0, 0⟩), .int .i64 nx, .int .i64 ny] W fun e w' => e = .returned (.tuple #[.agg #[.int .i64 m0, .int .i64 m1, .int .i64 m2, .int .i64 m3], .int .i64 me]) ∧ Below W.heap.size W w') := Lib.hid fun nx ny W => ⟨_, _, _, _, _, c21 ⟨0, 0, 0, 0⟩ nx ny W⟩
  have C3 : Hid (∀ W, Calls Try.prog 23 #[.agg r.arr, .agg #[.int .i64 0, .int .i64 0, .int .i64 0, .int .i64 0]] W fun e w' => e = .returned (.tuple #[.agg (Rect.arr ⟨r.x, r.y, r.w, r.h⟩), .int .i64 0]) ∧ Below W.heap.size W w') := Lib.hid fun W => by
    have h := c23 r 0 0 0 0 W
    rw [(inset_none h0.2).1, (inset_none h0.2).2] at h
    exact h
  have C4 : Hid (∀ W, Calls Try.prog 14 #[.agg r.arr] W fun e w' => e = .returned (.bool true) ∧ Below W.heap.size W w') := Lib.hid fun W => by
    have h := c14 r W
    rw [h0.2] at h
    exact h
  clear h0
  obtain ⟨x, y, u, v⟩ := r
  unfold Rect.arr at *
  dsimp only at *
  go_enter Try.func10, Try.ntmps10
  go_wp2_with (fail)
  generalize (w.alloc (.cells #[.int .i64 x, .int .i64 y, .int .i64 u, .int .i64 v] 23)) = w0 at *
  refine (shown w0).mono ?_
  rintro e w1 ⟨rfl, hb⟩
  have R0_1 := Lib.hid (R0_0.out.turn hb)
  have HB1 := Lib.hid (HB0.out.trans (hb.mono HB0.out.size))
  clear R0_0 HB0
  clear hb
  have p0_0 : w1.cell? ⟨w.heap.size, 0, none⟩ = some (.int .i64 x) := R0_1.out.cells.1
  have p0_1 : w1.cell? ⟨w.heap.size, 1, none⟩ = some (.int .i64 y) := R0_1.out.cells.2.1
  have p0_2 : w1.cell? ⟨w.heap.size, 2, none⟩ = some (.int .i64 u) := R0_1.out.cells.2.2.1
  have p0_3 : w1.cell? ⟨w.heap.size, 3, none⟩ = some (.int .i64 v) := R0_1.out.cells.2.2.2
  go_wp2_with (fail)
  clear p0_0 p0_1 p0_2 p0_3
  refine (C1.out _).mono ?_
  rintro e w2 ⟨rfl, hb⟩
  have hbb := hb.trans (((Below.refl _ w2).alloc (Nat.le_refl _) (.cells #[.int .i64 0, .int .i64 0, .int .i64 0, .int .i64 0] 23)).mono hb.size)
  have R0_2 := Lib.hid (R0_1.out.turn hbb)
  have R1_2 := Lib.hid (RRow.new w2 ⟨0, 0, 0, 0⟩)
  try unfold Rect.arr at R1_2
  try dsimp only at R1_2
  have HB2 := Lib.hid (HB1.out.trans (hbb.mono HB1.out.size))
  clear R0_1 HB1
  clear hb hbb
  have p0_0 : (w2.alloc (.cells #[.int .i64 0, .int .i64 0, .int .i64 0, .int .i64 0] 23)).cell? ⟨w.heap.size, 0, none⟩ = some (.int .i64 x) := R0_2.out.cells.1
  have p0_1 : (w2.alloc (.cells #[.int .i64 0, .int .i64 0, .int .i64 0, .int .i64 0] 23)).cell? ⟨w.heap.size, 1, none⟩ = some (.int .i64 y) := R0_2.out.cells.2.1
  have p0_2 : (w2.alloc (.cells #[.int .i64 0, .int .i64 0, .int .i64 0, .int .i64 0] 23)).cell? ⟨w.heap.size, 2, none⟩ = some (.int .i64 u) := R0_2.out.cells.2.2.1
  have p0_3 : (w2.alloc (.cells #[.int .i64 0, .int .i64 0, .int .i64 0, .int .i64 0] 23)).cell? ⟨w.heap.size, 3, none⟩ = some (.int .i64 v) := R0_2.out.cells.2.2.2
  have p1_0 : (w2.alloc (.cells #[.int .i64 0, .int .i64 0, .int .i64 0, .int .i64 0] 23)).cell? ⟨w2.heap.size, 0, none⟩ = some (.int .i64 0) := R1_2.out.cells.1
  have p1_1 : (w2.alloc (.cells #[.int .i64 0, .int .i64 0, .int .i64 0, .int .i64 0] 23)).cell? ⟨w2.heap.size, 1, none⟩ = some (.int .i64 0) := R1_2.out.cells.2.1
  have p1_2 : (w2.alloc (.cells #[.int .i64 0, .int .i64 0, .int .i64 0, .int .i64 0] 23)).cell? ⟨w2.heap.size, 2, none⟩ = some (.int .i64 0) := R1_2.out.cells.2.2.1
  have p1_3 : (w2.alloc (.cells #[.int .i64 0, .int .i64 0, .int .i64 0, .int .i64 0] 23)).cell? ⟨w2.heap.size, 3, none⟩ = some (.int .i64 0) := R1_2.out.cells.2.2.2
  go_wp2_with (fail)
  clear p0_0 p0_1 p0_2 p0_3 p1_0 p1_1 p1_2 p1_3
  generalize hq : w2.alloc (.cells #[.int .i64 0, .int .i64 0, .int .i64 0, .int .i64 0] 23) = w2' at *
  clear hq
  generalize w2.heap.size = bw2 at *
  obtain ⟨m0, m1, m2, m3, me, c2⟩ := C2.out (wrap64 (-dx)) (wrap64 (-dy)) w2'
  try unfold Rect.arr at c2
  refine c2.mono ?_
  rintro e w3 ⟨rfl, hb⟩
  have hbb := hb.trans (((Below.refl _ w3).alloc (Nat.le_refl _) (.cells #[.int .i64 m0, .int .i64 m1, .int .i64 m2, .int .i64 m3] 23)).mono hb.size)
  clear c2
  have R0_3 := Lib.hid (R0_2.out.turn hbb)
  have R1_3 := Lib.hid (R1_2.out.turn hbb)
  have R2_3 := Lib.hid (RRow.new w3 ⟨m0, m1, m2, m3⟩)
  try unfold Rect.arr at R2_3
  try dsimp only at R2_3
  have HB3 := Lib.hid (HB2.out.trans (hbb.mono HB2.out.size))
  clear R0_2 R1_2 HB2
  clear hb hbb
  have p0_0 : (w3.alloc (.cells #[.int .i64 m0, .int .i64 m1, .int .i64 m2, .int .i64 m3] 23)).cell? ⟨w.heap.size, 0, none⟩ = some (.int .i64 x) := R0_3.out.cells.1
  have p0_1 : (w3.alloc (.cells #[.int .i64 m0, .int .i64 m1, .int .i64 m2, .int .i64 m3] 23)).cell? ⟨w.heap.size, 1, none⟩ = some (.int .i64 y) := R0_3.out.cells.2.1
  have p0_2 : (w3.alloc (.cells #[.int .i64 m0, .int .i64 m1, .int .i64 m2, .int .i64 m3] 23)).cell? ⟨w.heap.size, 2, none⟩ = some (.int .i64 u) := R0_3.out.cells.2.2.1
  have p0_3 : (w3.alloc (.cells #[.int .i64 m0, .int .i64 m1, .int .i64 m2, .int .i64 m3] 23)).cell? ⟨w.heap.size, 3, none⟩ = some (.int .i64 v) := R0_3.out.cells.2.2.2
  go_wp2_with (fail)
  clear p0_0 p0_1 p0_2 p0_3
  generalize hq : w3.alloc (.cells #[.int .i64 m0, .int .i64 m1, .int .i64 m2, .int .i64 m3] 23) = w3' at *
  clear hq
  generalize w3.heap.size = bw3 at *
  refine (C3.out _).mono ?_
  rintro e w4 ⟨rfl, hb⟩
  have hbb := hb.trans (((Below.refl _ w4).alloc (Nat.le_refl _) (.cells #[.int .i64 x, .int .i64 y, .int .i64 u, .int .i64 v] 23)).mono hb.size)
  have R0_4 := Lib.hid (R0_3.out.turn hbb)
  have R1_4 := Lib.hid (R1_3.out.turn hbb)
  have R2_4 := Lib.hid (R2_3.out.turn hbb)
  have R3_4 := Lib.hid (RRow.new w4 ⟨x, y, u, v⟩)
  try unfold Rect.arr at R3_4
  try dsimp only at R3_4
  have HB4 := Lib.hid (HB3.out.trans (hbb.mono HB3.out.size))
  clear R0_3 R1_3 R2_3 HB3
  clear hb hbb
  have p0_0 : (w4.alloc (.cells #[.int .i64 x, .int .i64 y, .int .i64 u, .int .i64 v] 23)).cell? ⟨w.heap.size, 0, none⟩ = some (.int .i64 x) := R0_4.out.cells.1
  have p0_1 : (w4.alloc (.cells #[.int .i64 x, .int .i64 y, .int .i64 u, .int .i64 v] 23)).cell? ⟨w.heap.size, 1, none⟩ = some (.int .i64 y) := R0_4.out.cells.2.1
  have p0_2 : (w4.alloc (.cells #[.int .i64 x, .int .i64 y, .int .i64 u, .int .i64 v] 23)).cell? ⟨w.heap.size, 2, none⟩ = some (.int .i64 u) := R0_4.out.cells.2.2.1
  have p0_3 : (w4.alloc (.cells #[.int .i64 x, .int .i64 y, .int .i64 u, .int .i64 v] 23)).cell? ⟨w.heap.size, 3, none⟩ = some (.int .i64 v) := R0_4.out.cells.2.2.2
  have p1_0 : (w4.alloc (.cells #[.int .i64 x, .int .i64 y, .int .i64 u, .int .i64 v] 23)).cell? ⟨bw2, 0, none⟩ = some (.int .i64 0) := R1_4.out.cells.1
  have p1_1 : (w4.alloc (.cells #[.int .i64 x, .int .i64 y, .int .i64 u, .int .i64 v] 23)).cell? ⟨bw2, 1, none⟩ = some (.int .i64 0) := R1_4.out.cells.2.1
  have p1_2 : (w4.alloc (.cells #[.int .i64 x, .int .i64 y, .int .i64 u, .int .i64 v] 23)).cell? ⟨bw2, 2, none⟩ = some (.int .i64 0) := R1_4.out.cells.2.2.1
  have p1_3 : (w4.alloc (.cells #[.int .i64 x, .int .i64 y, .int .i64 u, .int .i64 v] 23)).cell? ⟨bw2, 3, none⟩ = some (.int .i64 0) := R1_4.out.cells.2.2.2
  go_wp2_with (fail)
  clear p0_0 p0_1 p0_2 p0_3 p1_0 p1_1 p1_2 p1_3
  generalize hq : w4.alloc (.cells #[.int .i64 x, .int .i64 y, .int .i64 u, .int .i64 v] 23) = w4' at *
  clear hq
  generalize w4.heap.size = bw4 at *
  refine (C4.out _).mono ?_
  rintro e w5 ⟨rfl, hb⟩
  have R0_5 := Lib.hid (R0_4.out.turn hb)
  have R1_5 := Lib.hid (R1_4.out.turn hb)
  have R2_5 := Lib.hid (R2_4.out.turn hb)
  have R3_5 := Lib.hid (R3_4.out.turn hb)
  have HB5 := Lib.hid (HB4.out.trans (hb.mono HB4.out.size))
  clear R0_4 R1_4 R2_4 R3_4 HB4
  clear hb
  clear C1 C2 C3 C4
  go_wp2_with (fail)
  go_ret
  exact ⟨rfl, HB5.out⟩

set_option maxRecDepth 100000 in
set_option maxHeartbeats 4000000 in
theorem back_no_w (r : Rect) (dx dy : Int) (w : World) (h0 : okV r dx dy = false ∧ right r = false) : Calls Try.prog 10 #[.agg r.arr, .int .i64 dx, .int .i64 dy] w fun e w' => e = .returned (.bool true) ∧ Below w.heap.size w w' := by
  have R0_0 := Lib.hid (RRow.new w r)
  have HB0 := Lib.hid ((Below.refl _ w).alloc (Nat.le_refl _) (.cells r.arr 23))
  have C1 : Hid (∀ W, Calls Try.prog 21 #[.agg r.arr, .int .i64 dx, .int .i64 dy] W fun e w' => e = .returned (.tuple #[.agg (Rect.arr ⟨0, 0, 0, 0⟩), .int .i64 20]) ∧ Below W.heap.size W w') := Lib.hid fun W => by
    have h := c21 r dx dy W
    rw [(moved_no h0.1).1, (moved_no h0.1).2] at h
    exact h
  have C2 : Hid (∀ nx ny W, ∃ m0 m1 m2 m3 me : Int, Calls Try.prog 21 #[.agg (Rect.arr ⟨0, 0, 0, 0⟩), .int .i64 nx, .int .i64 ny] W fun e w' => e = .returned (.tuple #[.agg #[.int .i64 m0, .int .i64 m1, .int .i64 m2, .int .i64 m3], .int .i64 me]) ∧ Below W.heap.size W w') := Lib.hid fun nx ny W => ⟨_, _, _, _, _, c21 ⟨0, 0, 0, 0⟩ nx ny W⟩
  have C3 : Hid (∀ W, Calls Try.prog 23 #[.agg r.arr, .agg #[.int .i64 0, .int .i64 0, .int .i64 0, .int .i64 0]] W fun e w' => e = .returned (.tuple #[.agg (Rect.arr ⟨0, 0, 0, 0⟩), .int .i64 20]) ∧ Below W.heap.size W w') := Lib.hid fun W => by
    have h := c23 r 0 0 0 0 W
    rw [(inset_wrong h0.2).1, (inset_wrong h0.2).2] at h
    exact h
  have C4 : Hid (∀ W, Calls Try.prog 14 #[.agg r.arr] W fun e w' => e = .returned (.bool false) ∧ Below W.heap.size W w') := Lib.hid fun W => by
    have h := c14 r W
    rw [h0.2] at h
    exact h
  clear h0
  obtain ⟨x, y, u, v⟩ := r
  unfold Rect.arr at *
  dsimp only at *
  go_enter Try.func10, Try.ntmps10
  go_wp2_with (fail)
  generalize (w.alloc (.cells #[.int .i64 x, .int .i64 y, .int .i64 u, .int .i64 v] 23)) = w0 at *
  refine (shown w0).mono ?_
  rintro e w1 ⟨rfl, hb⟩
  have R0_1 := Lib.hid (R0_0.out.turn hb)
  have HB1 := Lib.hid (HB0.out.trans (hb.mono HB0.out.size))
  clear R0_0 HB0
  clear hb
  have p0_0 : w1.cell? ⟨w.heap.size, 0, none⟩ = some (.int .i64 x) := R0_1.out.cells.1
  have p0_1 : w1.cell? ⟨w.heap.size, 1, none⟩ = some (.int .i64 y) := R0_1.out.cells.2.1
  have p0_2 : w1.cell? ⟨w.heap.size, 2, none⟩ = some (.int .i64 u) := R0_1.out.cells.2.2.1
  have p0_3 : w1.cell? ⟨w.heap.size, 3, none⟩ = some (.int .i64 v) := R0_1.out.cells.2.2.2
  go_wp2_with (fail)
  clear p0_0 p0_1 p0_2 p0_3
  refine (C1.out _).mono ?_
  rintro e w2 ⟨rfl, hb⟩
  have hbb := hb.trans (((Below.refl _ w2).alloc (Nat.le_refl _) (.cells #[.int .i64 0, .int .i64 0, .int .i64 0, .int .i64 0] 23)).mono hb.size)
  have R0_2 := Lib.hid (R0_1.out.turn hbb)
  have R1_2 := Lib.hid (RRow.new w2 ⟨0, 0, 0, 0⟩)
  try unfold Rect.arr at R1_2
  try dsimp only at R1_2
  have HB2 := Lib.hid (HB1.out.trans (hbb.mono HB1.out.size))
  clear R0_1 HB1
  clear hb hbb
  have p0_0 : (w2.alloc (.cells #[.int .i64 0, .int .i64 0, .int .i64 0, .int .i64 0] 23)).cell? ⟨w.heap.size, 0, none⟩ = some (.int .i64 x) := R0_2.out.cells.1
  have p0_1 : (w2.alloc (.cells #[.int .i64 0, .int .i64 0, .int .i64 0, .int .i64 0] 23)).cell? ⟨w.heap.size, 1, none⟩ = some (.int .i64 y) := R0_2.out.cells.2.1
  have p0_2 : (w2.alloc (.cells #[.int .i64 0, .int .i64 0, .int .i64 0, .int .i64 0] 23)).cell? ⟨w.heap.size, 2, none⟩ = some (.int .i64 u) := R0_2.out.cells.2.2.1
  have p0_3 : (w2.alloc (.cells #[.int .i64 0, .int .i64 0, .int .i64 0, .int .i64 0] 23)).cell? ⟨w.heap.size, 3, none⟩ = some (.int .i64 v) := R0_2.out.cells.2.2.2
  have p1_0 : (w2.alloc (.cells #[.int .i64 0, .int .i64 0, .int .i64 0, .int .i64 0] 23)).cell? ⟨w2.heap.size, 0, none⟩ = some (.int .i64 0) := R1_2.out.cells.1
  have p1_1 : (w2.alloc (.cells #[.int .i64 0, .int .i64 0, .int .i64 0, .int .i64 0] 23)).cell? ⟨w2.heap.size, 1, none⟩ = some (.int .i64 0) := R1_2.out.cells.2.1
  have p1_2 : (w2.alloc (.cells #[.int .i64 0, .int .i64 0, .int .i64 0, .int .i64 0] 23)).cell? ⟨w2.heap.size, 2, none⟩ = some (.int .i64 0) := R1_2.out.cells.2.2.1
  have p1_3 : (w2.alloc (.cells #[.int .i64 0, .int .i64 0, .int .i64 0, .int .i64 0] 23)).cell? ⟨w2.heap.size, 3, none⟩ = some (.int .i64 0) := R1_2.out.cells.2.2.2
  go_wp2_with (fail)
  clear p0_0 p0_1 p0_2 p0_3 p1_0 p1_1 p1_2 p1_3
  generalize hq : w2.alloc (.cells #[.int .i64 0, .int .i64 0, .int .i64 0, .int .i64 0] 23) = w2' at *
  clear hq
  generalize w2.heap.size = bw2 at *
  obtain ⟨m0, m1, m2, m3, me, c2⟩ := C2.out (wrap64 (-dx)) (wrap64 (-dy)) w2'
  try unfold Rect.arr at c2
  refine c2.mono ?_
  rintro e w3 ⟨rfl, hb⟩
  have hbb := hb.trans (((Below.refl _ w3).alloc (Nat.le_refl _) (.cells #[.int .i64 m0, .int .i64 m1, .int .i64 m2, .int .i64 m3] 23)).mono hb.size)
  clear c2
  have R0_3 := Lib.hid (R0_2.out.turn hbb)
  have R1_3 := Lib.hid (R1_2.out.turn hbb)
  have R2_3 := Lib.hid (RRow.new w3 ⟨m0, m1, m2, m3⟩)
  try unfold Rect.arr at R2_3
  try dsimp only at R2_3
  have HB3 := Lib.hid (HB2.out.trans (hbb.mono HB2.out.size))
  clear R0_2 R1_2 HB2
  clear hb hbb
  have p0_0 : (w3.alloc (.cells #[.int .i64 m0, .int .i64 m1, .int .i64 m2, .int .i64 m3] 23)).cell? ⟨w.heap.size, 0, none⟩ = some (.int .i64 x) := R0_3.out.cells.1
  have p0_1 : (w3.alloc (.cells #[.int .i64 m0, .int .i64 m1, .int .i64 m2, .int .i64 m3] 23)).cell? ⟨w.heap.size, 1, none⟩ = some (.int .i64 y) := R0_3.out.cells.2.1
  have p0_2 : (w3.alloc (.cells #[.int .i64 m0, .int .i64 m1, .int .i64 m2, .int .i64 m3] 23)).cell? ⟨w.heap.size, 2, none⟩ = some (.int .i64 u) := R0_3.out.cells.2.2.1
  have p0_3 : (w3.alloc (.cells #[.int .i64 m0, .int .i64 m1, .int .i64 m2, .int .i64 m3] 23)).cell? ⟨w.heap.size, 3, none⟩ = some (.int .i64 v) := R0_3.out.cells.2.2.2
  go_wp2_with (fail)
  clear p0_0 p0_1 p0_2 p0_3
  generalize hq : w3.alloc (.cells #[.int .i64 m0, .int .i64 m1, .int .i64 m2, .int .i64 m3] 23) = w3' at *
  clear hq
  generalize w3.heap.size = bw3 at *
  refine (C3.out _).mono ?_
  rintro e w4 ⟨rfl, hb⟩
  have hbb := hb.trans (((Below.refl _ w4).alloc (Nat.le_refl _) (.cells #[.int .i64 0, .int .i64 0, .int .i64 0, .int .i64 0] 23)).mono hb.size)
  have R0_4 := Lib.hid (R0_3.out.turn hbb)
  have R1_4 := Lib.hid (R1_3.out.turn hbb)
  have R2_4 := Lib.hid (R2_3.out.turn hbb)
  have R3_4 := Lib.hid (RRow.new w4 ⟨0, 0, 0, 0⟩)
  try unfold Rect.arr at R3_4
  try dsimp only at R3_4
  have HB4 := Lib.hid (HB3.out.trans (hbb.mono HB3.out.size))
  clear R0_3 R1_3 R2_3 HB3
  clear hb hbb
  have p0_0 : (w4.alloc (.cells #[.int .i64 0, .int .i64 0, .int .i64 0, .int .i64 0] 23)).cell? ⟨w.heap.size, 0, none⟩ = some (.int .i64 x) := R0_4.out.cells.1
  have p0_1 : (w4.alloc (.cells #[.int .i64 0, .int .i64 0, .int .i64 0, .int .i64 0] 23)).cell? ⟨w.heap.size, 1, none⟩ = some (.int .i64 y) := R0_4.out.cells.2.1
  have p0_2 : (w4.alloc (.cells #[.int .i64 0, .int .i64 0, .int .i64 0, .int .i64 0] 23)).cell? ⟨w.heap.size, 2, none⟩ = some (.int .i64 u) := R0_4.out.cells.2.2.1
  have p0_3 : (w4.alloc (.cells #[.int .i64 0, .int .i64 0, .int .i64 0, .int .i64 0] 23)).cell? ⟨w.heap.size, 3, none⟩ = some (.int .i64 v) := R0_4.out.cells.2.2.2
  have p1_0 : (w4.alloc (.cells #[.int .i64 0, .int .i64 0, .int .i64 0, .int .i64 0] 23)).cell? ⟨bw2, 0, none⟩ = some (.int .i64 0) := R1_4.out.cells.1
  have p1_1 : (w4.alloc (.cells #[.int .i64 0, .int .i64 0, .int .i64 0, .int .i64 0] 23)).cell? ⟨bw2, 1, none⟩ = some (.int .i64 0) := R1_4.out.cells.2.1
  have p1_2 : (w4.alloc (.cells #[.int .i64 0, .int .i64 0, .int .i64 0, .int .i64 0] 23)).cell? ⟨bw2, 2, none⟩ = some (.int .i64 0) := R1_4.out.cells.2.2.1
  have p1_3 : (w4.alloc (.cells #[.int .i64 0, .int .i64 0, .int .i64 0, .int .i64 0] 23)).cell? ⟨bw2, 3, none⟩ = some (.int .i64 0) := R1_4.out.cells.2.2.2
  go_wp2_with (fail)
  clear p0_0 p0_1 p0_2 p0_3 p1_0 p1_1 p1_2 p1_3
  generalize hq : w4.alloc (.cells #[.int .i64 0, .int .i64 0, .int .i64 0, .int .i64 0] 23) = w4' at *
  clear hq
  generalize w4.heap.size = bw4 at *
  refine (C4.out _).mono ?_
  rintro e w5 ⟨rfl, hb⟩
  have R0_5 := Lib.hid (R0_4.out.turn hb)
  have R1_5 := Lib.hid (R1_4.out.turn hb)
  have R2_5 := Lib.hid (R2_4.out.turn hb)
  have R3_5 := Lib.hid (R3_4.out.turn hb)
  have HB5 := Lib.hid (HB4.out.trans (hb.mono HB4.out.size))
  clear R0_4 R1_4 R2_4 R3_4 HB4
  clear hb
  clear C1 C2 C3 C4
  go_wp2_with (fail)
  go_ret
  exact ⟨rfl, HB5.out⟩

theorem back_walk (r : Rect) (dx dy : Int) (w : World) (b1 : -9223372036854775808 ≤ dx ∧ dx ≤ 9223372036854775807) (b2 : -9223372036854775808 ≤ dy ∧ dy ≤ 9223372036854775807) : Calls Try.prog 10 #[.agg r.arr, .int .i64 dx, .int .i64 dy] w fun e w' => e = .returned (.bool true) ∧ Below w.heap.size w w' := by
  cases h0 : okV r dx dy with
  | true =>
    have h := (okV_iff.1 h0).2.1
    exact back_ok r dx dy w h0 ⟨IntWalk.i64_in _ (by omega), IntWalk.i64_in _ (by omega)⟩
  | false =>
    cases h1 : right r with
    | true => exact back_no_r r dx dy w ⟨h0, h1⟩
    | false => exact back_no_w r dx dy w ⟨h0, h1⟩
end Go.Proofs.Ytnlojbkjhlhogaa
