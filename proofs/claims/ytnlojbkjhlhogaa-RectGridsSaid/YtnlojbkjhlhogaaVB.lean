/- Contract of the reference's Move: any rectangle, any two lengths. -/
import Derived.Test.YtnlojbkjhlhogaaV
namespace Go.Proofs.Ytnlojbkjhlhogaa
open Go Go.RowKit IV
set_option linter.unusedVariables false

set_option maxRecDepth 100000 in
set_option maxHeartbeats 2000000 in
theorem c22_a (r : Rect) (dx dy : Int) (w : World) (h0 : right r = false) : Calls Try.prog 22 #[.agg r.arr, .int .i64 dx, .int .i64 dy] w fun e w' => e = .returned (.tuple #[.agg (Rect.arr ⟨0, 0, 0, 0⟩), .int .i64 20]) ∧ Below w.heap.size w w' := by
  obtain ⟨q0, q1, hB⟩ := two_new w r ⟨0, 0, 0, 0⟩
  have Q0 := Lib.hid q0
  have Q1 := Lib.hid q1
  have HB := Lib.hid hB
  have C1 := Lib.hid (fun W => c15 r W)
  have C2 := Lib.hid (fun W => c15 ⟨r.x + dx, r.y + dy, r.w, r.h⟩ W)
  clear q0 q1 hB
  have H0 := Lib.hid h0
  clear h0
  
  generalize right r = rr at *
  generalize right ⟨r.x + dx, r.y + dy, r.w, r.h⟩ = r2 at *
  obtain ⟨x, y, u, v⟩ := r
  unfold Rect.arr at *
  dsimp only at *
  go_enter Try.func22, Try.ntmps22
  go_wp2_with (fail)
  generalize ((w.alloc (.cells #[.int .i64 x, .int .i64 y, .int .i64 u, .int .i64 v] 23)).alloc (.cells #[.int .i64 0, .int .i64 0, .int .i64 0, .int .i64 0] 23)) = w0 at *
  have p0 : w0.cell? ⟨w.heap.size, 0, none⟩ = some (.int .i64 x) := Q0.out.cells.1
  have p1 : w0.cell? ⟨w.heap.size, 1, none⟩ = some (.int .i64 y) := Q0.out.cells.2.1
  have p2 : w0.cell? ⟨w.heap.size, 2, none⟩ = some (.int .i64 u) := Q0.out.cells.2.2.1
  have p3 : w0.cell? ⟨w.heap.size, 3, none⟩ = some (.int .i64 v) := Q0.out.cells.2.2.2
  go_wp2_with (fail)
  clear p0 p1 p2 p3
  refine (C1.out _).mono ?_
  rintro e w1 ⟨rfl, hb⟩
  have R0 := Lib.hid (Q0.out.turn hb)
  have R1 := Lib.hid (Q1.out.turn hb)
  have HB1 := Lib.hid (HB.out.trans (hb.mono HB.out.size))
  clear hb Q0 Q1 HB C1
  obtain rfl := H0.out
  clear H0 C2
  have z0 : w1.cell? ⟨w.heap.size + 1, 0, none⟩ = some (.int .i64 0) := R1.out.cells.1
  have z1 : w1.cell? ⟨w.heap.size + 1, 1, none⟩ = some (.int .i64 0) := R1.out.cells.2.1
  have z2 : w1.cell? ⟨w.heap.size + 1, 2, none⟩ = some (.int .i64 0) := R1.out.cells.2.2.1
  have z3 : w1.cell? ⟨w.heap.size + 1, 3, none⟩ = some (.int .i64 0) := R1.out.cells.2.2.2
  have fz := R1.out.frozen
  try dsimp only at z0 z1 z2 z3
  go_wp2_with (fail)
  exact ⟨rfl, .tuple #[.agg #[.int .i64 0, .int .i64 0, .int .i64 0, .int .i64 0], .int .i64 20], by simp [results, Try.results22, go_sem, *], rfl, ((((HB1.out.setCell (p := ⟨w.heap.size + 1, 0, none⟩) (Nat.le_succ _) _).setCell (p := ⟨w.heap.size + 1, 1, none⟩) (Nat.le_succ _) _).setCell (p := ⟨w.heap.size + 1, 2, none⟩) (Nat.le_succ _) _).setCell (p := ⟨w.heap.size + 1, 3, none⟩) (Nat.le_succ _) _)⟩

set_option maxRecDepth 100000 in
set_option maxHeartbeats 2000000 in
theorem c22_b0 (r : Rect) (dx dy : Int) (w : World) (h0 : right r = true ∧ decide (2305843009213693952 < dx) = true) : Calls Try.prog 22 #[.agg r.arr, .int .i64 dx, .int .i64 dy] w fun e w' => e = .returned (.tuple #[.agg (Rect.arr ⟨0, 0, 0, 0⟩), .int .i64 20]) ∧ Below w.heap.size w w' := by
  obtain ⟨q0, q1, hB⟩ := two_new w r ⟨0, 0, 0, 0⟩
  have Q0 := Lib.hid q0
  have Q1 := Lib.hid q1
  have HB := Lib.hid hB
  have C1 := Lib.hid (fun W => c15 r W)
  have C2 := Lib.hid (fun W => c15 ⟨r.x + dx, r.y + dy, r.w, r.h⟩ W)
  clear q0 q1 hB
  have H0 := Lib.hid h0
  clear h0
  
  generalize right r = rr at *
  generalize right ⟨r.x + dx, r.y + dy, r.w, r.h⟩ = r2 at *
  obtain ⟨x, y, u, v⟩ := r
  unfold Rect.arr at *
  dsimp only at *
  go_enter Try.func22, Try.ntmps22
  go_wp2_with (fail)
  generalize ((w.alloc (.cells #[.int .i64 x, .int .i64 y, .int .i64 u, .int .i64 v] 23)).alloc (.cells #[.int .i64 0, .int .i64 0, .int .i64 0, .int .i64 0] 23)) = w0 at *
  have p0 : w0.cell? ⟨w.heap.size, 0, none⟩ = some (.int .i64 x) := Q0.out.cells.1
  have p1 : w0.cell? ⟨w.heap.size, 1, none⟩ = some (.int .i64 y) := Q0.out.cells.2.1
  have p2 : w0.cell? ⟨w.heap.size, 2, none⟩ = some (.int .i64 u) := Q0.out.cells.2.2.1
  have p3 : w0.cell? ⟨w.heap.size, 3, none⟩ = some (.int .i64 v) := Q0.out.cells.2.2.2
  go_wp2_with (fail)
  clear p0 p1 p2 p3
  refine (C1.out _).mono ?_
  rintro e w1 ⟨rfl, hb⟩
  have R0 := Lib.hid (Q0.out.turn hb)
  have R1 := Lib.hid (Q1.out.turn hb)
  have HB1 := Lib.hid (HB.out.trans (hb.mono HB.out.size))
  clear hb Q0 Q1 HB C1
  obtain ⟨rfl, t0⟩ := H0.out
  clear H0 C2
  have z0 : w1.cell? ⟨w.heap.size + 1, 0, none⟩ = some (.int .i64 0) := R1.out.cells.1
  have z1 : w1.cell? ⟨w.heap.size + 1, 1, none⟩ = some (.int .i64 0) := R1.out.cells.2.1
  have z2 : w1.cell? ⟨w.heap.size + 1, 2, none⟩ = some (.int .i64 0) := R1.out.cells.2.2.1
  have z3 : w1.cell? ⟨w.heap.size + 1, 3, none⟩ = some (.int .i64 0) := R1.out.cells.2.2.2
  have fz := R1.out.frozen
  try dsimp only at z0 z1 z2 z3
  go_wp2_with (fail)
  exact ⟨rfl, .tuple #[.agg #[.int .i64 0, .int .i64 0, .int .i64 0, .int .i64 0], .int .i64 20], by simp [results, Try.results22, go_sem, *], rfl, ((((HB1.out.setCell (p := ⟨w.heap.size + 1, 0, none⟩) (Nat.le_succ _) _).setCell (p := ⟨w.heap.size + 1, 1, none⟩) (Nat.le_succ _) _).setCell (p := ⟨w.heap.size + 1, 2, none⟩) (Nat.le_succ _) _).setCell (p := ⟨w.heap.size + 1, 3, none⟩) (Nat.le_succ _) _)⟩

set_option maxRecDepth 100000 in
set_option maxHeartbeats 2000000 in
theorem c22_b1 (r : Rect) (dx dy : Int) (w : World) (h0 : right r = true ∧ decide (2305843009213693952 < dx) = false ∧ decide (dx < -2305843009213693952) = true) : Calls Try.prog 22 #[.agg r.arr, .int .i64 dx, .int .i64 dy] w fun e w' => e = .returned (.tuple #[.agg (Rect.arr ⟨0, 0, 0, 0⟩), .int .i64 20]) ∧ Below w.heap.size w w' := by
  obtain ⟨q0, q1, hB⟩ := two_new w r ⟨0, 0, 0, 0⟩
  have Q0 := Lib.hid q0
  have Q1 := Lib.hid q1
  have HB := Lib.hid hB
  have C1 := Lib.hid (fun W => c15 r W)
  have C2 := Lib.hid (fun W => c15 ⟨r.x + dx, r.y + dy, r.w, r.h⟩ W)
  clear q0 q1 hB
  have H0 := Lib.hid h0
  clear h0
  
  generalize right r = rr at *
  generalize right ⟨r.x + dx, r.y + dy, r.w, r.h⟩ = r2 at *
  obtain ⟨x, y, u, v⟩ := r
  unfold Rect.arr at *
  dsimp only at *
  go_enter Try.func22, Try.ntmps22
  go_wp2_with (fail)
  generalize ((w.alloc (.cells #[.int .i64 x, .int .i64 y, .int .i64 u, .int .i64 v] 23)).alloc (.cells #[.int .i64 0, .int .i64 0, .int .i64 0, .int .i64 0] 23)) = w0 at *
  have p0 : w0.cell? ⟨w.heap.size, 0, none⟩ = some (.int .i64 x) := Q0.out.cells.1
  have p1 : w0.cell? ⟨w.heap.size, 1, none⟩ = some (.int .i64 y) := Q0.out.cells.2.1
  have p2 : w0.cell? ⟨w.heap.size, 2, none⟩ = some (.int .i64 u) := Q0.out.cells.2.2.1
  have p3 : w0.cell? ⟨w.heap.size, 3, none⟩ = some (.int .i64 v) := Q0.out.cells.2.2.2
  go_wp2_with (fail)
  clear p0 p1 p2 p3
  refine (C1.out _).mono ?_
  rintro e w1 ⟨rfl, hb⟩
  have R0 := Lib.hid (Q0.out.turn hb)
  have R1 := Lib.hid (Q1.out.turn hb)
  have HB1 := Lib.hid (HB.out.trans (hb.mono HB.out.size))
  clear hb Q0 Q1 HB C1
  obtain ⟨rfl, t0, t1⟩ := H0.out
  clear H0 C2
  have z0 : w1.cell? ⟨w.heap.size + 1, 0, none⟩ = some (.int .i64 0) := R1.out.cells.1
  have z1 : w1.cell? ⟨w.heap.size + 1, 1, none⟩ = some (.int .i64 0) := R1.out.cells.2.1
  have z2 : w1.cell? ⟨w.heap.size + 1, 2, none⟩ = some (.int .i64 0) := R1.out.cells.2.2.1
  have z3 : w1.cell? ⟨w.heap.size + 1, 3, none⟩ = some (.int .i64 0) := R1.out.cells.2.2.2
  have fz := R1.out.frozen
  try dsimp only at z0 z1 z2 z3
  go_wp2_with (fail)
  exact ⟨rfl, .tuple #[.agg #[.int .i64 0, .int .i64 0, .int .i64 0, .int .i64 0], .int .i64 20], by simp [results, Try.results22, go_sem, *], rfl, ((((HB1.out.setCell (p := ⟨w.heap.size + 1, 0, none⟩) (Nat.le_succ _) _).setCell (p := ⟨w.heap.size + 1, 1, none⟩) (Nat.le_succ _) _).setCell (p := ⟨w.heap.size + 1, 2, none⟩) (Nat.le_succ _) _).setCell (p := ⟨w.heap.size + 1, 3, none⟩) (Nat.le_succ _) _)⟩

set_option maxRecDepth 100000 in
set_option maxHeartbeats 2000000 in
theorem c22_b2 (r : Rect) (dx dy : Int) (w : World) (h0 : right r = true ∧ decide (2305843009213693952 < dx) = false ∧ decide (dx < -2305843009213693952) = false ∧ decide (2305843009213693952 < dy) = true) : Calls Try.prog 22 #[.agg r.arr, .int .i64 dx, .int .i64 dy] w fun e w' => e = .returned (.tuple #[.agg (Rect.arr ⟨0, 0, 0, 0⟩), .int .i64 20]) ∧ Below w.heap.size w w' := by
  obtain ⟨q0, q1, hB⟩ := two_new w r ⟨0, 0, 0, 0⟩
  have Q0 := Lib.hid q0
  have Q1 := Lib.hid q1
  have HB := Lib.hid hB
  have C1 := Lib.hid (fun W => c15 r W)
  have C2 := Lib.hid (fun W => c15 ⟨r.x + dx, r.y + dy, r.w, r.h⟩ W)
  clear q0 q1 hB
  have H0 := Lib.hid h0
  clear h0
  
  generalize right r = rr at *
  generalize right ⟨r.x + dx, r.y + dy, r.w, r.h⟩ = r2 at *
  obtain ⟨x, y, u, v⟩ := r
  unfold Rect.arr at *
  dsimp only at *
  go_enter Try.func22, Try.ntmps22
  go_wp2_with (fail)
  generalize ((w.alloc (.cells #[.int .i64 x, .int .i64 y, .int .i64 u, .int .i64 v] 23)).alloc (.cells #[.int .i64 0, .int .i64 0, .int .i64 0, .int .i64 0] 23)) = w0 at *
  have p0 : w0.cell? ⟨w.heap.size, 0, none⟩ = some (.int .i64 x) := Q0.out.cells.1
  have p1 : w0.cell? ⟨w.heap.size, 1, none⟩ = some (.int .i64 y) := Q0.out.cells.2.1
  have p2 : w0.cell? ⟨w.heap.size, 2, none⟩ = some (.int .i64 u) := Q0.out.cells.2.2.1
  have p3 : w0.cell? ⟨w.heap.size, 3, none⟩ = some (.int .i64 v) := Q0.out.cells.2.2.2
  go_wp2_with (fail)
  clear p0 p1 p2 p3
  refine (C1.out _).mono ?_
  rintro e w1 ⟨rfl, hb⟩
  have R0 := Lib.hid (Q0.out.turn hb)
  have R1 := Lib.hid (Q1.out.turn hb)
  have HB1 := Lib.hid (HB.out.trans (hb.mono HB.out.size))
  clear hb Q0 Q1 HB C1
  obtain ⟨rfl, t0, t1, t2⟩ := H0.out
  clear H0 C2
  have z0 : w1.cell? ⟨w.heap.size + 1, 0, none⟩ = some (.int .i64 0) := R1.out.cells.1
  have z1 : w1.cell? ⟨w.heap.size + 1, 1, none⟩ = some (.int .i64 0) := R1.out.cells.2.1
  have z2 : w1.cell? ⟨w.heap.size + 1, 2, none⟩ = some (.int .i64 0) := R1.out.cells.2.2.1
  have z3 : w1.cell? ⟨w.heap.size + 1, 3, none⟩ = some (.int .i64 0) := R1.out.cells.2.2.2
  have fz := R1.out.frozen
  try dsimp only at z0 z1 z2 z3
  go_wp2_with (fail)
  exact ⟨rfl, .tuple #[.agg #[.int .i64 0, .int .i64 0, .int .i64 0, .int .i64 0], .int .i64 20], by simp [results, Try.results22, go_sem, *], rfl, ((((HB1.out.setCell (p := ⟨w.heap.size + 1, 0, none⟩) (Nat.le_succ _) _).setCell (p := ⟨w.heap.size + 1, 1, none⟩) (Nat.le_succ _) _).setCell (p := ⟨w.heap.size + 1, 2, none⟩) (Nat.le_succ _) _).setCell (p := ⟨w.heap.size + 1, 3, none⟩) (Nat.le_succ _) _)⟩

set_option maxRecDepth 100000 in
set_option maxHeartbeats 2000000 in
theorem c22_b3 (r : Rect) (dx dy : Int) (w : World) (h0 : right r = true ∧ decide (2305843009213693952 < dx) = false ∧ decide (dx < -2305843009213693952) = false ∧ decide (2305843009213693952 < dy) = false ∧ decide (dy < -2305843009213693952) = true) : Calls Try.prog 22 #[.agg r.arr, .int .i64 dx, .int .i64 dy] w fun e w' => e = .returned (.tuple #[.agg (Rect.arr ⟨0, 0, 0, 0⟩), .int .i64 20]) ∧ Below w.heap.size w w' := by
  obtain ⟨q0, q1, hB⟩ := two_new w r ⟨0, 0, 0, 0⟩
  have Q0 := Lib.hid q0
  have Q1 := Lib.hid q1
  have HB := Lib.hid hB
  have C1 := Lib.hid (fun W => c15 r W)
  have C2 := Lib.hid (fun W => c15 ⟨r.x + dx, r.y + dy, r.w, r.h⟩ W)
  clear q0 q1 hB
  have H0 := Lib.hid h0
  clear h0
  
  generalize right r = rr at *
  generalize right ⟨r.x + dx, r.y + dy, r.w, r.h⟩ = r2 at *
  obtain ⟨x, y, u, v⟩ := r
  unfold Rect.arr at *
  dsimp only at *
  go_enter Try.func22, Try.ntmps22
  go_wp2_with (fail)
  generalize ((w.alloc (.cells #[.int .i64 x, .int .i64 y, .int .i64 u, .int .i64 v] 23)).alloc (.cells #[.int .i64 0, .int .i64 0, .int .i64 0, .int .i64 0] 23)) = w0 at *
  have p0 : w0.cell? ⟨w.heap.size, 0, none⟩ = some (.int .i64 x) := Q0.out.cells.1
  have p1 : w0.cell? ⟨w.heap.size, 1, none⟩ = some (.int .i64 y) := Q0.out.cells.2.1
  have p2 : w0.cell? ⟨w.heap.size, 2, none⟩ = some (.int .i64 u) := Q0.out.cells.2.2.1
  have p3 : w0.cell? ⟨w.heap.size, 3, none⟩ = some (.int .i64 v) := Q0.out.cells.2.2.2
  go_wp2_with (fail)
  clear p0 p1 p2 p3
  refine (C1.out _).mono ?_
  rintro e w1 ⟨rfl, hb⟩
  have R0 := Lib.hid (Q0.out.turn hb)
  have R1 := Lib.hid (Q1.out.turn hb)
  have HB1 := Lib.hid (HB.out.trans (hb.mono HB.out.size))
  clear hb Q0 Q1 HB C1
  obtain ⟨rfl, t0, t1, t2, t3⟩ := H0.out
  clear H0 C2
  have z0 : w1.cell? ⟨w.heap.size + 1, 0, none⟩ = some (.int .i64 0) := R1.out.cells.1
  have z1 : w1.cell? ⟨w.heap.size + 1, 1, none⟩ = some (.int .i64 0) := R1.out.cells.2.1
  have z2 : w1.cell? ⟨w.heap.size + 1, 2, none⟩ = some (.int .i64 0) := R1.out.cells.2.2.1
  have z3 : w1.cell? ⟨w.heap.size + 1, 3, none⟩ = some (.int .i64 0) := R1.out.cells.2.2.2
  have fz := R1.out.frozen
  try dsimp only at z0 z1 z2 z3
  go_wp2_with (fail)
  exact ⟨rfl, .tuple #[.agg #[.int .i64 0, .int .i64 0, .int .i64 0, .int .i64 0], .int .i64 20], by simp [results, Try.results22, go_sem, *], rfl, ((((HB1.out.setCell (p := ⟨w.heap.size + 1, 0, none⟩) (Nat.le_succ _) _).setCell (p := ⟨w.heap.size + 1, 1, none⟩) (Nat.le_succ _) _).setCell (p := ⟨w.heap.size + 1, 2, none⟩) (Nat.le_succ _) _).setCell (p := ⟨w.heap.size + 1, 3, none⟩) (Nat.le_succ _) _)⟩

set_option maxRecDepth 100000 in
set_option maxHeartbeats 2000000 in
theorem c22_c (r : Rect) (dx dy : Int) (w : World) (h0 : (right r = true ∧ right ⟨r.x + dx, r.y + dy, r.w, r.h⟩ = false) ∧ (IntKind.i64.wrap (r.x + dx) = r.x + dx ∧ IntKind.i64.wrap (r.y + dy) = r.y + dy) ∧ (decide (2305843009213693952 < dx) = false ∧ decide (dx < -2305843009213693952) = false ∧ decide (2305843009213693952 < dy) = false ∧ decide (dy < -2305843009213693952) = false)) : Calls Try.prog 22 #[.agg r.arr, .int .i64 dx, .int .i64 dy] w fun e w' => e = .returned (.tuple #[.agg (Rect.arr ⟨0, 0, 0, 0⟩), .int .i64 20]) ∧ Below w.heap.size w w' := by
  obtain ⟨q0, q1, hB⟩ := two_new w r ⟨0, 0, 0, 0⟩
  have Q0 := Lib.hid q0
  have Q1 := Lib.hid q1
  have HB := Lib.hid hB
  have C1 := Lib.hid (fun W => c15 r W)
  have C2 := Lib.hid (fun W => c15 ⟨r.x + dx, r.y + dy, r.w, r.h⟩ W)
  clear q0 q1 hB
  have H0 := Lib.hid h0
  clear h0
  
  generalize right r = rr at *
  generalize right ⟨r.x + dx, r.y + dy, r.w, r.h⟩ = r2 at *
  obtain ⟨x, y, u, v⟩ := r
  unfold Rect.arr at *
  dsimp only at *
  go_enter Try.func22, Try.ntmps22
  go_wp2_with (fail)
  generalize ((w.alloc (.cells #[.int .i64 x, .int .i64 y, .int .i64 u, .int .i64 v] 23)).alloc (.cells #[.int .i64 0, .int .i64 0, .int .i64 0, .int .i64 0] 23)) = w0 at *
  have p0 : w0.cell? ⟨w.heap.size, 0, none⟩ = some (.int .i64 x) := Q0.out.cells.1
  have p1 : w0.cell? ⟨w.heap.size, 1, none⟩ = some (.int .i64 y) := Q0.out.cells.2.1
  have p2 : w0.cell? ⟨w.heap.size, 2, none⟩ = some (.int .i64 u) := Q0.out.cells.2.2.1
  have p3 : w0.cell? ⟨w.heap.size, 3, none⟩ = some (.int .i64 v) := Q0.out.cells.2.2.2
  go_wp2_with (fail)
  clear p0 p1 p2 p3
  refine (C1.out _).mono ?_
  rintro e w1 ⟨rfl, hb⟩
  have R0 := Lib.hid (Q0.out.turn hb)
  have R1 := Lib.hid (Q1.out.turn hb)
  have HB1 := Lib.hid (HB.out.trans (hb.mono HB.out.size))
  clear hb Q0 Q1 HB C1
  obtain ⟨⟨rfl, rfl⟩, ⟨hx, hy⟩, t0, t1, t2, t3⟩ := H0.out
  clear H0
  have Hx := Lib.hid hx
  have Hy := Lib.hid hy
  clear hx hy
  have p0 : w1.cell? ⟨w.heap.size, 0, none⟩ = some (.int .i64 x) := R0.out.cells.1
  have p1 : w1.cell? ⟨w.heap.size, 1, none⟩ = some (.int .i64 y) := R0.out.cells.2.1
  have p2 : w1.cell? ⟨w.heap.size, 2, none⟩ = some (.int .i64 u) := R0.out.cells.2.2.1
  have p3 : w1.cell? ⟨w.heap.size, 3, none⟩ = some (.int .i64 v) := R0.out.cells.2.2.2
  have fz0 := R0.out.frozen
  have hx := Hx.out
  have hy := Hy.out
  try dsimp only at p0 p1 p2 p3 hx hy
  go_wp2_with (fail)
  have ra := (R0.out.store_x (x + dx)).store_y (y + dy)
  have rb := ((R1.out.other (p := ⟨w.heap.size, 0, none⟩) (Nat.ne_of_lt (Nat.lt_succ_self _)) (.int .i64 (x + dx)))).other (p := ⟨w.heap.size, 1, none⟩) (Nat.ne_of_lt (Nat.lt_succ_self _)) (.int .i64 (y + dy))
  have HBs := Lib.hid ((HB1.out.setCell (p := ⟨w.heap.size, 0, none⟩) (Nat.le_refl _) (.int .i64 (x + dx))).setCell (p := ⟨w.heap.size, 1, none⟩) (Nat.le_refl _) (.int .i64 (y + dy)))
  have Ta := Lib.hid ra
  have Tb := Lib.hid rb
  clear ra rb hx hy Hx Hy R0 R1 HB1 p0 p1 p2 p3 fz0
  generalize (w1.setCell ⟨w.heap.size, 0, none⟩ (.int .i64 (x + dx))).setCell ⟨w.heap.size, 1, none⟩ (.int .i64 (y + dy)) = W3 at *
  have p0 : W3.cell? ⟨w.heap.size, 0, none⟩ = some (.int .i64 (x + dx)) := Ta.out.cells.1
  have p1 : W3.cell? ⟨w.heap.size, 1, none⟩ = some (.int .i64 (y + dy)) := Ta.out.cells.2.1
  have p2 : W3.cell? ⟨w.heap.size, 2, none⟩ = some (.int .i64 u) := Ta.out.cells.2.2.1
  have p3 : W3.cell? ⟨w.heap.size, 3, none⟩ = some (.int .i64 v) := Ta.out.cells.2.2.2
  try dsimp only at p0 p1 p2 p3
  go_wp2_with (fail)
  refine (C2.out _).mono ?_
  rintro e w4 ⟨rfl, hb⟩
  have U0 := Lib.hid (Ta.out.turn hb)
  have U1 := Lib.hid (Tb.out.turn hb)
  have HB4 := Lib.hid (HBs.out.trans (hb.mono HBs.out.size))
  clear hb Ta Tb HBs C2 p0 p1 p2 p3
  have z0 : w4.cell? ⟨w.heap.size + 1, 0, none⟩ = some (.int .i64 0) := U1.out.cells.1
  have z1 : w4.cell? ⟨w.heap.size + 1, 1, none⟩ = some (.int .i64 0) := U1.out.cells.2.1
  have z2 : w4.cell? ⟨w.heap.size + 1, 2, none⟩ = some (.int .i64 0) := U1.out.cells.2.2.1
  have z3 : w4.cell? ⟨w.heap.size + 1, 3, none⟩ = some (.int .i64 0) := U1.out.cells.2.2.2
  have fz := U1.out.frozen
  try dsimp only at z0 z1 z2 z3
  go_wp2_with (fail)
  exact ⟨rfl, .tuple #[.agg #[.int .i64 0, .int .i64 0, .int .i64 0, .int .i64 0], .int .i64 20], by simp [results, Try.results22, go_sem, *], rfl, ((((HB4.out.setCell (p := ⟨w.heap.size + 1, 0, none⟩) (Nat.le_succ _) _).setCell (p := ⟨w.heap.size + 1, 1, none⟩) (Nat.le_succ _) _).setCell (p := ⟨w.heap.size + 1, 2, none⟩) (Nat.le_succ _) _).setCell (p := ⟨w.heap.size + 1, 3, none⟩) (Nat.le_succ _) _)⟩

set_option maxRecDepth 100000 in
set_option maxHeartbeats 2000000 in
theorem c22_d (r : Rect) (dx dy : Int) (w : World) (h0 : (right r = true ∧ right ⟨r.x + dx, r.y + dy, r.w, r.h⟩ = true) ∧ (IntKind.i64.wrap (r.x + dx) = r.x + dx ∧ IntKind.i64.wrap (r.y + dy) = r.y + dy) ∧ (decide (2305843009213693952 < dx) = false ∧ decide (dx < -2305843009213693952) = false ∧ decide (2305843009213693952 < dy) = false ∧ decide (dy < -2305843009213693952) = false)) : Calls Try.prog 22 #[.agg r.arr, .int .i64 dx, .int .i64 dy] w fun e w' => e = .returned (.tuple #[.agg (Rect.arr ⟨r.x + dx, r.y + dy, r.w, r.h⟩), .int .i64 0]) ∧ Below w.heap.size w w' := by
  obtain ⟨q0, q1, hB⟩ := two_new w r ⟨0, 0, 0, 0⟩
  have Q0 := Lib.hid q0
  have Q1 := Lib.hid q1
  have HB := Lib.hid hB
  have C1 := Lib.hid (fun W => c15 r W)
  have C2 := Lib.hid (fun W => c15 ⟨r.x + dx, r.y + dy, r.w, r.h⟩ W)
  clear q0 q1 hB
  have H0 := Lib.hid h0
  clear h0
  
  generalize right r = rr at *
  generalize right ⟨r.x + dx, r.y + dy, r.w, r.h⟩ = r2 at *
  obtain ⟨x, y, u, v⟩ := r
  unfold Rect.arr at *
  dsimp only at *
  go_enter Try.func22, Try.ntmps22
  go_wp2_with (fail)
  generalize ((w.alloc (.cells #[.int .i64 x, .int .i64 y, .int .i64 u, .int .i64 v] 23)).alloc (.cells #[.int .i64 0, .int .i64 0, .int .i64 0, .int .i64 0] 23)) = w0 at *
  have p0 : w0.cell? ⟨w.heap.size, 0, none⟩ = some (.int .i64 x) := Q0.out.cells.1
  have p1 : w0.cell? ⟨w.heap.size, 1, none⟩ = some (.int .i64 y) := Q0.out.cells.2.1
  have p2 : w0.cell? ⟨w.heap.size, 2, none⟩ = some (.int .i64 u) := Q0.out.cells.2.2.1
  have p3 : w0.cell? ⟨w.heap.size, 3, none⟩ = some (.int .i64 v) := Q0.out.cells.2.2.2
  go_wp2_with (fail)
  clear p0 p1 p2 p3
  refine (C1.out _).mono ?_
  rintro e w1 ⟨rfl, hb⟩
  have R0 := Lib.hid (Q0.out.turn hb)
  have R1 := Lib.hid (Q1.out.turn hb)
  have HB1 := Lib.hid (HB.out.trans (hb.mono HB.out.size))
  clear hb Q0 Q1 HB C1
  obtain ⟨⟨rfl, rfl⟩, ⟨hx, hy⟩, t0, t1, t2, t3⟩ := H0.out
  clear H0
  have Hx := Lib.hid hx
  have Hy := Lib.hid hy
  clear hx hy
  have p0 : w1.cell? ⟨w.heap.size, 0, none⟩ = some (.int .i64 x) := R0.out.cells.1
  have p1 : w1.cell? ⟨w.heap.size, 1, none⟩ = some (.int .i64 y) := R0.out.cells.2.1
  have p2 : w1.cell? ⟨w.heap.size, 2, none⟩ = some (.int .i64 u) := R0.out.cells.2.2.1
  have p3 : w1.cell? ⟨w.heap.size, 3, none⟩ = some (.int .i64 v) := R0.out.cells.2.2.2
  have fz0 := R0.out.frozen
  have hx := Hx.out
  have hy := Hy.out
  try dsimp only at p0 p1 p2 p3 hx hy
  go_wp2_with (fail)
  have ra := (R0.out.store_x (x + dx)).store_y (y + dy)
  have rb := ((R1.out.other (p := ⟨w.heap.size, 0, none⟩) (Nat.ne_of_lt (Nat.lt_succ_self _)) (.int .i64 (x + dx)))).other (p := ⟨w.heap.size, 1, none⟩) (Nat.ne_of_lt (Nat.lt_succ_self _)) (.int .i64 (y + dy))
  have HBs := Lib.hid ((HB1.out.setCell (p := ⟨w.heap.size, 0, none⟩) (Nat.le_refl _) (.int .i64 (x + dx))).setCell (p := ⟨w.heap.size, 1, none⟩) (Nat.le_refl _) (.int .i64 (y + dy)))
  have Ta := Lib.hid ra
  have Tb := Lib.hid rb
  clear ra rb hx hy Hx Hy R0 R1 HB1 p0 p1 p2 p3 fz0
  generalize (w1.setCell ⟨w.heap.size, 0, none⟩ (.int .i64 (x + dx))).setCell ⟨w.heap.size, 1, none⟩ (.int .i64 (y + dy)) = W3 at *
  have p0 : W3.cell? ⟨w.heap.size, 0, none⟩ = some (.int .i64 (x + dx)) := Ta.out.cells.1
  have p1 : W3.cell? ⟨w.heap.size, 1, none⟩ = some (.int .i64 (y + dy)) := Ta.out.cells.2.1
  have p2 : W3.cell? ⟨w.heap.size, 2, none⟩ = some (.int .i64 u) := Ta.out.cells.2.2.1
  have p3 : W3.cell? ⟨w.heap.size, 3, none⟩ = some (.int .i64 v) := Ta.out.cells.2.2.2
  try dsimp only at p0 p1 p2 p3
  go_wp2_with (fail)
  refine (C2.out _).mono ?_
  rintro e w4 ⟨rfl, hb⟩
  have U0 := Lib.hid (Ta.out.turn hb)
  have U1 := Lib.hid (Tb.out.turn hb)
  have HB4 := Lib.hid (HBs.out.trans (hb.mono HBs.out.size))
  clear hb Ta Tb HBs C2 p0 p1 p2 p3
  have p0 : w4.cell? ⟨w.heap.size, 0, none⟩ = some (.int .i64 (x + dx)) := U0.out.cells.1
  have p1 : w4.cell? ⟨w.heap.size, 1, none⟩ = some (.int .i64 (y + dy)) := U0.out.cells.2.1
  have p2 : w4.cell? ⟨w.heap.size, 2, none⟩ = some (.int .i64 u) := U0.out.cells.2.2.1
  have p3 : w4.cell? ⟨w.heap.size, 3, none⟩ = some (.int .i64 v) := U0.out.cells.2.2.2
  try dsimp only at p0 p1 p2 p3
  have z0 : w4.cell? ⟨w.heap.size + 1, 0, none⟩ = some (.int .i64 0) := U1.out.cells.1
  have z1 : w4.cell? ⟨w.heap.size + 1, 1, none⟩ = some (.int .i64 0) := U1.out.cells.2.1
  have z2 : w4.cell? ⟨w.heap.size + 1, 2, none⟩ = some (.int .i64 0) := U1.out.cells.2.2.1
  have z3 : w4.cell? ⟨w.heap.size + 1, 3, none⟩ = some (.int .i64 0) := U1.out.cells.2.2.2
  have fz := U1.out.frozen
  try dsimp only at z0 z1 z2 z3
  go_wp2_with (fail)
  exact ⟨rfl, .tuple #[.agg #[.int .i64 (x + dx), .int .i64 (y + dy), .int .i64 u, .int .i64 v], .int .i64 0], by simp [results, Try.results22, go_sem, *], rfl, ((((HB4.out.setCell (p := ⟨w.heap.size + 1, 0, none⟩) (Nat.le_succ _) _).setCell (p := ⟨w.heap.size + 1, 1, none⟩) (Nat.le_succ _) _).setCell (p := ⟨w.heap.size + 1, 2, none⟩) (Nat.le_succ _) _).setCell (p := ⟨w.heap.size + 1, 3, none⟩) (Nat.le_succ _) _)⟩

theorem c22 (r : Rect) (dx dy : Int) (w : World) : Calls Try.prog 22 #[.agg r.arr, .int .i64 dx, .int .i64 dy] w fun e w' => e = .returned (.tuple #[.agg (moved r dx dy).arr, .int .i64 (erV r dx dy)]) ∧ Below w.heap.size w w' := by
  cases h0 : right r with
  | false =>
    unfold moved erV okV
    rw [h0]
    exact c22_a r dx dy w h0
  | true =>
    have no : ∀ q : ¬ ((-2305843009213693952 ≤ dx ∧ dx ≤ 2305843009213693952) ∧ (-2305843009213693952 ≤ dy ∧ dy ≤ 2305843009213693952)), moved r dx dy = ⟨0, 0, 0, 0⟩ ∧ erV r dx dy = 20 := fun q => by
      unfold moved erV okV
      have : inB (-2305843009213693952) 2305843009213693952 [dx, dy] = false := by
        cases z : inB (-2305843009213693952) 2305843009213693952 [dx, dy] with
        | false => rfl
        | true => exact absurd (inB_two.1 z) q
      rw [this, h0]
      exact ⟨rfl, rfl⟩
    by_cases q0 : 2305843009213693952 < dx
    · have nn := no (by omega)
      rw [nn.1, nn.2]
      exact c22_b0 r dx dy w ⟨h0, decide_eq_true q0⟩
    by_cases q1 : dx < -2305843009213693952
    · have nn := no (by omega)
      rw [nn.1, nn.2]
      exact c22_b1 r dx dy w ⟨h0, decide_eq_false q0, decide_eq_true q1⟩
    by_cases q2 : 2305843009213693952 < dy
    · have nn := no (by omega)
      rw [nn.1, nn.2]
      exact c22_b2 r dx dy w ⟨h0, decide_eq_false q0, decide_eq_false q1, decide_eq_true q2⟩
    by_cases q3 : dy < -2305843009213693952
    · have nn := no (by omega)
      rw [nn.1, nn.2]
      exact c22_b3 r dx dy w ⟨h0, decide_eq_false q0, decide_eq_false q1, decide_eq_false q2, decide_eq_true q3⟩
    have h1 : inB (-2305843009213693952) 2305843009213693952 [dx, dy] = true := inB_two.2 (by omega)
    have tt : decide (2305843009213693952 < dx) = false ∧ decide (dx < -2305843009213693952) = false ∧ decide (2305843009213693952 < dy) = false ∧ decide (dy < -2305843009213693952) = false := ⟨decide_eq_false q0, decide_eq_false q1, decide_eq_false q2, decide_eq_false q3⟩
    unfold moved erV okV
    rw [h0, h1, Bool.true_and, Bool.true_and]
    cases h2 : right ⟨r.x + dx, r.y + dy, r.w, r.h⟩ with
    | false => exact c22_c r dx dy w ⟨⟨h0, h2⟩, lens_wrap h0 h1, tt⟩
    | true => exact c22_d r dx dy w ⟨⟨h0, h2⟩, lens_wrap h0 h1, tt⟩
end Go.Proofs.Ytnlojbkjhlhogaa
