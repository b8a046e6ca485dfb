/- Contract of rect.Move: any rectangle, any two lengths. -/
import Derived.Test.YtnlojbkjhlhogaaT
namespace Go.Proofs.Ytnlojbkjhlhogaa
open Go Go.RowKit IV
set_option linter.unusedVariables false

def okV (r : Rect) (dx dy : Int) : Bool := right r && (inB (-2305843009213693952) 2305843009213693952 [dx, dy] && right ⟨r.x + dx, r.y + dy, r.w, r.h⟩)
def moved (r : Rect) (dx dy : Int) : Rect := if okV r dx dy = true then ⟨r.x + dx, r.y + dy, r.w, r.h⟩ else ⟨0, 0, 0, 0⟩
def erV (r : Rect) (dx dy : Int) : Int := if okV r dx dy = true then 0 else 20
theorem inB_two {lo hi a b : Int} : inB lo hi [a, b] = true ↔ (lo ≤ a ∧ a ≤ hi) ∧ (lo ≤ b ∧ b ≤ hi) := by
  unfold inB; simp
theorem lens_wrap {r : Rect} {dx dy : Int} (h0 : right r = true) (h1 : inB (-2305843009213693952) 2305843009213693952 [dx, dy] = true) : IntKind.i64.wrap (r.x + dx) = r.x + dx ∧ IntKind.i64.wrap (r.y + dy) = r.y + dy := by
  have a := right_iff.1 h0
  have b := inB_two.1 h1
  exact ⟨IntWalk.i64_in _ (by omega), IntWalk.i64_in _ (by omega)⟩

theorem RRow.store_x {W : World} {B : Nat} {s : Rect} (h : RRow W B s) (n : Int) : RRow (W.setCell ⟨B, 0, none⟩ (.int .i64 n)) B ⟨n, s.y, s.w, s.h⟩ := ⟨by simp [World.setCell, Array.getElem?_modify, h.at_, Rect.arr]⟩
theorem RRow.store_y {W : World} {B : Nat} {s : Rect} (h : RRow W B s) (n : Int) : RRow (W.setCell ⟨B, 1, none⟩ (.int .i64 n)) B ⟨s.x, n, s.w, s.h⟩ := ⟨by simp [World.setCell, Array.getElem?_modify, h.at_, Rect.arr]⟩
theorem RRow.store_w {W : World} {B : Nat} {s : Rect} (h : RRow W B s) (n : Int) : RRow (W.setCell ⟨B, 2, none⟩ (.int .i64 n)) B ⟨s.x, s.y, n, s.h⟩ := ⟨by simp [World.setCell, Array.getElem?_modify, h.at_, Rect.arr]⟩
theorem RRow.store_h {W : World} {B : Nat} {s : Rect} (h : RRow W B s) (n : Int) : RRow (W.setCell ⟨B, 3, none⟩ (.int .i64 n)) B ⟨s.x, s.y, s.w, n⟩ := ⟨by simp [World.setCell, Array.getElem?_modify, h.at_, Rect.arr]⟩
theorem RRow.other {W : World} {B : Nat} {s : Rect} (h : RRow W B s) {p : Addr} (hp : p.block ≠ B) (v : Value) : RRow (W.setCell p v) B s := ⟨by simp [World.setCell, Array.getElem?_modify, h.at_, hp]⟩

set_option maxRecDepth 100000 in
set_option maxHeartbeats 2000000 in
theorem c21_a (r : Rect) (dx dy : Int) (w : World) (h0 : right r = false) : Calls Try.prog 21 #[.agg r.arr, .int .i64 dx, .int .i64 dy] w fun e w' => e = .returned (.tuple #[.agg (Rect.arr ⟨0, 0, 0, 0⟩), .int .i64 20]) ∧ Below w.heap.size w w' := by
  obtain ⟨q0, q1, hB⟩ := two_new w r ⟨0, 0, 0, 0⟩
  have Q0 := Lib.hid q0
  have Q1 := Lib.hid q1
  have HB := Lib.hid hB
  have C1 := Lib.hid (fun W => c14 r W)
  have C2 := Lib.hid (fun W => c14 ⟨r.x + dx, r.y + dy, r.w, r.h⟩ W)
  clear q0 q1 hB
  have H0 := Lib.hid h0
  clear h0
  
  generalize right r = rr at *
  generalize right ⟨r.x + dx, r.y + dy, r.w, r.h⟩ = r2 at *
  obtain ⟨x, y, u, v⟩ := r
  unfold Rect.arr at *
  dsimp only at *
  go_enter Try.func21, Try.ntmps21
  go_wp2_with (fail)
  generalize ((w.alloc (.cells #[.int .i64 x, .int .i64 y, .int .i64 u, .int .i64 v] 23)).alloc (.cells #[.int .i64 0, .int .i64 0, .int .i64 0, .int .i64 0] 23)) = w0 at *
  have p0 : w0.cell? ⟨w.heap.size, 0, none⟩ = some (.int .i64 x) := Q0.out.cells.1
  have p1 : w0.cell? ⟨w.heap.size, 1, none⟩ = some (.int .i64 y) := Q0.out.cells.2.1
  have p2 : w0.cell? ⟨w.heap.size, 2, none⟩ = some (.int .i64 u) := Q0.out.cells.2.2.1
  have p3 : w0.cell? ⟨w.heap.size, 3, none⟩ = some (.int .i64 v) := Q0.out.cells.2.2.2
  go_wp2_with (fail)
  clear p0 p1 p2 p3
  refine (C1.out _).mono ?_
  rintro e w1 ⟨rfl, hb⟩
  have R0 := Lib.hid (Q0.out.turn hb)
  have R1 := Lib.hid (Q1.out.turn hb)
  have HB1 := Lib.hid (HB.out.trans (hb.mono HB.out.size))
  clear hb Q0 Q1 HB C1
  obtain rfl := H0.out
  clear H0 C2
  have z0 : w1.cell? ⟨w.heap.size + 1, 0, none⟩ = some (.int .i64 0) := R1.out.cells.1
  have z1 : w1.cell? ⟨w.heap.size + 1, 1, none⟩ = some (.int .i64 0) := R1.out.cells.2.1
  have z2 : w1.cell? ⟨w.heap.size + 1, 2, none⟩ = some (.int .i64 0) := R1.out.cells.2.2.1
  have z3 : w1.cell? ⟨w.heap.size + 1, 3, none⟩ = some (.int .i64 0) := R1.out.cells.2.2.2
  have fz := R1.out.frozen
  try dsimp only at z0 z1 z2 z3
  go_wp2_with (fail)
  exact ⟨rfl, .tuple #[.agg #[.int .i64 0, .int .i64 0, .int .i64 0, .int .i64 0], .int .i64 20], by simp [results, Try.results21, go_sem, *], rfl, ((((HB1.out.setCell (p := ⟨w.heap.size + 1, 0, none⟩) (Nat.le_succ _) _).setCell (p := ⟨w.heap.size + 1, 1, none⟩) (Nat.le_succ _) _).setCell (p := ⟨w.heap.size + 1, 2, none⟩) (Nat.le_succ _) _).setCell (p := ⟨w.heap.size + 1, 3, none⟩) (Nat.le_succ _) _)⟩

set_option maxRecDepth 100000 in
set_option maxHeartbeats 2000000 in
theorem c21_b (r : Rect) (dx dy : Int) (w : World) (h0 : right r = true ∧ inB (-2305843009213693952) 2305843009213693952 [dx, dy] = false) : Calls Try.prog 21 #[.agg r.arr, .int .i64 dx, .int .i64 dy] w fun e w' => e = .returned (.tuple #[.agg (Rect.arr ⟨0, 0, 0, 0⟩), .int .i64 20]) ∧ Below w.heap.size w w' := by
  obtain ⟨q0, q1, hB⟩ := two_new w r ⟨0, 0, 0, 0⟩
  have Q0 := Lib.hid q0
  have Q1 := Lib.hid q1
  have HB := Lib.hid hB
  have C1 := Lib.hid (fun W => c14 r W)
  have C2 := Lib.hid (fun W => c14 ⟨r.x + dx, r.y + dy, r.w, r.h⟩ W)
  clear q0 q1 hB
  have H0 := Lib.hid h0
  clear h0
  generalize hn : inB (-2305843009213693952) 2305843009213693952 [dx, dy] = inn at *
  generalize right r = rr at *
  generalize right ⟨r.x + dx, r.y + dy, r.w, r.h⟩ = r2 at *
  obtain ⟨x, y, u, v⟩ := r
  unfold Rect.arr at *
  dsimp only at *
  go_enter Try.func21, Try.ntmps21
  go_wp2_with (fail)
  generalize ((w.alloc (.cells #[.int .i64 x, .int .i64 y, .int .i64 u, .int .i64 v] 23)).alloc (.cells #[.int .i64 0, .int .i64 0, .int .i64 0, .int .i64 0] 23)) = w0 at *
  have p0 : w0.cell? ⟨w.heap.size, 0, none⟩ = some (.int .i64 x) := Q0.out.cells.1
  have p1 : w0.cell? ⟨w.heap.size, 1, none⟩ = some (.int .i64 y) := Q0.out.cells.2.1
  have p2 : w0.cell? ⟨w.heap.size, 2, none⟩ = some (.int .i64 u) := Q0.out.cells.2.2.1
  have p3 : w0.cell? ⟨w.heap.size, 3, none⟩ = some (.int .i64 v) := Q0.out.cells.2.2.2
  go_wp2_with (fail)
  clear p0 p1 p2 p3
  refine (C1.out _).mono ?_
  rintro e w1 ⟨rfl, hb⟩
  have R0 := Lib.hid (Q0.out.turn hb)
  have R1 := Lib.hid (Q1.out.turn hb)
  have HB1 := Lib.hid (HB.out.trans (hb.mono HB.out.size))
  clear hb Q0 Q1 HB C1
  obtain ⟨rfl, rfl⟩ := H0.out
  clear H0 C2
  have p0 : w1.cell? ⟨w.heap.size, 0, none⟩ = some (.int .i64 x) := R0.out.cells.1
  have p1 : w1.cell? ⟨w.heap.size, 1, none⟩ = some (.int .i64 y) := R0.out.cells.2.1
  have p2 : w1.cell? ⟨w.heap.size, 2, none⟩ = some (.int .i64 u) := R0.out.cells.2.2.1
  have p3 : w1.cell? ⟨w.heap.size, 3, none⟩ = some (.int .i64 v) := R0.out.cells.2.2.2
  go_wp2_with (fail)
  refine (k29 (-2305843009213693952) 2305843009213693952 dx dy w1 _ _ rfl rfl).mono ?_
  rw [hn]
  clear hn
  rintro e w2 ⟨rfl, rfl⟩
  have hbb := (Below.refl _ w1).alloc (Nat.le_refl _) (.cells #[.int .i64 dx, .int .i64 dy] 2)
  have S0 := Lib.hid (R0.out.turn hbb)
  have S1 := Lib.hid (R1.out.turn hbb)
  have HB2 := Lib.hid (HB1.out.trans (hbb.mono HB1.out.size))
  clear hbb R0 R1 HB1 p0 p1 p2 p3
  generalize w1.alloc (.cells #[.int .i64 dx, .int .i64 dy] 2) = w2 at *
  have z0 : w2.cell? ⟨w.heap.size + 1, 0, none⟩ = some (.int .i64 0) := S1.out.cells.1
  have z1 : w2.cell? ⟨w.heap.size + 1, 1, none⟩ = some (.int .i64 0) := S1.out.cells.2.1
  have z2 : w2.cell? ⟨w.heap.size + 1, 2, none⟩ = some (.int .i64 0) := S1.out.cells.2.2.1
  have z3 : w2.cell? ⟨w.heap.size + 1, 3, none⟩ = some (.int .i64 0) := S1.out.cells.2.2.2
  have fz := S1.out.frozen
  try dsimp only at z0 z1 z2 z3
  go_wp2_with (fail)
  exact ⟨rfl, .tuple #[.agg #[.int .i64 0, .int .i64 0, .int .i64 0, .int .i64 0], .int .i64 20], by simp [results, Try.results21, go_sem, *], rfl, ((((HB2.out.setCell (p := ⟨w.heap.size + 1, 0, none⟩) (Nat.le_succ _) _).setCell (p := ⟨w.heap.size + 1, 1, none⟩) (Nat.le_succ _) _).setCell (p := ⟨w.heap.size + 1, 2, none⟩) (Nat.le_succ _) _).setCell (p := ⟨w.heap.size + 1, 3, none⟩) (Nat.le_succ _) _)⟩

set_option maxRecDepth 100000 in
set_option maxHeartbeats 2000000 in
theorem c21_c (r : Rect) (dx dy : Int) (w : World) (h0 : (right r = true ∧ right ⟨r.x + dx, r.y + dy, r.w, r.h⟩ = false) ∧ (IntKind.i64.wrap (r.x + dx) = r.x + dx ∧ IntKind.i64.wrap (r.y + dy) = r.y + dy) ∧ inB (-2305843009213693952) 2305843009213693952 [dx, dy] = true) : Calls Try.prog 21 #[.agg r.arr, .int .i64 dx, .int .i64 dy] w fun e w' => e = .returned (.tuple #[.agg (Rect.arr ⟨0, 0, 0, 0⟩), .int .i64 20]) ∧ Below w.heap.size w w' := by
  obtain ⟨q0, q1, hB⟩ := two_new w r ⟨0, 0, 0, 0⟩
  have Q0 := Lib.hid q0
  have Q1 := Lib.hid q1
  have HB := Lib.hid hB
  have C1 := Lib.hid (fun W => c14 r W)
  have C2 := Lib.hid (fun W => c14 ⟨r.x + dx, r.y + dy, r.w, r.h⟩ W)
  clear q0 q1 hB
  have H0 := Lib.hid h0
  clear h0
  generalize hn : inB (-2305843009213693952) 2305843009213693952 [dx, dy] = inn at *
  generalize right r = rr at *
  generalize right ⟨r.x + dx, r.y + dy, r.w, r.h⟩ = r2 at *
  obtain ⟨x, y, u, v⟩ := r
  unfold Rect.arr at *
  dsimp only at *
  go_enter Try.func21, Try.ntmps21
  go_wp2_with (fail)
  generalize ((w.alloc (.cells #[.int .i64 x, .int .i64 y, .int .i64 u, .int .i64 v] 23)).alloc (.cells #[.int .i64 0, .int .i64 0, .int .i64 0, .int .i64 0] 23)) = w0 at *
  have p0 : w0.cell? ⟨w.heap.size, 0, none⟩ = some (.int .i64 x) := Q0.out.cells.1
  have p1 : w0.cell? ⟨w.heap.size, 1, none⟩ = some (.int .i64 y) := Q0.out.cells.2.1
  have p2 : w0.cell? ⟨w.heap.size, 2, none⟩ = some (.int .i64 u) := Q0.out.cells.2.2.1
  have p3 : w0.cell? ⟨w.heap.size, 3, none⟩ = some (.int .i64 v) := Q0.out.cells.2.2.2
  go_wp2_with (fail)
  clear p0 p1 p2 p3
  refine (C1.out _).mono ?_
  rintro e w1 ⟨rfl, hb⟩
  have R0 := Lib.hid (Q0.out.turn hb)
  have R1 := Lib.hid (Q1.out.turn hb)
  have HB1 := Lib.hid (HB.out.trans (hb.mono HB.out.size))
  clear hb Q0 Q1 HB C1
  obtain ⟨⟨rfl, rfl⟩, ⟨hx, hy⟩, rfl⟩ := H0.out
  clear H0
  have Hx := Lib.hid hx
  have Hy := Lib.hid hy
  clear hx hy
  have p0 : w1.cell? ⟨w.heap.size, 0, none⟩ = some (.int .i64 x) := R0.out.cells.1
  have p1 : w1.cell? ⟨w.heap.size, 1, none⟩ = some (.int .i64 y) := R0.out.cells.2.1
  have p2 : w1.cell? ⟨w.heap.size, 2, none⟩ = some (.int .i64 u) := R0.out.cells.2.2.1
  have p3 : w1.cell? ⟨w.heap.size, 3, none⟩ = some (.int .i64 v) := R0.out.cells.2.2.2
  go_wp2_with (fail)
  refine (k29 (-2305843009213693952) 2305843009213693952 dx dy w1 _ _ rfl rfl).mono ?_
  rw [hn]
  clear hn
  rintro e w2 ⟨rfl, rfl⟩
  have hbb := (Below.refl _ w1).alloc (Nat.le_refl _) (.cells #[.int .i64 dx, .int .i64 dy] 2)
  have S0 := Lib.hid (R0.out.turn hbb)
  have S1 := Lib.hid (R1.out.turn hbb)
  have HB2 := Lib.hid (HB1.out.trans (hbb.mono HB1.out.size))
  clear hbb R0 R1 HB1 p0 p1 p2 p3
  generalize w1.alloc (.cells #[.int .i64 dx, .int .i64 dy] 2) = w2 at *
  have p0 : w2.cell? ⟨w.heap.size, 0, none⟩ = some (.int .i64 x) := S0.out.cells.1
  have p1 : w2.cell? ⟨w.heap.size, 1, none⟩ = some (.int .i64 y) := S0.out.cells.2.1
  have p2 : w2.cell? ⟨w.heap.size, 2, none⟩ = some (.int .i64 u) := S0.out.cells.2.2.1
  have p3 : w2.cell? ⟨w.heap.size, 3, none⟩ = some (.int .i64 v) := S0.out.cells.2.2.2
  have fz0 := S0.out.frozen
  have hx := Hx.out
  have hy := Hy.out
  try dsimp only at p0 p1 p2 p3 hx hy
  go_wp2_with (fail)
  have ra := (S0.out.store_x (x + dx)).store_y (y + dy)
  have rb := ((S1.out.other (p := ⟨w.heap.size, 0, none⟩) (Nat.ne_of_lt (Nat.lt_succ_self _)) (.int .i64 (x + dx)))).other (p := ⟨w.heap.size, 1, none⟩) (Nat.ne_of_lt (Nat.lt_succ_self _)) (.int .i64 (y + dy))
  have HBs := Lib.hid ((HB2.out.setCell (p := ⟨w.heap.size, 0, none⟩) (Nat.le_refl _) (.int .i64 (x + dx))).setCell (p := ⟨w.heap.size, 1, none⟩) (Nat.le_refl _) (.int .i64 (y + dy)))
  have Ta := Lib.hid ra
  have Tb := Lib.hid rb
  clear ra rb hx hy Hx Hy S0 S1 HB2 p0 p1 p2 p3 fz0
  generalize (w2.setCell ⟨w.heap.size, 0, none⟩ (.int .i64 (x + dx))).setCell ⟨w.heap.size, 1, none⟩ (.int .i64 (y + dy)) = W3 at *
  have p0 : W3.cell? ⟨w.heap.size, 0, none⟩ = some (.int .i64 (x + dx)) := Ta.out.cells.1
  have p1 : W3.cell? ⟨w.heap.size, 1, none⟩ = some (.int .i64 (y + dy)) := Ta.out.cells.2.1
  have p2 : W3.cell? ⟨w.heap.size, 2, none⟩ = some (.int .i64 u) := Ta.out.cells.2.2.1
  have p3 : W3.cell? ⟨w.heap.size, 3, none⟩ = some (.int .i64 v) := Ta.out.cells.2.2.2
  try dsimp only at p0 p1 p2 p3
  go_wp2_with (fail)
  refine (C2.out _).mono ?_
  rintro e w4 ⟨rfl, hb⟩
  have U0 := Lib.hid (Ta.out.turn hb)
  have U1 := Lib.hid (Tb.out.turn hb)
  have HB4 := Lib.hid (HBs.out.trans (hb.mono HBs.out.size))
  clear hb Ta Tb HBs C2 p0 p1 p2 p3
  have z0 : w4.cell? ⟨w.heap.size + 1, 0, none⟩ = some (.int .i64 0) := U1.out.cells.1
  have z1 : w4.cell? ⟨w.heap.size + 1, 1, none⟩ = some (.int .i64 0) := U1.out.cells.2.1
  have z2 : w4.cell? ⟨w.heap.size + 1, 2, none⟩ = some (.int .i64 0) := U1.out.cells.2.2.1
  have z3 : w4.cell? ⟨w.heap.size + 1, 3, none⟩ = some (.int .i64 0) := U1.out.cells.2.2.2
  have fz := U1.out.frozen
  try dsimp only at z0 z1 z2 z3
  go_wp2_with (fail)
  exact ⟨rfl, .tuple #[.agg #[.int .i64 0, .int .i64 0, .int .i64 0, .int .i64 0], .int .i64 20], by simp [results, Try.results21, go_sem, *], rfl, ((((HB4.out.setCell (p := ⟨w.heap.size + 1, 0, none⟩) (Nat.le_succ _) _).setCell (p := ⟨w.heap.size + 1, 1, none⟩) (Nat.le_succ _) _).setCell (p := ⟨w.heap.size + 1, 2, none⟩) (Nat.le_succ _) _).setCell (p := ⟨w.heap.size + 1, 3, none⟩) (Nat.le_succ _) _)⟩

set_option maxRecDepth 100000 in
set_option maxHeartbeats 2000000 in
theorem c21_d (r : Rect) (dx dy : Int) (w : World) (h0 : (right r = true ∧ right ⟨r.x + dx, r.y + dy, r.w, r.h⟩ = true) ∧ (IntKind.i64.wrap (r.x + dx) = r.x + dx ∧ IntKind.i64.wrap (r.y + dy) = r.y + dy) ∧ inB (-2305843009213693952) 2305843009213693952 [dx, dy] = true) : Calls Try.prog 21 #[.agg r.arr, .int .i64 dx, .int .i64 dy] w fun e w' => e = .returned (.tuple #[.agg (Rect.arr ⟨r.x + dx, r.y + dy, r.w, r.h⟩), .int .i64 0]) ∧ Below w.heap.size w w' := by
  obtain ⟨q0, q1, hB⟩ := two_new w r ⟨0, 0, 0, 0⟩
  have Q0 := Lib.hid q0
  have Q1 := Lib.hid q1
  have HB := Lib.hid hB
  have C1 := Lib.hid (fun W => c14 r W)
  have C2 := Lib.hid (fun W => c14 ⟨r.x + dx, r.y + dy, r.w, r.h⟩ W)
  clear q0 q1 hB
  have H0 := Lib.hid h0
  clear h0
  generalize hn : inB (-2305843009213693952) 2305843009213693952 [dx, dy] = inn at *
  generalize right r = rr at *
  generalize right ⟨r.x + dx, r.y + dy, r.w, r.h⟩ = r2 at *
  obtain ⟨x, y, u, v⟩ := r
  unfold Rect.arr at *
  dsimp only at *
  go_enter Try.func21, Try.ntmps21
  go_wp2_with (fail)
  generalize ((w.alloc (.cells #[.int .i64 x, .int .i64 y, .int .i64 u, .int .i64 v] 23)).alloc (.cells #[.int .i64 0, .int .i64 0, .int .i64 0, .int .i64 0] 23)) = w0 at *
  have p0 : w0.cell? ⟨w.heap.size, 0, none⟩ = some (.int .i64 x) := Q0.out.cells.1
  have p1 : w0.cell? ⟨w.heap.size, 1, none⟩ = some (.int .i64 y) := Q0.out.cells.2.1
  have p2 : w0.cell? ⟨w.heap.size, 2, none⟩ = some (.int .i64 u) := Q0.out.cells.2.2.1
  have p3 : w0.cell? ⟨w.heap.size, 3, none⟩ = some (.int .i64 v) := Q0.out.cells.2.2.2
  go_wp2_with (fail)
  clear p0 p1 p2 p3
  refine (C1.out _).mono ?_
  rintro e w1 ⟨rfl, hb⟩
  have R0 := Lib.hid (Q0.out.turn hb)
  have R1 := Lib.hid (Q1.out.turn hb)
  have HB1 := Lib.hid (HB.out.trans (hb.mono HB.out.size))
  clear hb Q0 Q1 HB C1
  obtain ⟨⟨rfl, rfl⟩, ⟨hx, hy⟩, rfl⟩ := H0.out
  clear H0
  have Hx := Lib.hid hx
  have Hy := Lib.hid hy
  clear hx hy
  have p0 : w1.cell? ⟨w.heap.size, 0, none⟩ = some (.int .i64 x) := R0.out.cells.1
  have p1 : w1.cell? ⟨w.heap.size, 1, none⟩ = some (.int .i64 y) := R0.out.cells.2.1
  have p2 : w1.cell? ⟨w.heap.size, 2, none⟩ = some (.int .i64 u) := R0.out.cells.2.2.1
  have p3 : w1.cell? ⟨w.heap.size, 3, none⟩ = some (.int .i64 v) := R0.out.cells.2.2.2
  go_wp2_with (fail)
  refine (k29 (-2305843009213693952) 2305843009213693952 dx dy w1 _ _ rfl rfl).mono ?_
  rw [hn]
  clear hn
  rintro e w2 ⟨rfl, rfl⟩
  have hbb := (Below.refl _ w1).alloc (Nat.le_refl _) (.cells #[.int .i64 dx, .int .i64 dy] 2)
  have S0 := Lib.hid (R0.out.turn hbb)
  have S1 := Lib.hid (R1.out.turn hbb)
  have HB2 := Lib.hid (HB1.out.trans (hbb.mono HB1.out.size))
  clear hbb R0 R1 HB1 p0 p1 p2 p3
  generalize w1.alloc (.cells #[.int .i64 dx, .int .i64 dy] 2) = w2 at *
  have p0 : w2.cell? ⟨w.heap.size, 0, none⟩ = some (.int .i64 x) := S0.out.cells.1
  have p1 : w2.cell? ⟨w.heap.size, 1, none⟩ = some (.int .i64 y) := S0.out.cells.2.1
  have p2 : w2.cell? ⟨w.heap.size, 2, none⟩ = some (.int .i64 u) := S0.out.cells.2.2.1
  have p3 : w2.cell? ⟨w.heap.size, 3, none⟩ = some (.int .i64 v) := S0.out.cells.2.2.2
  have fz0 := S0.out.frozen
  have hx := Hx.out
  have hy := Hy.out
  try dsimp only at p0 p1 p2 p3 hx hy
  go_wp2_with (fail)
  have ra := (S0.out.store_x (x + dx)).store_y (y + dy)
  have rb := ((S1.out.other (p := ⟨w.heap.size, 0, none⟩) (Nat.ne_of_lt (Nat.lt_succ_self _)) (.int .i64 (x + dx)))).other (p := ⟨w.heap.size, 1, none⟩) (Nat.ne_of_lt (Nat.lt_succ_self _)) (.int .i64 (y + dy))
  have HBs := Lib.hid ((HB2.out.setCell (p := ⟨w.heap.size, 0, none⟩) (Nat.le_refl _) (.int .i64 (x + dx))).setCell (p := ⟨w.heap.size, 1, none⟩) (Nat.le_refl _) (.int .i64 (y + dy)))
  have Ta := Lib.hid ra
  have Tb := Lib.hid rb
  clear ra rb hx hy Hx Hy S0 S1 HB2 p0 p1 p2 p3 fz0
  generalize (w2.setCell ⟨w.heap.size, 0, none⟩ (.int .i64 (x + dx))).setCell ⟨w.heap.size, 1, none⟩ (.int .i64 (y + dy)) = W3 at *
  have p0 : W3.cell? ⟨w.heap.size, 0, none⟩ = some (.int .i64 (x + dx)) := Ta.out.cells.1
  have p1 : W3.cell? ⟨w.heap.size, 1, none⟩ = some (.int .i64 (y + dy)) := Ta.out.cells.2.1
  have p2 : W3.cell? ⟨w.heap.size, 2, none⟩ = some (.int .i64 u) := Ta.out.cells.2.2.1
  have p3 : W3.cell? ⟨w.heap.size, 3, none⟩ = some (.int .i64 v) := Ta.out.cells.2.2.2
  try dsimp only at p0 p1 p2 p3
  go_wp2_with (fail)
  refine (C2.out _).mono ?_
  rintro e w4 ⟨rfl, hb⟩
  have U0 := Lib.hid (Ta.out.turn hb)
  have U1 := Lib.hid (Tb.out.turn hb)
  have HB4 := Lib.hid (HBs.out.trans (hb.mono HBs.out.size))
  clear hb Ta Tb HBs C2 p0 p1 p2 p3
  have p0 : w4.cell? ⟨w.heap.size, 0, none⟩ = some (.int .i64 (x + dx)) := U0.out.cells.1
  have p1 : w4.cell? ⟨w.heap.size, 1, none⟩ = some (.int .i64 (y + dy)) := U0.out.cells.2.1
  have p2 : w4.cell? ⟨w.heap.size, 2, none⟩ = some (.int .i64 u) := U0.out.cells.2.2.1
  have p3 : w4.cell? ⟨w.heap.size, 3, none⟩ = some (.int .i64 v) := U0.out.cells.2.2.2
  try dsimp only at p0 p1 p2 p3
  have z0 : w4.cell? ⟨w.heap.size + 1, 0, none⟩ = some (.int .i64 0) := U1.out.cells.1
  have z1 : w4.cell? ⟨w.heap.size + 1, 1, none⟩ = some (.int .i64 0) := U1.out.cells.2.1
  have z2 : w4.cell? ⟨w.heap.size + 1, 2, none⟩ = some (.int .i64 0) := U1.out.cells.2.2.1
  have z3 : w4.cell? ⟨w.heap.size + 1, 3, none⟩ = some (.int .i64 0) := U1.out.cells.2.2.2
  have fz := U1.out.frozen
  try dsimp only at z0 z1 z2 z3
  go_wp2_with (fail)
  exact ⟨rfl, .tuple #[.agg #[.int .i64 (x + dx), .int .i64 (y + dy), .int .i64 u, .int .i64 v], .int .i64 0], by simp [results, Try.results21, go_sem, *], rfl, ((((HB4.out.setCell (p := ⟨w.heap.size + 1, 0, none⟩) (Nat.le_succ _) _).setCell (p := ⟨w.heap.size + 1, 1, none⟩) (Nat.le_succ _) _).setCell (p := ⟨w.heap.size + 1, 2, none⟩) (Nat.le_succ _) _).setCell (p := ⟨w.heap.size + 1, 3, none⟩) (Nat.le_succ _) _)⟩

theorem c21 (r : Rect) (dx dy : Int) (w : World) : Calls Try.prog 21 #[.agg r.arr, .int .i64 dx, .int .i64 dy] w fun e w' => e = .returned (.tuple #[.agg (moved r dx dy).arr, .int .i64 (erV r dx dy)]) ∧ Below w.heap.size w w' := by
  unfold moved erV okV
  cases h0 : right r with
  | false => exact c21_a r dx dy w h0
  | true =>
    cases h1 : inB (-2305843009213693952) 2305843009213693952 [dx, dy] with
    | false => exact c21_b r dx dy w ⟨h0, h1⟩
    | true =>
      cases h2 : right ⟨r.x + dx, r.y + dy, r.w, r.h⟩ with
      | false => exact c21_c r dx dy w ⟨⟨h0, h2⟩, lens_wrap h0 h1, h1⟩
      | true => exact c21_d r dx dy w ⟨⟨h0, h2⟩, lens_wrap h0 h1, h1⟩
end Go.Proofs.Ytnlojbkjhlhogaa
