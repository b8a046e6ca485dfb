/- Contract of rect.Inset: any rectangle, any four lengths. -/
import Derived.Test.YtnlojbkjhlhogaaVB
namespace Go.Proofs.Ytnlojbkjhlhogaa
open Go Go.RowKit IV
set_option linter.unusedVariables false

def lensOk (f g k m : Int) : Bool := inB 0 1152921504606846975 [f, g, k, m]
theorem lensOk_iff {f g k m : Int} : lensOk f g k m = true ↔ (0 ≤ f ∧ f ≤ 1152921504606846975) ∧ (0 ≤ g ∧ g ≤ 1152921504606846975) ∧ (0 ≤ k ∧ k ≤ 1152921504606846975) ∧ (0 ≤ m ∧ m ≤ 1152921504606846975) := by
  unfold lensOk inB; simp
def okI (r : Rect) (f g k m : Int) : Bool := lensOk f g k m && okV r m f
def inset (r : Rect) (f g k m : Int) : Rect := if okI r f g k m = true then ⟨r.x + m, r.y + f, max (r.w - g - m) 0, max (r.h - f - k) 0⟩ else ⟨0, 0, 0, 0⟩
def erI (r : Rect) (f g k m : Int) : Int := if okI r f g k m = true then 0 else 20
structure QRow (W : World) (B : Nat) (f g k m : Int) : Prop where
  at_ : W.heap[B]? = some (.cells #[.int .i64 f, .int .i64 g, .int .i64 k, .int .i64 m] 42 (0, 0))
theorem QRow.lt {W : World} {B : Nat} {f g k m : Int} (h : QRow W B f g k m) : B < W.heap.size := (Array.getElem?_eq_some_iff.1 h.at_).1
theorem QRow.new (W : World) (f g k m : Int) : QRow (W.alloc (.cells #[.int .i64 f, .int .i64 g, .int .i64 k, .int .i64 m] 42)) W.heap.size f g k m := ⟨heap_alloc_new _ _⟩
theorem QRow.turn {W W' : World} {B : Nat} {f g k m : Int} (h : QRow W B f g k m) (hb : Below W.heap.size W W') : QRow W' B f g k m := ⟨(hb.block B h.lt).trans h.at_⟩
theorem QRow.cells {W : World} {B : Nat} {f g k m : Int} (h : QRow W B f g k m) : W.cell? ⟨B, 0, none⟩ = some (.int .i64 f) ∧ W.cell? ⟨B, 1, none⟩ = some (.int .i64 g) ∧ W.cell? ⟨B, 2, none⟩ = some (.int .i64 k) ∧ W.cell? ⟨B, 3, none⟩ = some (.int .i64 m) := by
  simp [World.cell?, h.at_]
theorem QRow.other {W : World} {B : Nat} {f g k m : Int} (h : QRow W B f g k m) {p : Addr} (hp : p.block ≠ B) (v : Value) : QRow (W.setCell p v) B f g k m := ⟨by simp [World.setCell, Array.getElem?_modify, h.at_, hp]⟩
theorem ints_four {W : World} {B : Nat} {f g k m : Int} (h : QRow W B f g k m) : Ints W (some ⟨B, 0, none⟩) [f, g, k, m] := fun j hj => by
  refine ⟨B, 0, rfl, ?_⟩
  match j, hj with
  | 0, _ => exact h.cells.1
  | 1, _ => exact h.cells.2.1
  | 2, _ => exact h.cells.2.2.1
  | 3, _ => exact h.cells.2.2.2
theorem q29 {W : World} {B : Nat} {f g k m : Int} (lo hi : Int) (h : QRow W B f g k m) :
    Calls Try.prog 29 #[.int .i64 lo, .int .i64 hi, .slice (some ⟨B, 0, none⟩) 4 4] W fun e w' => e = .returned (.bool (inB lo hi [f, g, k, m])) ∧ W = w' :=
  c29 (some ⟨B, 0, none⟩) [f, g, k, m] 4 lo hi W (ints_four h) (by simp)
theorem row_quad (w : World) (r : Rect) (f g k m : Int) (z : Rect) : Hid (RRow (((w.alloc (.cells r.arr 23)).alloc (.cells #[.int .i64 f, .int .i64 g, .int .i64 k, .int .i64 m] 42)).alloc (.cells z.arr 23)) w.heap.size r) ∧
    Hid (QRow (((w.alloc (.cells r.arr 23)).alloc (.cells #[.int .i64 f, .int .i64 g, .int .i64 k, .int .i64 m] 42)).alloc (.cells z.arr 23)) (w.heap.size + 1) f g k m) ∧
    Hid (RRow (((w.alloc (.cells r.arr 23)).alloc (.cells #[.int .i64 f, .int .i64 g, .int .i64 k, .int .i64 m] 42)).alloc (.cells z.arr 23)) (w.heap.size + 1 + 1) z) ∧
    Hid (Below w.heap.size w (((w.alloc (.cells r.arr 23)).alloc (.cells #[.int .i64 f, .int .i64 g, .int .i64 k, .int .i64 m] 42)).alloc (.cells z.arr 23))) := by
  have b1 := (Below.refl (w.alloc (.cells r.arr 23)).heap.size (w.alloc (.cells r.arr 23))).alloc (Nat.le_refl _) (.cells #[.int .i64 f, .int .i64 g, .int .i64 k, .int .i64 m] 42)
  have b2 := (Below.refl ((w.alloc (.cells r.arr 23)).alloc (.cells #[.int .i64 f, .int .i64 g, .int .i64 k, .int .i64 m] 42)).heap.size ((w.alloc (.cells r.arr 23)).alloc (.cells #[.int .i64 f, .int .i64 g, .int .i64 k, .int .i64 m] 42))).alloc (Nat.le_refl _) (.cells z.arr 23)
  have q1 := QRow.new (w.alloc (.cells r.arr 23)) f g k m
  have q2 := RRow.new ((w.alloc (.cells r.arr 23)).alloc (.cells #[.int .i64 f, .int .i64 g, .int .i64 k, .int .i64 m] 42)) z
  rw [World.size_alloc] at q1
  rw [World.size_alloc, World.size_alloc] at q2
  exact ⟨Lib.hid (((RRow.new w r).turn b1).turn b2), Lib.hid (q1.turn b2), Lib.hid q2, Lib.hid ((((Below.refl _ w).alloc (Nat.le_refl _) _).alloc (by simp) _).alloc (by simp; omega) _)⟩

set_option maxRecDepth 100000 in
set_option maxHeartbeats 2000000 in
theorem c23_a (r : Rect) (f g k m : Int) (w : World) (h0 : lensOk f g k m = false) : Calls Try.prog 23 #[.agg r.arr, .agg #[.int .i64 f, .int .i64 g, .int .i64 k, .int .i64 m]] w fun e w' => e = .returned (.tuple #[.agg (Rect.arr ⟨0, 0, 0, 0⟩), .int .i64 20]) ∧ Below w.heap.size w w' := by
  obtain ⟨Q0, Q1, Q2, HB⟩ := row_quad w r f g k m ⟨0, 0, 0, 0⟩
  have C2 := Lib.hid (fun W => c21 r m f W)
  have H0 := Lib.hid h0
  clear h0
  generalize moved r m f = mv at *
  generalize erV r m f = em at *
  obtain ⟨x, y, u, v⟩ := r
  unfold Rect.arr at *
  dsimp only at *
  go_enter Try.func23, Try.ntmps23
  go_wp2_with (fail)
  generalize (((w.alloc (.cells #[.int .i64 x, .int .i64 y, .int .i64 u, .int .i64 v] 23)).alloc (.cells #[.int .i64 f, .int .i64 g, .int .i64 k, .int .i64 m] 42)).alloc (.cells #[.int .i64 0, .int .i64 0, .int .i64 0, .int .i64 0] 23)) = w0 at *
  refine (q29 0 1152921504606846975 Q1.out).mono ?_
  rintro e w1 ⟨rfl, rfl⟩
  have hn := H0.out
  unfold lensOk at hn
  rw [hn]
  clear hn H0 C2
  have z0 : w0.cell? ⟨w.heap.size + 1 + 1, 0, none⟩ = some (.int .i64 0) := Q2.out.cells.1
  have z1 : w0.cell? ⟨w.heap.size + 1 + 1, 1, none⟩ = some (.int .i64 0) := Q2.out.cells.2.1
  have z2 : w0.cell? ⟨w.heap.size + 1 + 1, 2, none⟩ = some (.int .i64 0) := Q2.out.cells.2.2.1
  have z3 : w0.cell? ⟨w.heap.size + 1 + 1, 3, none⟩ = some (.int .i64 0) := Q2.out.cells.2.2.2
  have fz := Q2.out.frozen
  try dsimp only at z0 z1 z2 z3
  go_wp2_with (fail)
  exact ⟨rfl, .tuple #[.agg #[.int .i64 0, .int .i64 0, .int .i64 0, .int .i64 0], .int .i64 20], by simp [results, Try.results23, go_sem, *], rfl, ((((HB.out.setCell (p := ⟨w.heap.size + 1 + 1, 0, none⟩) (by show w.heap.size ≤ w.heap.size + 1 + 1; omega) _).setCell (p := ⟨w.heap.size + 1 + 1, 1, none⟩) (by show w.heap.size ≤ w.heap.size + 1 + 1; omega) _).setCell (p := ⟨w.heap.size + 1 + 1, 2, none⟩) (by show w.heap.size ≤ w.heap.size + 1 + 1; omega) _).setCell (p := ⟨w.heap.size + 1 + 1, 3, none⟩) (by show w.heap.size ≤ w.heap.size + 1 + 1; omega) _)⟩

set_option maxRecDepth 100000 in
set_option maxHeartbeats 2000000 in
theorem c23_b (r : Rect) (f g k m : Int) (w : World) (h0 : lensOk f g k m = true ∧ moved r m f = ⟨0, 0, 0, 0⟩ ∧ erV r m f = 20) : Calls Try.prog 23 #[.agg r.arr, .agg #[.int .i64 f, .int .i64 g, .int .i64 k, .int .i64 m]] w fun e w' => e = .returned (.tuple #[.agg (Rect.arr ⟨0, 0, 0, 0⟩), .int .i64 20]) ∧ Below w.heap.size w w' := by
  obtain ⟨Q0, Q1, Q2, HB⟩ := row_quad w r f g k m ⟨0, 0, 0, 0⟩
  have C2 := Lib.hid (fun W => c21 r m f W)
  have H0 := Lib.hid h0
  clear h0
  generalize moved r m f = mv at *
  generalize erV r m f = em at *
  obtain ⟨x, y, u, v⟩ := r
  unfold Rect.arr at *
  dsimp only at *
  go_enter Try.func23, Try.ntmps23
  go_wp2_with (fail)
  generalize (((w.alloc (.cells #[.int .i64 x, .int .i64 y, .int .i64 u, .int .i64 v] 23)).alloc (.cells #[.int .i64 f, .int .i64 g, .int .i64 k, .int .i64 m] 42)).alloc (.cells #[.int .i64 0, .int .i64 0, .int .i64 0, .int .i64 0] 23)) = w0 at *
  refine (q29 0 1152921504606846975 Q1.out).mono ?_
  rintro e w1 ⟨rfl, rfl⟩
  obtain ⟨hn, rfl, rfl⟩ := H0.out
  unfold lensOk at hn
  rw [hn]
  clear hn H0
  dsimp only at C2
  have p0 : w0.cell? ⟨w.heap.size, 0, none⟩ = some (.int .i64 x) := Q0.out.cells.1
  have p1 : w0.cell? ⟨w.heap.size, 1, none⟩ = some (.int .i64 y) := Q0.out.cells.2.1
  have p2 : w0.cell? ⟨w.heap.size, 2, none⟩ = some (.int .i64 u) := Q0.out.cells.2.2.1
  have p3 : w0.cell? ⟨w.heap.size, 3, none⟩ = some (.int .i64 v) := Q0.out.cells.2.2.2
  have q0 : w0.cell? ⟨w.heap.size + 1, 0, none⟩ = some (.int .i64 f) := Q1.out.cells.1
  have q1 : w0.cell? ⟨w.heap.size + 1, 1, none⟩ = some (.int .i64 g) := Q1.out.cells.2.1
  have q2 : w0.cell? ⟨w.heap.size + 1, 2, none⟩ = some (.int .i64 k) := Q1.out.cells.2.2.1
  have q3 : w0.cell? ⟨w.heap.size + 1, 3, none⟩ = some (.int .i64 m) := Q1.out.cells.2.2.2
  try dsimp only at p0 p1 p2 p3
  go_wp2_with (fail)
  clear p0 p1 p2 p3 q0 q1 q2 q3
  refine (C2.out _).mono ?_
  rintro e w2 ⟨rfl, hb⟩
  have hbb := hb.trans (((Below.refl _ w2).alloc (Nat.le_refl _) (.cells #[.int .i64 0, .int .i64 0, .int .i64 0, .int .i64 0] 23)).mono hb.size)
  have S2 := Lib.hid (Q2.out.turn hbb)
  have HB2 := Lib.hid (HB.out.trans (hbb.mono HB.out.size))
  clear hb hbb C2 Q0 Q1 Q2 HB
  have z0 : (w2.alloc (.cells #[.int .i64 0, .int .i64 0, .int .i64 0, .int .i64 0] 23)).cell? ⟨w.heap.size + 1 + 1, 0, none⟩ = some (.int .i64 0) := S2.out.cells.1
  have z1 : (w2.alloc (.cells #[.int .i64 0, .int .i64 0, .int .i64 0, .int .i64 0] 23)).cell? ⟨w.heap.size + 1 + 1, 1, none⟩ = some (.int .i64 0) := S2.out.cells.2.1
  have z2 : (w2.alloc (.cells #[.int .i64 0, .int .i64 0, .int .i64 0, .int .i64 0] 23)).cell? ⟨w.heap.size + 1 + 1, 2, none⟩ = some (.int .i64 0) := S2.out.cells.2.2.1
  have z3 : (w2.alloc (.cells #[.int .i64 0, .int .i64 0, .int .i64 0, .int .i64 0] 23)).cell? ⟨w.heap.size + 1 + 1, 3, none⟩ = some (.int .i64 0) := S2.out.cells.2.2.2
  have fz := S2.out.frozen
  try dsimp only at z0 z1 z2 z3
  go_wp2_with (fail)
  exact ⟨rfl, .tuple #[.agg #[.int .i64 0, .int .i64 0, .int .i64 0, .int .i64 0], .int .i64 20], by simp [results, Try.results23, go_sem, *], rfl, ((((HB2.out.setCell (p := ⟨w.heap.size + 1 + 1, 0, none⟩) (by show w.heap.size ≤ w.heap.size + 1 + 1; omega) _).setCell (p := ⟨w.heap.size + 1 + 1, 1, none⟩) (by show w.heap.size ≤ w.heap.size + 1 + 1; omega) _).setCell (p := ⟨w.heap.size + 1 + 1, 2, none⟩) (by show w.heap.size ≤ w.heap.size + 1 + 1; omega) _).setCell (p := ⟨w.heap.size + 1 + 1, 3, none⟩) (by show w.heap.size ≤ w.heap.size + 1 + 1; omega) _)⟩

set_option maxRecDepth 100000 in
set_option maxHeartbeats 2000000 in
theorem c23_c00 (r : Rect) (f g k m : Int) (w : World) (h0 : lensOk f g k m = true ∧ (moved r m f = ⟨r.x + m, r.y + f, r.w, r.h⟩ ∧ erV r m f = 0) ∧ (IntKind.i64.wrap (r.w - g) = r.w - g ∧ IntKind.i64.wrap (r.w - g - m) = r.w - g - m ∧ IntKind.i64.wrap (r.h - f) = r.h - f ∧ IntKind.i64.wrap (r.h - f - k) = r.h - f - k) ∧ (r.w - g - m < 0) = False ∧ (r.h - f - k < 0) = False) : Calls Try.prog 23 #[.agg r.arr, .agg #[.int .i64 f, .int .i64 g, .int .i64 k, .int .i64 m]] w fun e w' => e = .returned (.tuple #[.agg (Rect.arr ⟨r.x + m, r.y + f, (r.w - g - m), (r.h - f - k)⟩), .int .i64 0]) ∧ Below w.heap.size w w' := by
  obtain ⟨Q0, Q1, Q2, HB⟩ := row_quad w r f g k m ⟨0, 0, 0, 0⟩
  have C2 := Lib.hid (fun W => c21 r m f W)
  have H0 := Lib.hid h0
  clear h0
  generalize moved r m f = mv at *
  generalize erV r m f = em at *
  obtain ⟨x, y, u, v⟩ := r
  unfold Rect.arr at *
  dsimp only at *
  go_enter Try.func23, Try.ntmps23
  go_wp2_with (fail)
  generalize (((w.alloc (.cells #[.int .i64 x, .int .i64 y, .int .i64 u, .int .i64 v] 23)).alloc (.cells #[.int .i64 f, .int .i64 g, .int .i64 k, .int .i64 m] 42)).alloc (.cells #[.int .i64 0, .int .i64 0, .int .i64 0, .int .i64 0] 23)) = w0 at *
  refine (q29 0 1152921504606846975 Q1.out).mono ?_
  rintro e w1 ⟨rfl, rfl⟩
  obtain ⟨hn, ⟨rfl, rfl⟩, ⟨ha, hb, hc, hd⟩, he, hf⟩ := H0.out
  unfold lensOk at hn
  rw [hn]
  clear hn H0
  dsimp only at C2 ha hb hc hd he hf
  have Ha := Lib.hid ha
  have Hb := Lib.hid hb
  have Hc := Lib.hid hc
  have Hd := Lib.hid hd
  have He := Lib.hid he
  have Hf := Lib.hid hf
  clear ha hb hc hd he hf
  have p0 : w0.cell? ⟨w.heap.size, 0, none⟩ = some (.int .i64 x) := Q0.out.cells.1
  have p1 : w0.cell? ⟨w.heap.size, 1, none⟩ = some (.int .i64 y) := Q0.out.cells.2.1
  have p2 : w0.cell? ⟨w.heap.size, 2, none⟩ = some (.int .i64 u) := Q0.out.cells.2.2.1
  have p3 : w0.cell? ⟨w.heap.size, 3, none⟩ = some (.int .i64 v) := Q0.out.cells.2.2.2
  have q0 : w0.cell? ⟨w.heap.size + 1, 0, none⟩ = some (.int .i64 f) := Q1.out.cells.1
  have q1 : w0.cell? ⟨w.heap.size + 1, 1, none⟩ = some (.int .i64 g) := Q1.out.cells.2.1
  have q2 : w0.cell? ⟨w.heap.size + 1, 2, none⟩ = some (.int .i64 k) := Q1.out.cells.2.2.1
  have q3 : w0.cell? ⟨w.heap.size + 1, 3, none⟩ = some (.int .i64 m) := Q1.out.cells.2.2.2
  try dsimp only at p0 p1 p2 p3
  go_wp2_with (fail)
  clear p0 p1 p2 p3 q0 q1 q2 q3
  refine (C2.out _).mono ?_
  rintro e w2 ⟨rfl, hb⟩
  have bb := fun o => hb.trans (((Below.refl _ w2).alloc (Nat.le_refl _) o).mono hb.size)
  have S0 := Lib.hid fun o => Q0.out.turn (bb o)
  have S1 := Lib.hid fun o => Q1.out.turn (bb o)
  have S2 := Lib.hid fun o => Q2.out.turn (bb o)
  have HB2 := Lib.hid fun o => HB.out.trans ((bb o).mono HB.out.size)
  have Hz : Hid (w.heap.size + 1 + 1 < w2.heap.size) := Lib.hid (Nat.lt_of_lt_of_le Q2.out.lt hb.size)
  clear hb bb C2 Q0 Q1 Q2 HB
  have ka0 : (w2.alloc (.cells #[.int .i64 (x + m), .int .i64 (y + f), .int .i64 u, .int .i64 v] 23)).cell? ⟨w.heap.size, 2, none⟩ = some (.int .i64 u) := (S0.out _).cells.2.2.1
  have ka1 : (w2.alloc (.cells #[.int .i64 (x + m), .int .i64 (y + f), .int .i64 u, .int .i64 v] 23)).cell? ⟨w.heap.size + 1, 1, none⟩ = some (.int .i64 g) := (S1.out _).cells.2.1
  have ka2 : (w2.alloc (.cells #[.int .i64 (x + m), .int .i64 (y + f), .int .i64 u, .int .i64 v] 23)).cell? ⟨w.heap.size + 1, 3, none⟩ = some (.int .i64 m) := (S1.out _).cells.2.2.2
  have kb0 : (w2.alloc (.cells #[.int .i64 (x + m), .int .i64 (y + f), .int .i64 (u - g - m), .int .i64 v] 23)).cell? ⟨w.heap.size, 3, none⟩ = some (.int .i64 v) := (S0.out _).cells.2.2.2
  have kb1 : (w2.alloc (.cells #[.int .i64 (x + m), .int .i64 (y + f), .int .i64 (u - g - m), .int .i64 v] 23)).cell? ⟨w.heap.size + 1, 0, none⟩ = some (.int .i64 f) := (S1.out _).cells.1
  have kb2 : (w2.alloc (.cells #[.int .i64 (x + m), .int .i64 (y + f), .int .i64 (u - g - m), .int .i64 v] 23)).cell? ⟨w.heap.size + 1, 2, none⟩ = some (.int .i64 k) := (S1.out _).cells.2.2.1
  have kc0 : (w2.alloc (.cells #[.int .i64 (x + m), .int .i64 (y + f), .int .i64 (u - g - m), .int .i64 (v - f - k)] 23)).cell? ⟨w.heap.size + 1 + 1, 0, none⟩ = some (.int .i64 0) := (S2.out _).cells.1
  have kc1 : (w2.alloc (.cells #[.int .i64 (x + m), .int .i64 (y + f), .int .i64 (u - g - m), .int .i64 (v - f - k)] 23)).cell? ⟨w.heap.size + 1 + 1, 1, none⟩ = some (.int .i64 0) := (S2.out _).cells.2.1
  have kc2 : (w2.alloc (.cells #[.int .i64 (x + m), .int .i64 (y + f), .int .i64 (u - g - m), .int .i64 (v - f - k)] 23)).cell? ⟨w.heap.size + 1 + 1, 2, none⟩ = some (.int .i64 0) := (S2.out _).cells.2.2.1
  have kc3 : (w2.alloc (.cells #[.int .i64 (x + m), .int .i64 (y + f), .int .i64 (u - g - m), .int .i64 (v - f - k)] 23)).cell? ⟨w.heap.size + 1 + 1, 3, none⟩ = some (.int .i64 0) := (S2.out _).cells.2.2.2
  have fz := fun i => (S2.out (.cells #[.int .i64 (x + m), .int .i64 (y + f), .int .i64 (u - g - m), .int .i64 (v - f - k)] 23)).frozen i
  have ha := Ha.out
  have hb := Hb.out
  have hc := Hc.out
  have hd := Hd.out
  have he := He.out
  have hf := Hf.out
  go_wp2_with (fail)
  exact ⟨rfl, .tuple #[.agg #[.int .i64 (x + m), .int .i64 (y + f), .int .i64 (u - g - m), .int .i64 (v - f - k)], .int .i64 0], by simp [results, Try.results23, go_sem, *], rfl, (((((HB2.out _).setCell (p := ⟨w.heap.size + 1 + 1, 0, none⟩) (by show w.heap.size ≤ w.heap.size + 1 + 1; omega) _).setCell (p := ⟨w.heap.size + 1 + 1, 1, none⟩) (by show w.heap.size ≤ w.heap.size + 1 + 1; omega) _).setCell (p := ⟨w.heap.size + 1 + 1, 2, none⟩) (by show w.heap.size ≤ w.heap.size + 1 + 1; omega) _).setCell (p := ⟨w.heap.size + 1 + 1, 3, none⟩) (by show w.heap.size ≤ w.heap.size + 1 + 1; omega) _)⟩

set_option maxRecDepth 100000 in
set_option maxHeartbeats 2000000 in
theorem c23_c01 (r : Rect) (f g k m : Int) (w : World) (h0 : lensOk f g k m = true ∧ (moved r m f = ⟨r.x + m, r.y + f, r.w, r.h⟩ ∧ erV r m f = 0) ∧ (IntKind.i64.wrap (r.w - g) = r.w - g ∧ IntKind.i64.wrap (r.w - g - m) = r.w - g - m ∧ IntKind.i64.wrap (r.h - f) = r.h - f ∧ IntKind.i64.wrap (r.h - f - k) = r.h - f - k) ∧ (r.w - g - m < 0) = False ∧ (r.h - f - k < 0) = True) : Calls Try.prog 23 #[.agg r.arr, .agg #[.int .i64 f, .int .i64 g, .int .i64 k, .int .i64 m]] w fun e w' => e = .returned (.tuple #[.agg (Rect.arr ⟨r.x + m, r.y + f, (r.w - g - m), 0⟩), .int .i64 0]) ∧ Below w.heap.size w w' := by
  obtain ⟨Q0, Q1, Q2, HB⟩ := row_quad w r f g k m ⟨0, 0, 0, 0⟩
  have C2 := Lib.hid (fun W => c21 r m f W)
  have H0 := Lib.hid h0
  clear h0
  generalize moved r m f = mv at *
  generalize erV r m f = em at *
  obtain ⟨x, y, u, v⟩ := r
  unfold Rect.arr at *
  dsimp only at *
  go_enter Try.func23, Try.ntmps23
  go_wp2_with (fail)
  generalize (((w.alloc (.cells #[.int .i64 x, .int .i64 y, .int .i64 u, .int .i64 v] 23)).alloc (.cells #[.int .i64 f, .int .i64 g, .int .i64 k, .int .i64 m] 42)).alloc (.cells #[.int .i64 0, .int .i64 0, .int .i64 0, .int .i64 0] 23)) = w0 at *
  refine (q29 0 1152921504606846975 Q1.out).mono ?_
  rintro e w1 ⟨rfl, rfl⟩
  obtain ⟨hn, ⟨rfl, rfl⟩, ⟨ha, hb, hc, hd⟩, he, hf⟩ := H0.out
  unfold lensOk at hn
  rw [hn]
  clear hn H0
  dsimp only at C2 ha hb hc hd he hf
  have Ha := Lib.hid ha
  have Hb := Lib.hid hb
  have Hc := Lib.hid hc
  have Hd := Lib.hid hd
  have He := Lib.hid he
  have Hf := Lib.hid hf
  clear ha hb hc hd he hf
  have p0 : w0.cell? ⟨w.heap.size, 0, none⟩ = some (.int .i64 x) := Q0.out.cells.1
  have p1 : w0.cell? ⟨w.heap.size, 1, none⟩ = some (.int .i64 y) := Q0.out.cells.2.1
  have p2 : w0.cell? ⟨w.heap.size, 2, none⟩ = some (.int .i64 u) := Q0.out.cells.2.2.1
  have p3 : w0.cell? ⟨w.heap.size, 3, none⟩ = some (.int .i64 v) := Q0.out.cells.2.2.2
  have q0 : w0.cell? ⟨w.heap.size + 1, 0, none⟩ = some (.int .i64 f) := Q1.out.cells.1
  have q1 : w0.cell? ⟨w.heap.size + 1, 1, none⟩ = some (.int .i64 g) := Q1.out.cells.2.1
  have q2 : w0.cell? ⟨w.heap.size + 1, 2, none⟩ = some (.int .i64 k) := Q1.out.cells.2.2.1
  have q3 : w0.cell? ⟨w.heap.size + 1, 3, none⟩ = some (.int .i64 m) := Q1.out.cells.2.2.2
  try dsimp only at p0 p1 p2 p3
  go_wp2_with (fail)
  clear p0 p1 p2 p3 q0 q1 q2 q3
  refine (C2.out _).mono ?_
  rintro e w2 ⟨rfl, hb⟩
  have bb := fun o => hb.trans (((Below.refl _ w2).alloc (Nat.le_refl _) o).mono hb.size)
  have S0 := Lib.hid fun o => Q0.out.turn (bb o)
  have S1 := Lib.hid fun o => Q1.out.turn (bb o)
  have S2 := Lib.hid fun o => Q2.out.turn (bb o)
  have HB2 := Lib.hid fun o => HB.out.trans ((bb o).mono HB.out.size)
  have Hz : Hid (w.heap.size + 1 + 1 < w2.heap.size) := Lib.hid (Nat.lt_of_lt_of_le Q2.out.lt hb.size)
  clear hb bb C2 Q0 Q1 Q2 HB
  have ka0 : (w2.alloc (.cells #[.int .i64 (x + m), .int .i64 (y + f), .int .i64 u, .int .i64 v] 23)).cell? ⟨w.heap.size, 2, none⟩ = some (.int .i64 u) := (S0.out _).cells.2.2.1
  have ka1 : (w2.alloc (.cells #[.int .i64 (x + m), .int .i64 (y + f), .int .i64 u, .int .i64 v] 23)).cell? ⟨w.heap.size + 1, 1, none⟩ = some (.int .i64 g) := (S1.out _).cells.2.1
  have ka2 : (w2.alloc (.cells #[.int .i64 (x + m), .int .i64 (y + f), .int .i64 u, .int .i64 v] 23)).cell? ⟨w.heap.size + 1, 3, none⟩ = some (.int .i64 m) := (S1.out _).cells.2.2.2
  have kb0 : (w2.alloc (.cells #[.int .i64 (x + m), .int .i64 (y + f), .int .i64 (u - g - m), .int .i64 v] 23)).cell? ⟨w.heap.size, 3, none⟩ = some (.int .i64 v) := (S0.out _).cells.2.2.2
  have kb1 : (w2.alloc (.cells #[.int .i64 (x + m), .int .i64 (y + f), .int .i64 (u - g - m), .int .i64 v] 23)).cell? ⟨w.heap.size + 1, 0, none⟩ = some (.int .i64 f) := (S1.out _).cells.1
  have kb2 : (w2.alloc (.cells #[.int .i64 (x + m), .int .i64 (y + f), .int .i64 (u - g - m), .int .i64 v] 23)).cell? ⟨w.heap.size + 1, 2, none⟩ = some (.int .i64 k) := (S1.out _).cells.2.2.1
  have kc0 : (w2.alloc (.cells #[.int .i64 (x + m), .int .i64 (y + f), .int .i64 (u - g - m), .int .i64 0] 23)).cell? ⟨w.heap.size + 1 + 1, 0, none⟩ = some (.int .i64 0) := (S2.out _).cells.1
  have kc1 : (w2.alloc (.cells #[.int .i64 (x + m), .int .i64 (y + f), .int .i64 (u - g - m), .int .i64 0] 23)).cell? ⟨w.heap.size + 1 + 1, 1, none⟩ = some (.int .i64 0) := (S2.out _).cells.2.1
  have kc2 : (w2.alloc (.cells #[.int .i64 (x + m), .int .i64 (y + f), .int .i64 (u - g - m), .int .i64 0] 23)).cell? ⟨w.heap.size + 1 + 1, 2, none⟩ = some (.int .i64 0) := (S2.out _).cells.2.2.1
  have kc3 : (w2.alloc (.cells #[.int .i64 (x + m), .int .i64 (y + f), .int .i64 (u - g - m), .int .i64 0] 23)).cell? ⟨w.heap.size + 1 + 1, 3, none⟩ = some (.int .i64 0) := (S2.out _).cells.2.2.2
  have fz := fun i => (S2.out (.cells #[.int .i64 (x + m), .int .i64 (y + f), .int .i64 (u - g - m), .int .i64 0] 23)).frozen i
  have ha := Ha.out
  have hb := Hb.out
  have hc := Hc.out
  have hd := Hd.out
  have he := He.out
  have hf := Hf.out
  go_wp2_with (fail)
  exact ⟨rfl, .tuple #[.agg #[.int .i64 (x + m), .int .i64 (y + f), .int .i64 (u - g - m), .int .i64 0], .int .i64 0], by simp [results, Try.results23, go_sem, *], rfl, (((((HB2.out _).setCell (p := ⟨w.heap.size + 1 + 1, 0, none⟩) (by show w.heap.size ≤ w.heap.size + 1 + 1; omega) _).setCell (p := ⟨w.heap.size + 1 + 1, 1, none⟩) (by show w.heap.size ≤ w.heap.size + 1 + 1; omega) _).setCell (p := ⟨w.heap.size + 1 + 1, 2, none⟩) (by show w.heap.size ≤ w.heap.size + 1 + 1; omega) _).setCell (p := ⟨w.heap.size + 1 + 1, 3, none⟩) (by show w.heap.size ≤ w.heap.size + 1 + 1; omega) _)⟩

set_option maxRecDepth 100000 in
set_option maxHeartbeats 2000000 in
theorem c23_c10 (r : Rect) (f g k m : Int) (w : World) (h0 : lensOk f g k m = true ∧ (moved r m f = ⟨r.x + m, r.y + f, r.w, r.h⟩ ∧ erV r m f = 0) ∧ (IntKind.i64.wrap (r.w - g) = r.w - g ∧ IntKind.i64.wrap (r.w - g - m) = r.w - g - m ∧ IntKind.i64.wrap (r.h - f) = r.h - f ∧ IntKind.i64.wrap (r.h - f - k) = r.h - f - k) ∧ (r.w - g - m < 0) = True ∧ (r.h - f - k < 0) = False) : Calls Try.prog 23 #[.agg r.arr, .agg #[.int .i64 f, .int .i64 g, .int .i64 k, .int .i64 m]] w fun e w' => e = .returned (.tuple #[.agg (Rect.arr ⟨r.x + m, r.y + f, 0, (r.h - f - k)⟩), .int .i64 0]) ∧ Below w.heap.size w w' := by
  obtain ⟨Q0, Q1, Q2, HB⟩ := row_quad w r f g k m ⟨0, 0, 0, 0⟩
  have C2 := Lib.hid (fun W => c21 r m f W)
  have H0 := Lib.hid h0
  clear h0
  generalize moved r m f = mv at *
  generalize erV r m f = em at *
  obtain ⟨x, y, u, v⟩ := r
  unfold Rect.arr at *
  dsimp only at *
  go_enter Try.func23, Try.ntmps23
  go_wp2_with (fail)
  generalize (((w.alloc (.cells #[.int .i64 x, .int .i64 y, .int .i64 u, .int .i64 v] 23)).alloc (.cells #[.int .i64 f, .int .i64 g, .int .i64 k, .int .i64 m] 42)).alloc (.cells #[.int .i64 0, .int .i64 0, .int .i64 0, .int .i64 0] 23)) = w0 at *
  refine (q29 0 1152921504606846975 Q1.out).mono ?_
  rintro e w1 ⟨rfl, rfl⟩
  obtain ⟨hn, ⟨rfl, rfl⟩, ⟨ha, hb, hc, hd⟩, he, hf⟩ := H0.out
  unfold lensOk at hn
  rw [hn]
  clear hn H0
  dsimp only at C2 ha hb hc hd he hf
  have Ha := Lib.hid ha
  have Hb := Lib.hid hb
  have Hc := Lib.hid hc
  have Hd := Lib.hid hd
  have He := Lib.hid he
  have Hf := Lib.hid hf
  clear ha hb hc hd he hf
  have p0 : w0.cell? ⟨w.heap.size, 0, none⟩ = some (.int .i64 x) := Q0.out.cells.1
  have p1 : w0.cell? ⟨w.heap.size, 1, none⟩ = some (.int .i64 y) := Q0.out.cells.2.1
  have p2 : w0.cell? ⟨w.heap.size, 2, none⟩ = some (.int .i64 u) := Q0.out.cells.2.2.1
  have p3 : w0.cell? ⟨w.heap.size, 3, none⟩ = some (.int .i64 v) := Q0.out.cells.2.2.2
  have q0 : w0.cell? ⟨w.heap.size + 1, 0, none⟩ = some (.int .i64 f) := Q1.out.cells.1
  have q1 : w0.cell? ⟨w.heap.size + 1, 1, none⟩ = some (.int .i64 g) := Q1.out.cells.2.1
  have q2 : w0.cell? ⟨w.heap.size + 1, 2, none⟩ = some (.int .i64 k) := Q1.out.cells.2.2.1
  have q3 : w0.cell? ⟨w.heap.size + 1, 3, none⟩ = some (.int .i64 m) := Q1.out.cells.2.2.2
  try dsimp only at p0 p1 p2 p3
  go_wp2_with (fail)
  clear p0 p1 p2 p3 q0 q1 q2 q3
  refine (C2.out _).mono ?_
  rintro e w2 ⟨rfl, hb⟩
  have bb := fun o => hb.trans (((Below.refl _ w2).alloc (Nat.le_refl _) o).mono hb.size)
  have S0 := Lib.hid fun o => Q0.out.turn (bb o)
  have S1 := Lib.hid fun o => Q1.out.turn (bb o)
  have S2 := Lib.hid fun o => Q2.out.turn (bb o)
  have HB2 := Lib.hid fun o => HB.out.trans ((bb o).mono HB.out.size)
  have Hz : Hid (w.heap.size + 1 + 1 < w2.heap.size) := Lib.hid (Nat.lt_of_lt_of_le Q2.out.lt hb.size)
  clear hb bb C2 Q0 Q1 Q2 HB
  have ka0 : (w2.alloc (.cells #[.int .i64 (x + m), .int .i64 (y + f), .int .i64 u, .int .i64 v] 23)).cell? ⟨w.heap.size, 2, none⟩ = some (.int .i64 u) := (S0.out _).cells.2.2.1
  have ka1 : (w2.alloc (.cells #[.int .i64 (x + m), .int .i64 (y + f), .int .i64 u, .int .i64 v] 23)).cell? ⟨w.heap.size + 1, 1, none⟩ = some (.int .i64 g) := (S1.out _).cells.2.1
  have ka2 : (w2.alloc (.cells #[.int .i64 (x + m), .int .i64 (y + f), .int .i64 u, .int .i64 v] 23)).cell? ⟨w.heap.size + 1, 3, none⟩ = some (.int .i64 m) := (S1.out _).cells.2.2.2
  have kb0 : (w2.alloc (.cells #[.int .i64 (x + m), .int .i64 (y + f), .int .i64 0, .int .i64 v] 23)).cell? ⟨w.heap.size, 3, none⟩ = some (.int .i64 v) := (S0.out _).cells.2.2.2
  have kb1 : (w2.alloc (.cells #[.int .i64 (x + m), .int .i64 (y + f), .int .i64 0, .int .i64 v] 23)).cell? ⟨w.heap.size + 1, 0, none⟩ = some (.int .i64 f) := (S1.out _).cells.1
  have kb2 : (w2.alloc (.cells #[.int .i64 (x + m), .int .i64 (y + f), .int .i64 0, .int .i64 v] 23)).cell? ⟨w.heap.size + 1, 2, none⟩ = some (.int .i64 k) := (S1.out _).cells.2.2.1
  have kc0 : (w2.alloc (.cells #[.int .i64 (x + m), .int .i64 (y + f), .int .i64 0, .int .i64 (v - f - k)] 23)).cell? ⟨w.heap.size + 1 + 1, 0, none⟩ = some (.int .i64 0) := (S2.out _).cells.1
  have kc1 : (w2.alloc (.cells #[.int .i64 (x + m), .int .i64 (y + f), .int .i64 0, .int .i64 (v - f - k)] 23)).cell? ⟨w.heap.size + 1 + 1, 1, none⟩ = some (.int .i64 0) := (S2.out _).cells.2.1
  have kc2 : (w2.alloc (.cells #[.int .i64 (x + m), .int .i64 (y + f), .int .i64 0, .int .i64 (v - f - k)] 23)).cell? ⟨w.heap.size + 1 + 1, 2, none⟩ = some (.int .i64 0) := (S2.out _).cells.2.2.1
  have kc3 : (w2.alloc (.cells #[.int .i64 (x + m), .int .i64 (y + f), .int .i64 0, .int .i64 (v - f - k)] 23)).cell? ⟨w.heap.size + 1 + 1, 3, none⟩ = some (.int .i64 0) := (S2.out _).cells.2.2.2
  have fz := fun i => (S2.out (.cells #[.int .i64 (x + m), .int .i64 (y + f), .int .i64 0, .int .i64 (v - f - k)] 23)).frozen i
  have ha := Ha.out
  have hb := Hb.out
  have hc := Hc.out
  have hd := Hd.out
  have he := He.out
  have hf := Hf.out
  go_wp2_with (fail)
  exact ⟨rfl, .tuple #[.agg #[.int .i64 (x + m), .int .i64 (y + f), .int .i64 0, .int .i64 (v - f - k)], .int .i64 0], by simp [results, Try.results23, go_sem, *], rfl, (((((HB2.out _).setCell (p := ⟨w.heap.size + 1 + 1, 0, none⟩) (by show w.heap.size ≤ w.heap.size + 1 + 1; omega) _).setCell (p := ⟨w.heap.size + 1 + 1, 1, none⟩) (by show w.heap.size ≤ w.heap.size + 1 + 1; omega) _).setCell (p := ⟨w.heap.size + 1 + 1, 2, none⟩) (by show w.heap.size ≤ w.heap.size + 1 + 1; omega) _).setCell (p := ⟨w.heap.size + 1 + 1, 3, none⟩) (by show w.heap.size ≤ w.heap.size + 1 + 1; omega) _)⟩

set_option maxRecDepth 100000 in
set_option maxHeartbeats 2000000 in
theorem c23_c11 (r : Rect) (f g k m : Int) (w : World) (h0 : lensOk f g k m = true ∧ (moved r m f = ⟨r.x + m, r.y + f, r.w, r.h⟩ ∧ erV r m f = 0) ∧ (IntKind.i64.wrap (r.w - g) = r.w - g ∧ IntKind.i64.wrap (r.w - g - m) = r.w - g - m ∧ IntKind.i64.wrap (r.h - f) = r.h - f ∧ IntKind.i64.wrap (r.h - f - k) = r.h - f - k) ∧ (r.w - g - m < 0) = True ∧ (r.h - f - k < 0) = True) : Calls Try.prog 23 #[.agg r.arr, .agg #[.int .i64 f, .int .i64 g, .int .i64 k, .int .i64 m]] w fun e w' => e = .returned (.tuple #[.agg (Rect.arr ⟨r.x + m, r.y + f, 0, 0⟩), .int .i64 0]) ∧ Below w.heap.size w w' := by
  obtain ⟨Q0, Q1, Q2, HB⟩ := row_quad w r f g k m ⟨0, 0, 0, 0⟩
  have C2 := Lib.hid (fun W => c21 r m f W)
  have H0 := Lib.hid h0
  clear h0
  generalize moved r m f = mv at *
  generalize erV r m f = em at *
  obtain ⟨x, y, u, v⟩ := r
  unfold Rect.arr at *
  dsimp only at *
  go_enter Try.func23, Try.ntmps23
  go_wp2_with (fail)
  generalize (((w.alloc (.cells #[.int .i64 x, .int .i64 y, .int .i64 u, .int .i64 v] 23)).alloc (.cells #[.int .i64 f, .int .i64 g, .int .i64 k, .int .i64 m] 42)).alloc (.cells #[.int .i64 0, .int .i64 0, .int .i64 0, .int .i64 0] 23)) = w0 at *
  refine (q29 0 1152921504606846975 Q1.out).mono ?_
  rintro e w1 ⟨rfl, rfl⟩
  obtain ⟨hn, ⟨rfl, rfl⟩, ⟨ha, hb, hc, hd⟩, he, hf⟩ := H0.out
  unfold lensOk at hn
  rw [hn]
  clear hn H0
  dsimp only at C2 ha hb hc hd he hf
  have Ha := Lib.hid ha
  have Hb := Lib.hid hb
  have Hc := Lib.hid hc
  have Hd := Lib.hid hd
  have He := Lib.hid he
  have Hf := Lib.hid hf
  clear ha hb hc hd he hf
  have p0 : w0.cell? ⟨w.heap.size, 0, none⟩ = some (.int .i64 x) := Q0.out.cells.1
  have p1 : w0.cell? ⟨w.heap.size, 1, none⟩ = some (.int .i64 y) := Q0.out.cells.2.1
  have p2 : w0.cell? ⟨w.heap.size, 2, none⟩ = some (.int .i64 u) := Q0.out.cells.2.2.1
  have p3 : w0.cell? ⟨w.heap.size, 3, none⟩ = some (.int .i64 v) := Q0.out.cells.2.2.2
  have q0 : w0.cell? ⟨w.heap.size + 1, 0, none⟩ = some (.int .i64 f) := Q1.out.cells.1
  have q1 : w0.cell? ⟨w.heap.size + 1, 1, none⟩ = some (.int .i64 g) := Q1.out.cells.2.1
  have q2 : w0.cell? ⟨w.heap.size + 1, 2, none⟩ = some (.int .i64 k) := Q1.out.cells.2.2.1
  have q3 : w0.cell? ⟨w.heap.size + 1, 3, none⟩ = some (.int .i64 m) := Q1.out.cells.2.2.2
  try dsimp only at p0 p1 p2 p3
  go_wp2_with (fail)
  clear p0 p1 p2 p3 q0 q1 q2 q3
  refine (C2.out _).mono ?_
  rintro e w2 ⟨rfl, hb⟩
  have bb := fun o => hb.trans (((Below.refl _ w2).alloc (Nat.le_refl _) o).mono hb.size)
  have S0 := Lib.hid fun o => Q0.out.turn (bb o)
  have S1 := Lib.hid fun o => Q1.out.turn (bb o)
  have S2 := Lib.hid fun o => Q2.out.turn (bb o)
  have HB2 := Lib.hid fun o => HB.out.trans ((bb o).mono HB.out.size)
  have Hz : Hid (w.heap.size + 1 + 1 < w2.heap.size) := Lib.hid (Nat.lt_of_lt_of_le Q2.out.lt hb.size)
  clear hb bb C2 Q0 Q1 Q2 HB
  have ka0 : (w2.alloc (.cells #[.int .i64 (x + m), .int .i64 (y + f), .int .i64 u, .int .i64 v] 23)).cell? ⟨w.heap.size, 2, none⟩ = some (.int .i64 u) := (S0.out _).cells.2.2.1
  have ka1 : (w2.alloc (.cells #[.int .i64 (x + m), .int .i64 (y + f), .int .i64 u, .int .i64 v] 23)).cell? ⟨w.heap.size + 1, 1, none⟩ = some (.int .i64 g) := (S1.out _).cells.2.1
  have ka2 : (w2.alloc (.cells #[.int .i64 (x + m), .int .i64 (y + f), .int .i64 u, .int .i64 v] 23)).cell? ⟨w.heap.size + 1, 3, none⟩ = some (.int .i64 m) := (S1.out _).cells.2.2.2
  have kb0 : (w2.alloc (.cells #[.int .i64 (x + m), .int .i64 (y + f), .int .i64 0, .int .i64 v] 23)).cell? ⟨w.heap.size, 3, none⟩ = some (.int .i64 v) := (S0.out _).cells.2.2.2
  have kb1 : (w2.alloc (.cells #[.int .i64 (x + m), .int .i64 (y + f), .int .i64 0, .int .i64 v] 23)).cell? ⟨w.heap.size + 1, 0, none⟩ = some (.int .i64 f) := (S1.out _).cells.1
  have kb2 : (w2.alloc (.cells #[.int .i64 (x + m), .int .i64 (y + f), .int .i64 0, .int .i64 v] 23)).cell? ⟨w.heap.size + 1, 2, none⟩ = some (.int .i64 k) := (S1.out _).cells.2.2.1
  have kc0 : (w2.alloc (.cells #[.int .i64 (x + m), .int .i64 (y + f), .int .i64 0, .int .i64 0] 23)).cell? ⟨w.heap.size + 1 + 1, 0, none⟩ = some (.int .i64 0) := (S2.out _).cells.1
  have kc1 : (w2.alloc (.cells #[.int .i64 (x + m), .int .i64 (y + f), .int .i64 0, .int .i64 0] 23)).cell? ⟨w.heap.size + 1 + 1, 1, none⟩ = some (.int .i64 0) := (S2.out _).cells.2.1
  have kc2 : (w2.alloc (.cells #[.int .i64 (x + m), .int .i64 (y + f), .int .i64 0, .int .i64 0] 23)).cell? ⟨w.heap.size + 1 + 1, 2, none⟩ = some (.int .i64 0) := (S2.out _).cells.2.2.1
  have kc3 : (w2.alloc (.cells #[.int .i64 (x + m), .int .i64 (y + f), .int .i64 0, .int .i64 0] 23)).cell? ⟨w.heap.size + 1 + 1, 3, none⟩ = some (.int .i64 0) := (S2.out _).cells.2.2.2
  have fz := fun i => (S2.out (.cells #[.int .i64 (x + m), .int .i64 (y + f), .int .i64 0, .int .i64 0] 23)).frozen i
  have ha := Ha.out
  have hb := Hb.out
  have hc := Hc.out
  have hd := Hd.out
  have he := He.out
  have hf := Hf.out
  go_wp2_with (fail)
  exact ⟨rfl, .tuple #[.agg #[.int .i64 (x + m), .int .i64 (y + f), .int .i64 0, .int .i64 0], .int .i64 0], by simp [results, Try.results23, go_sem, *], rfl, (((((HB2.out _).setCell (p := ⟨w.heap.size + 1 + 1, 0, none⟩) (by show w.heap.size ≤ w.heap.size + 1 + 1; omega) _).setCell (p := ⟨w.heap.size + 1 + 1, 1, none⟩) (by show w.heap.size ≤ w.heap.size + 1 + 1; omega) _).setCell (p := ⟨w.heap.size + 1 + 1, 2, none⟩) (by show w.heap.size ≤ w.heap.size + 1 + 1; omega) _).setCell (p := ⟨w.heap.size + 1 + 1, 3, none⟩) (by show w.heap.size ≤ w.heap.size + 1 + 1; omega) _)⟩

theorem c23 (r : Rect) (f g k m : Int) (w : World) : Calls Try.prog 23 #[.agg r.arr, .agg #[.int .i64 f, .int .i64 g, .int .i64 k, .int .i64 m]] w fun e w' => e = .returned (.tuple #[.agg (inset r f g k m).arr, .int .i64 (erI r f g k m)]) ∧ Below w.heap.size w w' := by
  unfold inset erI okI
  cases h0 : lensOk f g k m with
  | false => exact c23_a r f g k m w h0
  | true =>
    rw [Bool.true_and]
    cases h1 : okV r m f with
    | false => exact c23_b r f g k m w ⟨h0, by unfold moved; rw [h1]; rfl, by unfold erV; rw [h1]; rfl⟩
    | true =>
      have e1 : moved r m f = ⟨r.x + m, r.y + f, r.w, r.h⟩ ∧ erV r m f = 0 := ⟨by unfold moved; rw [h1]; rfl, by unfold erV; rw [h1]; rfl⟩
      have ll := lensOk_iff.1 h0
      have rr : right r = true := by
        unfold okV at h1
        cases z : right r with
        | true => rfl
        | false => rw [z] at h1; cases h1
      have rb := right_iff.1 rr
      have ew : IntKind.i64.wrap (r.w - g) = r.w - g ∧ IntKind.i64.wrap (r.w - g - m) = r.w - g - m ∧ IntKind.i64.wrap (r.h - f) = r.h - f ∧ IntKind.i64.wrap (r.h - f - k) = r.h - f - k := ⟨IntWalk.i64_in _ (by omega), IntWalk.i64_in _ (by omega), IntWalk.i64_in _ (by omega), IntWalk.i64_in _ (by omega)⟩
      rw [if_pos rfl, if_pos rfl]
      by_cases qa : r.w - g - m < 0 <;> by_cases qb : r.h - f - k < 0
      · rw [show max (r.w - g - m) 0 = 0 by omega, show max (r.h - f - k) 0 = 0 by omega]
        exact c23_c11 r f g k m w ⟨h0, e1, ew, eq_true qa, eq_true qb⟩
      · rw [show max (r.w - g - m) 0 = 0 by omega, show max (r.h - f - k) 0 = r.h - f - k by omega]
        exact c23_c10 r f g k m w ⟨h0, e1, ew, eq_true qa, eq_false qb⟩
      · rw [show max (r.w - g - m) 0 = r.w - g - m by omega, show max (r.h - f - k) 0 = 0 by omega]
        exact c23_c01 r f g k m w ⟨h0, e1, ew, eq_false qa, eq_true qb⟩
      · rw [show max (r.w - g - m) 0 = r.w - g - m by omega, show max (r.h - f - k) 0 = r.h - f - k by omega]
        exact c23_c00 r f g k m w ⟨h0, e1, ew, eq_false qa, eq_false qb⟩
end Go.Proofs.Ytnlojbkjhlhogaa
