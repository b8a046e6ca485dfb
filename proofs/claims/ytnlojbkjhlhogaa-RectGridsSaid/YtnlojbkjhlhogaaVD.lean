/- Contract of the reference's Inset: any rectangle, any four lengths. -/
import Derived.Test.YtnlojbkjhlhogaaVC
namespace Go.Proofs.Ytnlojbkjhlhogaa
open Go Go.RowKit IV
set_option linter.unusedVariables false

set_option maxRecDepth 100000 in
set_option maxHeartbeats 2000000 in
theorem c24_a (r : Rect) (f g k m : Int) (w : World) (h0 : lensOk f g k m = false) : Calls Try.prog 24 #[.agg r.arr, .agg #[.int .i64 f, .int .i64 g, .int .i64 k, .int .i64 m]] w fun e w' => e = .returned (.tuple #[.agg (Rect.arr ⟨0, 0, 0, 0⟩), .int .i64 20]) ∧ Below w.heap.size w w' := by
  obtain ⟨Q0, Q1, Q2, HB⟩ := row_quad w r f g k m ⟨0, 0, 0, 0⟩
  have C2 := Lib.hid (fun W => c22 r m f W)
  have H0 := Lib.hid h0
  clear h0
  generalize moved r m f = mv at *
  generalize erV r m f = em at *
  obtain ⟨x, y, u, v⟩ := r
  unfold Rect.arr at *
  dsimp only at *
  go_enter Try.func24, Try.ntmps24
  go_wp2_with (fail)
  generalize (((w.alloc (.cells #[.int .i64 x, .int .i64 y, .int .i64 u, .int .i64 v] 23)).alloc (.cells #[.int .i64 f, .int .i64 g, .int .i64 k, .int .i64 m] 42)).alloc (.cells #[.int .i64 0, .int .i64 0, .int .i64 0, .int .i64 0] 23)) = w0 at *
  have Hl : Hid (¬ ((0 ≤ f ∧ f ≤ 1152921504606846975) ∧ (0 ≤ g ∧ g ≤ 1152921504606846975) ∧ (0 ≤ k ∧ k ≤ 1152921504606846975) ∧ (0 ≤ m ∧ m ≤ 1152921504606846975))) := Lib.hid fun q => by
    have := lensOk_iff.2 q
    rw [H0.out] at this
    cases this
  clear H0 C2
  go_loop [6] (fun i => i = .int .i64 0 ∨ (i = .int .i64 1 ∧ Hid ((0 ≤ f ∧ f ≤ 1152921504606846975))) ∨ (i = .int .i64 2 ∧ Hid ((0 ≤ f ∧ f ≤ 1152921504606846975) ∧ (0 ≤ g ∧ g ≤ 1152921504606846975))) ∨ (i = .int .i64 3 ∧ Hid ((0 ≤ f ∧ f ≤ 1152921504606846975) ∧ (0 ≤ g ∧ g ≤ 1152921504606846975) ∧ (0 ≤ k ∧ k ≤ 1152921504606846975))) ∨ (i = .int .i64 4 ∧ Hid ((0 ≤ f ∧ f ≤ 1152921504606846975) ∧ (0 ≤ g ∧ g ≤ 1152921504606846975) ∧ (0 ≤ k ∧ k ≤ 1152921504606846975) ∧ (0 ≤ m ∧ m ≤ 1152921504606846975)))) (fun i => 4 - (intOf i).toNat)
  case atStart => exact .inl rfl
  case round =>
    rcases hrel with rfl | ⟨rfl, H1⟩ | ⟨rfl, H1⟩ | ⟨rfl, H1⟩ | ⟨rfl, H1⟩
    · have q0 : w0.cell? ⟨w.heap.size + 1, 0, none⟩ = some (.int .i64 f) := Q1.out.cells.1
      by_cases h1 : f < 0
      · have t1 : decide (f < 0) = true := decide_eq_true h1
        clear h1
        have z0 : w0.cell? ⟨w.heap.size + 1 + 1, 0, none⟩ = some (.int .i64 0) := Q2.out.cells.1
        have z1 : w0.cell? ⟨w.heap.size + 1 + 1, 1, none⟩ = some (.int .i64 0) := Q2.out.cells.2.1
        have z2 : w0.cell? ⟨w.heap.size + 1 + 1, 2, none⟩ = some (.int .i64 0) := Q2.out.cells.2.2.1
        have z3 : w0.cell? ⟨w.heap.size + 1 + 1, 3, none⟩ = some (.int .i64 0) := Q2.out.cells.2.2.2
        have fz := Q2.out.frozen
        try dsimp only at z0 z1 z2 z3
        go_wp2_with (fail)
        exact ⟨rfl, .tuple #[.agg #[.int .i64 0, .int .i64 0, .int .i64 0, .int .i64 0], .int .i64 20], by simp [results, Try.results24, go_sem, *], rfl, ((((HB.out.setCell (p := ⟨w.heap.size + 1 + 1, 0, none⟩) (by show w.heap.size ≤ w.heap.size + 1 + 1; omega) _).setCell (p := ⟨w.heap.size + 1 + 1, 1, none⟩) (by show w.heap.size ≤ w.heap.size + 1 + 1; omega) _).setCell (p := ⟨w.heap.size + 1 + 1, 2, none⟩) (by show w.heap.size ≤ w.heap.size + 1 + 1; omega) _).setCell (p := ⟨w.heap.size + 1 + 1, 3, none⟩) (by show w.heap.size ≤ w.heap.size + 1 + 1; omega) _)⟩
      · have t1 : decide (f < 0) = false := decide_eq_false h1
        by_cases h2 : 1152921504606846975 < f
        · have t2 : decide (1152921504606846975 < f) = true := decide_eq_true h2
          clear h1 h2
          have z0 : w0.cell? ⟨w.heap.size + 1 + 1, 0, none⟩ = some (.int .i64 0) := Q2.out.cells.1
          have z1 : w0.cell? ⟨w.heap.size + 1 + 1, 1, none⟩ = some (.int .i64 0) := Q2.out.cells.2.1
          have z2 : w0.cell? ⟨w.heap.size + 1 + 1, 2, none⟩ = some (.int .i64 0) := Q2.out.cells.2.2.1
          have z3 : w0.cell? ⟨w.heap.size + 1 + 1, 3, none⟩ = some (.int .i64 0) := Q2.out.cells.2.2.2
          have fz := Q2.out.frozen
          try dsimp only at z0 z1 z2 z3
          go_wp2_with (fail)
          exact ⟨rfl, .tuple #[.agg #[.int .i64 0, .int .i64 0, .int .i64 0, .int .i64 0], .int .i64 20], by simp [results, Try.results24, go_sem, *], rfl, ((((HB.out.setCell (p := ⟨w.heap.size + 1 + 1, 0, none⟩) (by show w.heap.size ≤ w.heap.size + 1 + 1; omega) _).setCell (p := ⟨w.heap.size + 1 + 1, 1, none⟩) (by show w.heap.size ≤ w.heap.size + 1 + 1; omega) _).setCell (p := ⟨w.heap.size + 1 + 1, 2, none⟩) (by show w.heap.size ≤ w.heap.size + 1 + 1; omega) _).setCell (p := ⟨w.heap.size + 1 + 1, 3, none⟩) (by show w.heap.size ≤ w.heap.size + 1 + 1; omega) _)⟩
        · have t2 : decide (1152921504606846975 < f) = false := decide_eq_false h2
          have hn : Hid ((0 ≤ f ∧ f ≤ 1152921504606846975)) := Lib.hid (by omega)
          clear h1 h2
          go_wp2
          go_round
          case rel => exact .inr (.inl ⟨rfl, hn⟩)
          case measure => simp [intOf]
    · have q1 : w0.cell? ⟨w.heap.size + 1, 1, none⟩ = some (.int .i64 g) := Q1.out.cells.2.1
      by_cases h1 : g < 0
      · have t1 : decide (g < 0) = true := decide_eq_true h1
        clear h1
        have z0 : w0.cell? ⟨w.heap.size + 1 + 1, 0, none⟩ = some (.int .i64 0) := Q2.out.cells.1
        have z1 : w0.cell? ⟨w.heap.size + 1 + 1, 1, none⟩ = some (.int .i64 0) := Q2.out.cells.2.1
        have z2 : w0.cell? ⟨w.heap.size + 1 + 1, 2, none⟩ = some (.int .i64 0) := Q2.out.cells.2.2.1
        have z3 : w0.cell? ⟨w.heap.size + 1 + 1, 3, none⟩ = some (.int .i64 0) := Q2.out.cells.2.2.2
        have fz := Q2.out.frozen
        try dsimp only at z0 z1 z2 z3
        go_wp2_with (fail)
        exact ⟨rfl, .tuple #[.agg #[.int .i64 0, .int .i64 0, .int .i64 0, .int .i64 0], .int .i64 20], by simp [results, Try.results24, go_sem, *], rfl, ((((HB.out.setCell (p := ⟨w.heap.size + 1 + 1, 0, none⟩) (by show w.heap.size ≤ w.heap.size + 1 + 1; omega) _).setCell (p := ⟨w.heap.size + 1 + 1, 1, none⟩) (by show w.heap.size ≤ w.heap.size + 1 + 1; omega) _).setCell (p := ⟨w.heap.size + 1 + 1, 2, none⟩) (by show w.heap.size ≤ w.heap.size + 1 + 1; omega) _).setCell (p := ⟨w.heap.size + 1 + 1, 3, none⟩) (by show w.heap.size ≤ w.heap.size + 1 + 1; omega) _)⟩
      · have t1 : decide (g < 0) = false := decide_eq_false h1
        by_cases h2 : 1152921504606846975 < g
        · have t2 : decide (1152921504606846975 < g) = true := decide_eq_true h2
          clear h1 h2
          have z0 : w0.cell? ⟨w.heap.size + 1 + 1, 0, none⟩ = some (.int .i64 0) := Q2.out.cells.1
          have z1 : w0.cell? ⟨w.heap.size + 1 + 1, 1, none⟩ = some (.int .i64 0) := Q2.out.cells.2.1
          have z2 : w0.cell? ⟨w.heap.size + 1 + 1, 2, none⟩ = some (.int .i64 0) := Q2.out.cells.2.2.1
          have z3 : w0.cell? ⟨w.heap.size + 1 + 1, 3, none⟩ = some (.int .i64 0) := Q2.out.cells.2.2.2
          have fz := Q2.out.frozen
          try dsimp only at z0 z1 z2 z3
          go_wp2_with (fail)
          exact ⟨rfl, .tuple #[.agg #[.int .i64 0, .int .i64 0, .int .i64 0, .int .i64 0], .int .i64 20], by simp [results, Try.results24, go_sem, *], rfl, ((((HB.out.setCell (p := ⟨w.heap.size + 1 + 1, 0, none⟩) (by show w.heap.size ≤ w.heap.size + 1 + 1; omega) _).setCell (p := ⟨w.heap.size + 1 + 1, 1, none⟩) (by show w.heap.size ≤ w.heap.size + 1 + 1; omega) _).setCell (p := ⟨w.heap.size + 1 + 1, 2, none⟩) (by show w.heap.size ≤ w.heap.size + 1 + 1; omega) _).setCell (p := ⟨w.heap.size + 1 + 1, 3, none⟩) (by show w.heap.size ≤ w.heap.size + 1 + 1; omega) _)⟩
        · have t2 : decide (1152921504606846975 < g) = false := decide_eq_false h2
          have hn : Hid ((0 ≤ f ∧ f ≤ 1152921504606846975) ∧ (0 ≤ g ∧ g ≤ 1152921504606846975)) := Lib.hid (by have := H1.out; omega)
          clear h1 h2
          go_wp2
          go_round
          case rel => exact .inr (.inr (.inl ⟨rfl, hn⟩))
          case measure => simp [intOf]
    · have q2 : w0.cell? ⟨w.heap.size + 1, 2, none⟩ = some (.int .i64 k) := Q1.out.cells.2.2.1
      by_cases h1 : k < 0
      · have t1 : decide (k < 0) = true := decide_eq_true h1
        clear h1
        have z0 : w0.cell? ⟨w.heap.size + 1 + 1, 0, none⟩ = some (.int .i64 0) := Q2.out.cells.1
        have z1 : w0.cell? ⟨w.heap.size + 1 + 1, 1, none⟩ = some (.int .i64 0) := Q2.out.cells.2.1
        have z2 : w0.cell? ⟨w.heap.size + 1 + 1, 2, none⟩ = some (.int .i64 0) := Q2.out.cells.2.2.1
        have z3 : w0.cell? ⟨w.heap.size + 1 + 1, 3, none⟩ = some (.int .i64 0) := Q2.out.cells.2.2.2
        have fz := Q2.out.frozen
        try dsimp only at z0 z1 z2 z3
        go_wp2_with (fail)
        exact ⟨rfl, .tuple #[.agg #[.int .i64 0, .int .i64 0, .int .i64 0, .int .i64 0], .int .i64 20], by simp [results, Try.results24, go_sem, *], rfl, ((((HB.out.setCell (p := ⟨w.heap.size + 1 + 1, 0, none⟩) (by show w.heap.size ≤ w.heap.size + 1 + 1; omega) _).setCell (p := ⟨w.heap.size + 1 + 1, 1, none⟩) (by show w.heap.size ≤ w.heap.size + 1 + 1; omega) _).setCell (p := ⟨w.heap.size + 1 + 1, 2, none⟩) (by show w.heap.size ≤ w.heap.size + 1 + 1; omega) _).setCell (p := ⟨w.heap.size + 1 + 1, 3, none⟩) (by show w.heap.size ≤ w.heap.size + 1 + 1; omega) _)⟩
      · have t1 : decide (k < 0) = false := decide_eq_false h1
        by_cases h2 : 1152921504606846975 < k
        · have t2 : decide (1152921504606846975 < k) = true := decide_eq_true h2
          clear h1 h2
          have z0 : w0.cell? ⟨w.heap.size + 1 + 1, 0, none⟩ = some (.int .i64 0) := Q2.out.cells.1
          have z1 : w0.cell? ⟨w.heap.size + 1 + 1, 1, none⟩ = some (.int .i64 0) := Q2.out.cells.2.1
          have z2 : w0.cell? ⟨w.heap.size + 1 + 1, 2, none⟩ = some (.int .i64 0) := Q2.out.cells.2.2.1
          have z3 : w0.cell? ⟨w.heap.size + 1 + 1, 3, none⟩ = some (.int .i64 0) := Q2.out.cells.2.2.2
          have fz := Q2.out.frozen
          try dsimp only at z0 z1 z2 z3
          go_wp2_with (fail)
          exact ⟨rfl, .tuple #[.agg #[.int .i64 0, .int .i64 0, .int .i64 0, .int .i64 0], .int .i64 20], by simp [results, Try.results24, go_sem, *], rfl, ((((HB.out.setCell (p := ⟨w.heap.size + 1 + 1, 0, none⟩) (by show w.heap.size ≤ w.heap.size + 1 + 1; omega) _).setCell (p := ⟨w.heap.size + 1 + 1, 1, none⟩) (by show w.heap.size ≤ w.heap.size + 1 + 1; omega) _).setCell (p := ⟨w.heap.size + 1 + 1, 2, none⟩) (by show w.heap.size ≤ w.heap.size + 1 + 1; omega) _).setCell (p := ⟨w.heap.size + 1 + 1, 3, none⟩) (by show w.heap.size ≤ w.heap.size + 1 + 1; omega) _)⟩
        · have t2 : decide (1152921504606846975 < k) = false := decide_eq_false h2
          have hn : Hid ((0 ≤ f ∧ f ≤ 1152921504606846975) ∧ (0 ≤ g ∧ g ≤ 1152921504606846975) ∧ (0 ≤ k ∧ k ≤ 1152921504606846975)) := Lib.hid (by have := H1.out; omega)
          clear h1 h2
          go_wp2
          go_round
          case rel => exact .inr (.inr (.inr (.inl ⟨rfl, hn⟩)))
          case measure => simp [intOf]
    · have q3 : w0.cell? ⟨w.heap.size + 1, 3, none⟩ = some (.int .i64 m) := Q1.out.cells.2.2.2
      by_cases h1 : m < 0
      · have t1 : decide (m < 0) = true := decide_eq_true h1
        clear h1
        have z0 : w0.cell? ⟨w.heap.size + 1 + 1, 0, none⟩ = some (.int .i64 0) := Q2.out.cells.1
        have z1 : w0.cell? ⟨w.heap.size + 1 + 1, 1, none⟩ = some (.int .i64 0) := Q2.out.cells.2.1
        have z2 : w0.cell? ⟨w.heap.size + 1 + 1, 2, none⟩ = some (.int .i64 0) := Q2.out.cells.2.2.1
        have z3 : w0.cell? ⟨w.heap.size + 1 + 1, 3, none⟩ = some (.int .i64 0) := Q2.out.cells.2.2.2
        have fz := Q2.out.frozen
        try dsimp only at z0 z1 z2 z3
        go_wp2_with (fail)
        exact ⟨rfl, .tuple #[.agg #[.int .i64 0, .int .i64 0, .int .i64 0, .int .i64 0], .int .i64 20], by simp [results, Try.results24, go_sem, *], rfl, ((((HB.out.setCell (p := ⟨w.heap.size + 1 + 1, 0, none⟩) (by show w.heap.size ≤ w.heap.size + 1 + 1; omega) _).setCell (p := ⟨w.heap.size + 1 + 1, 1, none⟩) (by show w.heap.size ≤ w.heap.size + 1 + 1; omega) _).setCell (p := ⟨w.heap.size + 1 + 1, 2, none⟩) (by show w.heap.size ≤ w.heap.size + 1 + 1; omega) _).setCell (p := ⟨w.heap.size + 1 + 1, 3, none⟩) (by show w.heap.size ≤ w.heap.size + 1 + 1; omega) _)⟩
      · have t1 : decide (m < 0) = false := decide_eq_false h1
        by_cases h2 : 1152921504606846975 < m
        · have t2 : decide (1152921504606846975 < m) = true := decide_eq_true h2
          clear h1 h2
          have z0 : w0.cell? ⟨w.heap.size + 1 + 1, 0, none⟩ = some (.int .i64 0) := Q2.out.cells.1
          have z1 : w0.cell? ⟨w.heap.size + 1 + 1, 1, none⟩ = some (.int .i64 0) := Q2.out.cells.2.1
          have z2 : w0.cell? ⟨w.heap.size + 1 + 1, 2, none⟩ = some (.int .i64 0) := Q2.out.cells.2.2.1
          have z3 : w0.cell? ⟨w.heap.size + 1 + 1, 3, none⟩ = some (.int .i64 0) := Q2.out.cells.2.2.2
          have fz := Q2.out.frozen
          try dsimp only at z0 z1 z2 z3
          go_wp2_with (fail)
          exact ⟨rfl, .tuple #[.agg #[.int .i64 0, .int .i64 0, .int .i64 0, .int .i64 0], .int .i64 20], by simp [results, Try.results24, go_sem, *], rfl, ((((HB.out.setCell (p := ⟨w.heap.size + 1 + 1, 0, none⟩) (by show w.heap.size ≤ w.heap.size + 1 + 1; omega) _).setCell (p := ⟨w.heap.size + 1 + 1, 1, none⟩) (by show w.heap.size ≤ w.heap.size + 1 + 1; omega) _).setCell (p := ⟨w.heap.size + 1 + 1, 2, none⟩) (by show w.heap.size ≤ w.heap.size + 1 + 1; omega) _).setCell (p := ⟨w.heap.size + 1 + 1, 3, none⟩) (by show w.heap.size ≤ w.heap.size + 1 + 1; omega) _)⟩
        · have t2 : decide (1152921504606846975 < m) = false := decide_eq_false h2
          have hn : Hid ((0 ≤ f ∧ f ≤ 1152921504606846975) ∧ (0 ≤ g ∧ g ≤ 1152921504606846975) ∧ (0 ≤ k ∧ k ≤ 1152921504606846975) ∧ (0 ≤ m ∧ m ≤ 1152921504606846975)) := Lib.hid (by have := H1.out; omega)
          clear h1 h2
          go_wp2
          go_round
          case rel => exact .inr (.inr (.inr (.inr (⟨rfl, hn⟩))))
          case measure => simp [intOf]
    · exact absurd (by have := H1.out; omega) Hl.out

set_option maxRecDepth 100000 in
set_option maxHeartbeats 2000000 in
theorem c24_b (r : Rect) (f g k m : Int) (w : World) (h0 : lensOk f g k m = true ∧ moved r m f = ⟨0, 0, 0, 0⟩ ∧ erV r m f = 20) : Calls Try.prog 24 #[.agg r.arr, .agg #[.int .i64 f, .int .i64 g, .int .i64 k, .int .i64 m]] w fun e w' => e = .returned (.tuple #[.agg (Rect.arr ⟨0, 0, 0, 0⟩), .int .i64 20]) ∧ Below w.heap.size w w' := by
  obtain ⟨Q0, Q1, Q2, HB⟩ := row_quad w r f g k m ⟨0, 0, 0, 0⟩
  have C2 := Lib.hid (fun W => c22 r m f W)
  have H0 := Lib.hid h0
  clear h0
  generalize moved r m f = mv at *
  generalize erV r m f = em at *
  obtain ⟨x, y, u, v⟩ := r
  unfold Rect.arr at *
  dsimp only at *
  go_enter Try.func24, Try.ntmps24
  go_wp2_with (fail)
  generalize (((w.alloc (.cells #[.int .i64 x, .int .i64 y, .int .i64 u, .int .i64 v] 23)).alloc (.cells #[.int .i64 f, .int .i64 g, .int .i64 k, .int .i64 m] 42)).alloc (.cells #[.int .i64 0, .int .i64 0, .int .i64 0, .int .i64 0] 23)) = w0 at *
  obtain ⟨hn, rfl, rfl⟩ := H0.out
  have Hl := Lib.hid (lensOk_iff.1 hn)
  clear hn H0
  dsimp only at C2
  go_loop [6] (fun i => i = .int .i64 0 ∨ i = .int .i64 1 ∨ i = .int .i64 2 ∨ i = .int .i64 3 ∨ i = .int .i64 4) (fun i => 4 - (intOf i).toNat)
  case atStart => exact .inl rfl
  case round =>
    rcases hrel with rfl | rfl | rfl | rfl | rfl
    · have q0 : w0.cell? ⟨w.heap.size + 1, 0, none⟩ = some (.int .i64 f) := Q1.out.cells.1
      have t1 : decide (f < 0) = false := decide_eq_false (by have := Hl.out; omega)
      have t2 : decide (1152921504606846975 < f) = false := decide_eq_false (by have := Hl.out; omega)
      go_wp2
      go_round
      case rel => simp
      case measure => simp [intOf]
    · have q1 : w0.cell? ⟨w.heap.size + 1, 1, none⟩ = some (.int .i64 g) := Q1.out.cells.2.1
      have t1 : decide (g < 0) = false := decide_eq_false (by have := Hl.out; omega)
      have t2 : decide (1152921504606846975 < g) = false := decide_eq_false (by have := Hl.out; omega)
      go_wp2
      go_round
      case rel => simp
      case measure => simp [intOf]
    · have q2 : w0.cell? ⟨w.heap.size + 1, 2, none⟩ = some (.int .i64 k) := Q1.out.cells.2.2.1
      have t1 : decide (k < 0) = false := decide_eq_false (by have := Hl.out; omega)
      have t2 : decide (1152921504606846975 < k) = false := decide_eq_false (by have := Hl.out; omega)
      go_wp2
      go_round
      case rel => simp
      case measure => simp [intOf]
    · have q3 : w0.cell? ⟨w.heap.size + 1, 3, none⟩ = some (.int .i64 m) := Q1.out.cells.2.2.2
      have t1 : decide (m < 0) = false := decide_eq_false (by have := Hl.out; omega)
      have t2 : decide (1152921504606846975 < m) = false := decide_eq_false (by have := Hl.out; omega)
      go_wp2
      go_round
      case rel => simp
      case measure => simp [intOf]
    · have p0 : w0.cell? ⟨w.heap.size, 0, none⟩ = some (.int .i64 x) := Q0.out.cells.1
      have p1 : w0.cell? ⟨w.heap.size, 1, none⟩ = some (.int .i64 y) := Q0.out.cells.2.1
      have p2 : w0.cell? ⟨w.heap.size, 2, none⟩ = some (.int .i64 u) := Q0.out.cells.2.2.1
      have p3 : w0.cell? ⟨w.heap.size, 3, none⟩ = some (.int .i64 v) := Q0.out.cells.2.2.2
      have q0 : w0.cell? ⟨w.heap.size + 1, 0, none⟩ = some (.int .i64 f) := Q1.out.cells.1
      have q1 : w0.cell? ⟨w.heap.size + 1, 1, none⟩ = some (.int .i64 g) := Q1.out.cells.2.1
      have q2 : w0.cell? ⟨w.heap.size + 1, 2, none⟩ = some (.int .i64 k) := Q1.out.cells.2.2.1
      have q3 : w0.cell? ⟨w.heap.size + 1, 3, none⟩ = some (.int .i64 m) := Q1.out.cells.2.2.2
      try dsimp only at p0 p1 p2 p3
      go_wp2_with (fail)
      clear p0 p1 p2 p3 q0 q1 q2 q3
      refine (C2.out _).mono ?_
      rintro e w2 ⟨rfl, hb⟩
      have hbb := hb.trans (((Below.refl _ w2).alloc (Nat.le_refl _) (.cells #[.int .i64 0, .int .i64 0, .int .i64 0, .int .i64 0] 23)).mono hb.size)
      have S2 := Lib.hid (Q2.out.turn hbb)
      have HB2 := Lib.hid (HB.out.trans (hbb.mono HB.out.size))
      clear hb hbb C2 Q0 Q1 Q2 HB
      have z0 : (w2.alloc (.cells #[.int .i64 0, .int .i64 0, .int .i64 0, .int .i64 0] 23)).cell? ⟨w.heap.size + 1 + 1, 0, none⟩ = some (.int .i64 0) := S2.out.cells.1
      have z1 : (w2.alloc (.cells #[.int .i64 0, .int .i64 0, .int .i64 0, .int .i64 0] 23)).cell? ⟨w.heap.size + 1 + 1, 1, none⟩ = some (.int .i64 0) := S2.out.cells.2.1
      have z2 : (w2.alloc (.cells #[.int .i64 0, .int .i64 0, .int .i64 0, .int .i64 0] 23)).cell? ⟨w.heap.size + 1 + 1, 2, none⟩ = some (.int .i64 0) := S2.out.cells.2.2.1
      have z3 : (w2.alloc (.cells #[.int .i64 0, .int .i64 0, .int .i64 0, .int .i64 0] 23)).cell? ⟨w.heap.size + 1 + 1, 3, none⟩ = some (.int .i64 0) := S2.out.cells.2.2.2
      have fz := S2.out.frozen
      try dsimp only at z0 z1 z2 z3
      go_wp2_with (fail)
      exact ⟨rfl, .tuple #[.agg #[.int .i64 0, .int .i64 0, .int .i64 0, .int .i64 0], .int .i64 20], by simp [results, Try.results24, go_sem, *], rfl, ((((HB2.out.setCell (p := ⟨w.heap.size + 1 + 1, 0, none⟩) (by show w.heap.size ≤ w.heap.size + 1 + 1; omega) _).setCell (p := ⟨w.heap.size + 1 + 1, 1, none⟩) (by show w.heap.size ≤ w.heap.size + 1 + 1; omega) _).setCell (p := ⟨w.heap.size + 1 + 1, 2, none⟩) (by show w.heap.size ≤ w.heap.size + 1 + 1; omega) _).setCell (p := ⟨w.heap.size + 1 + 1, 3, none⟩) (by show w.heap.size ≤ w.heap.size + 1 + 1; omega) _)⟩

set_option maxRecDepth 100000 in
set_option maxHeartbeats 2000000 in
theorem c24_c00 (r : Rect) (f g k m : Int) (w : World) (h0 : lensOk f g k m = true ∧ (moved r m f = ⟨r.x + m, r.y + f, r.w, r.h⟩ ∧ erV r m f = 0) ∧ (IntKind.i64.wrap (r.w - g) = r.w - g ∧ IntKind.i64.wrap (r.w - g - m) = r.w - g - m ∧ IntKind.i64.wrap (r.h - f) = r.h - f ∧ IntKind.i64.wrap (r.h - f - k) = r.h - f - k) ∧ (m < r.w - g) = True ∧ (k < r.h - f) = True) : Calls Try.prog 24 #[.agg r.arr, .agg #[.int .i64 f, .int .i64 g, .int .i64 k, .int .i64 m]] w fun e w' => e = .returned (.tuple #[.agg (Rect.arr ⟨r.x + m, r.y + f, (r.w - g - m), (r.h - f - k)⟩), .int .i64 0]) ∧ Below w.heap.size w w' := by
  obtain ⟨Q0, Q1, Q2, HB⟩ := row_quad w r f g k m ⟨0, 0, 0, 0⟩
  have C2 := Lib.hid (fun W => c22 r m f W)
  have H0 := Lib.hid h0
  clear h0
  generalize moved r m f = mv at *
  generalize erV r m f = em at *
  obtain ⟨x, y, u, v⟩ := r
  unfold Rect.arr at *
  dsimp only at *
  go_enter Try.func24, Try.ntmps24
  go_wp2_with (fail)
  generalize (((w.alloc (.cells #[.int .i64 x, .int .i64 y, .int .i64 u, .int .i64 v] 23)).alloc (.cells #[.int .i64 f, .int .i64 g, .int .i64 k, .int .i64 m] 42)).alloc (.cells #[.int .i64 0, .int .i64 0, .int .i64 0, .int .i64 0] 23)) = w0 at *
  obtain ⟨hn, ⟨rfl, rfl⟩, ⟨ha, hb, hc, hd⟩, he, hf⟩ := H0.out
  have Hl := Lib.hid (lensOk_iff.1 hn)
  clear hn H0
  dsimp only at C2 ha hb hc hd he hf
  have Ha := Lib.hid ha
  have Hb := Lib.hid hb
  have Hc := Lib.hid hc
  have Hd := Lib.hid hd
  have He := Lib.hid he
  have Hf := Lib.hid hf
  clear ha hb hc hd he hf
  go_loop [6] (fun i => i = .int .i64 0 ∨ i = .int .i64 1 ∨ i = .int .i64 2 ∨ i = .int .i64 3 ∨ i = .int .i64 4) (fun i => 4 - (intOf i).toNat)
  case atStart => exact .inl rfl
  case round =>
    rcases hrel with rfl | rfl | rfl | rfl | rfl
    · have q0 : w0.cell? ⟨w.heap.size + 1, 0, none⟩ = some (.int .i64 f) := Q1.out.cells.1
      have t1 : decide (f < 0) = false := decide_eq_false (by have := Hl.out; omega)
      have t2 : decide (1152921504606846975 < f) = false := decide_eq_false (by have := Hl.out; omega)
      go_wp2
      go_round
      case rel => simp
      case measure => simp [intOf]
    · have q1 : w0.cell? ⟨w.heap.size + 1, 1, none⟩ = some (.int .i64 g) := Q1.out.cells.2.1
      have t1 : decide (g < 0) = false := decide_eq_false (by have := Hl.out; omega)
      have t2 : decide (1152921504606846975 < g) = false := decide_eq_false (by have := Hl.out; omega)
      go_wp2
      go_round
      case rel => simp
      case measure => simp [intOf]
    · have q2 : w0.cell? ⟨w.heap.size + 1, 2, none⟩ = some (.int .i64 k) := Q1.out.cells.2.2.1
      have t1 : decide (k < 0) = false := decide_eq_false (by have := Hl.out; omega)
      have t2 : decide (1152921504606846975 < k) = false := decide_eq_false (by have := Hl.out; omega)
      go_wp2
      go_round
      case rel => simp
      case measure => simp [intOf]
    · have q3 : w0.cell? ⟨w.heap.size + 1, 3, none⟩ = some (.int .i64 m) := Q1.out.cells.2.2.2
      have t1 : decide (m < 0) = false := decide_eq_false (by have := Hl.out; omega)
      have t2 : decide (1152921504606846975 < m) = false := decide_eq_false (by have := Hl.out; omega)
      go_wp2
      go_round
      case rel => simp
      case measure => simp [intOf]
    · have p0 : w0.cell? ⟨w.heap.size, 0, none⟩ = some (.int .i64 x) := Q0.out.cells.1
      have p1 : w0.cell? ⟨w.heap.size, 1, none⟩ = some (.int .i64 y) := Q0.out.cells.2.1
      have p2 : w0.cell? ⟨w.heap.size, 2, none⟩ = some (.int .i64 u) := Q0.out.cells.2.2.1
      have p3 : w0.cell? ⟨w.heap.size, 3, none⟩ = some (.int .i64 v) := Q0.out.cells.2.2.2
      have q0 : w0.cell? ⟨w.heap.size + 1, 0, none⟩ = some (.int .i64 f) := Q1.out.cells.1
      have q1 : w0.cell? ⟨w.heap.size + 1, 1, none⟩ = some (.int .i64 g) := Q1.out.cells.2.1
      have q2 : w0.cell? ⟨w.heap.size + 1, 2, none⟩ = some (.int .i64 k) := Q1.out.cells.2.2.1
      have q3 : w0.cell? ⟨w.heap.size + 1, 3, none⟩ = some (.int .i64 m) := Q1.out.cells.2.2.2
      try dsimp only at p0 p1 p2 p3
      go_wp2_with (fail)
      clear p0 p1 p2 p3 q0 q1 q2 q3
      refine (C2.out _).mono ?_
      rintro e w2 ⟨rfl, hb⟩
      have bb := fun o => hb.trans (((Below.refl _ w2).alloc (Nat.le_refl _) o).mono hb.size)
      have S0 := Lib.hid fun o => Q0.out.turn (bb o)
      have S1 := Lib.hid fun o => Q1.out.turn (bb o)
      have S2 := Lib.hid fun o => Q2.out.turn (bb o)
      have HB2 := Lib.hid fun o => HB.out.trans ((bb o).mono HB.out.size)
      have Hz : Hid (w.heap.size + 1 + 1 < w2.heap.size) := Lib.hid (Nat.lt_of_lt_of_le Q2.out.lt hb.size)
      clear hb bb C2 Q0 Q1 Q2 HB
      have ka0 : (w2.alloc (.cells #[.int .i64 (x + m), .int .i64 (y + f), .int .i64 u, .int .i64 v] 23)).cell? ⟨w.heap.size, 2, none⟩ = some (.int .i64 u) := (S0.out _).cells.2.2.1
      have ka1 : (w2.alloc (.cells #[.int .i64 (x + m), .int .i64 (y + f), .int .i64 u, .int .i64 v] 23)).cell? ⟨w.heap.size + 1, 1, none⟩ = some (.int .i64 g) := (S1.out _).cells.2.1
      have ka2 : (w2.alloc (.cells #[.int .i64 (x + m), .int .i64 (y + f), .int .i64 u, .int .i64 v] 23)).cell? ⟨w.heap.size + 1, 3, none⟩ = some (.int .i64 m) := (S1.out _).cells.2.2.2
      have kb0 : (w2.alloc (.cells #[.int .i64 (x + m), .int .i64 (y + f), .int .i64 (u - g - m), .int .i64 v] 23)).cell? ⟨w.heap.size, 3, none⟩ = some (.int .i64 v) := (S0.out _).cells.2.2.2
      have kb1 : (w2.alloc (.cells #[.int .i64 (x + m), .int .i64 (y + f), .int .i64 (u - g - m), .int .i64 v] 23)).cell? ⟨w.heap.size + 1, 0, none⟩ = some (.int .i64 f) := (S1.out _).cells.1
      have kb2 : (w2.alloc (.cells #[.int .i64 (x + m), .int .i64 (y + f), .int .i64 (u - g - m), .int .i64 v] 23)).cell? ⟨w.heap.size + 1, 2, none⟩ = some (.int .i64 k) := (S1.out _).cells.2.2.1
      have kc0 : (w2.alloc (.cells #[.int .i64 (x + m), .int .i64 (y + f), .int .i64 (u - g - m), .int .i64 (v - f - k)] 23)).cell? ⟨w.heap.size + 1 + 1, 0, none⟩ = some (.int .i64 0) := (S2.out _).cells.1
      have kc1 : (w2.alloc (.cells #[.int .i64 (x + m), .int .i64 (y + f), .int .i64 (u - g - m), .int .i64 (v - f - k)] 23)).cell? ⟨w.heap.size + 1 + 1, 1, none⟩ = some (.int .i64 0) := (S2.out _).cells.2.1
      have kc2 : (w2.alloc (.cells #[.int .i64 (x + m), .int .i64 (y + f), .int .i64 (u - g - m), .int .i64 (v - f - k)] 23)).cell? ⟨w.heap.size + 1 + 1, 2, none⟩ = some (.int .i64 0) := (S2.out _).cells.2.2.1
      have kc3 : (w2.alloc (.cells #[.int .i64 (x + m), .int .i64 (y + f), .int .i64 (u - g - m), .int .i64 (v - f - k)] 23)).cell? ⟨w.heap.size + 1 + 1, 3, none⟩ = some (.int .i64 0) := (S2.out _).cells.2.2.2
      have fz := fun i => (S2.out (.cells #[.int .i64 (x + m), .int .i64 (y + f), .int .i64 (u - g - m), .int .i64 (v - f - k)] 23)).frozen i
      have ha := Ha.out
      have hb := Hb.out
      have hc := Hc.out
      have hd := Hd.out
      have he := He.out
      have hf := Hf.out
      go_wp2_with (fail)
      exact ⟨rfl, .tuple #[.agg #[.int .i64 (x + m), .int .i64 (y + f), .int .i64 (u - g - m), .int .i64 (v - f - k)], .int .i64 0], by simp [results, Try.results24, go_sem, *], rfl, (((((HB2.out _).setCell (p := ⟨w.heap.size + 1 + 1, 0, none⟩) (by show w.heap.size ≤ w.heap.size + 1 + 1; omega) _).setCell (p := ⟨w.heap.size + 1 + 1, 1, none⟩) (by show w.heap.size ≤ w.heap.size + 1 + 1; omega) _).setCell (p := ⟨w.heap.size + 1 + 1, 2, none⟩) (by show w.heap.size ≤ w.heap.size + 1 + 1; omega) _).setCell (p := ⟨w.heap.size + 1 + 1, 3, none⟩) (by show w.heap.size ≤ w.heap.size + 1 + 1; omega) _)⟩

set_option maxRecDepth 100000 in
set_option maxHeartbeats 2000000 in
theorem c24_c01 (r : Rect) (f g k m : Int) (w : World) (h0 : lensOk f g k m = true ∧ (moved r m f = ⟨r.x + m, r.y + f, r.w, r.h⟩ ∧ erV r m f = 0) ∧ (IntKind.i64.wrap (r.w - g) = r.w - g ∧ IntKind.i64.wrap (r.w - g - m) = r.w - g - m ∧ IntKind.i64.wrap (r.h - f) = r.h - f ∧ IntKind.i64.wrap (r.h - f - k) = r.h - f - k) ∧ (m < r.w - g) = True ∧ (k < r.h - f) = False) : Calls Try.prog 24 #[.agg r.arr, .agg #[.int .i64 f, .int .i64 g, .int .i64 k, .int .i64 m]] w fun e w' => e = .returned (.tuple #[.agg (Rect.arr ⟨r.x + m, r.y + f, (r.w - g - m), 0⟩), .int .i64 0]) ∧ Below w.heap.size w w' := by
  obtain ⟨Q0, Q1, Q2, HB⟩ := row_quad w r f g k m ⟨0, 0, 0, 0⟩
  have C2 := Lib.hid (fun W => c22 r m f W)
  have H0 := Lib.hid h0
  clear h0
  generalize moved r m f = mv at *
  generalize erV r m f = em at *
  obtain ⟨x, y, u, v⟩ := r
  unfold Rect.arr at *
  dsimp only at *
  go_enter Try.func24, Try.ntmps24
  go_wp2_with (fail)
  generalize (((w.alloc (.cells #[.int .i64 x, .int .i64 y, .int .i64 u, .int .i64 v] 23)).alloc (.cells #[.int .i64 f, .int .i64 g, .int .i64 k, .int .i64 m] 42)).alloc (.cells #[.int .i64 0, .int .i64 0, .int .i64 0, .int .i64 0] 23)) = w0 at *
  obtain ⟨hn, ⟨rfl, rfl⟩, ⟨ha, hb, hc, hd⟩, he, hf⟩ := H0.out
  have Hl := Lib.hid (lensOk_iff.1 hn)
  clear hn H0
  dsimp only at C2 ha hb hc hd he hf
  have Ha := Lib.hid ha
  have Hb := Lib.hid hb
  have Hc := Lib.hid hc
  have Hd := Lib.hid hd
  have He := Lib.hid he
  have Hf := Lib.hid hf
  clear ha hb hc hd he hf
  go_loop [6] (fun i => i = .int .i64 0 ∨ i = .int .i64 1 ∨ i = .int .i64 2 ∨ i = .int .i64 3 ∨ i = .int .i64 4) (fun i => 4 - (intOf i).toNat)
  case atStart => exact .inl rfl
  case round =>
    rcases hrel with rfl | rfl | rfl | rfl | rfl
    · have q0 : w0.cell? ⟨w.heap.size + 1, 0, none⟩ = some (.int .i64 f) := Q1.out.cells.1
      have t1 : decide (f < 0) = false := decide_eq_false (by have := Hl.out; omega)
      have t2 : decide (1152921504606846975 < f) = false := decide_eq_false (by have := Hl.out; omega)
      go_wp2
      go_round
      case rel => simp
      case measure => simp [intOf]
    · have q1 : w0.cell? ⟨w.heap.size + 1, 1, none⟩ = some (.int .i64 g) := Q1.out.cells.2.1
      have t1 : decide (g < 0) = false := decide_eq_false (by have := Hl.out; omega)
      have t2 : decide (1152921504606846975 < g) = false := decide_eq_false (by have := Hl.out; omega)
      go_wp2
      go_round
      case rel => simp
      case measure => simp [intOf]
    · have q2 : w0.cell? ⟨w.heap.size + 1, 2, none⟩ = some (.int .i64 k) := Q1.out.cells.2.2.1
      have t1 : decide (k < 0) = false := decide_eq_false (by have := Hl.out; omega)
      have t2 : decide (1152921504606846975 < k) = false := decide_eq_false (by have := Hl.out; omega)
      go_wp2
      go_round
      case rel => simp
      case measure => simp [intOf]
    · have q3 : w0.cell? ⟨w.heap.size + 1, 3, none⟩ = some (.int .i64 m) := Q1.out.cells.2.2.2
      have t1 : decide (m < 0) = false := decide_eq_false (by have := Hl.out; omega)
      have t2 : decide (1152921504606846975 < m) = false := decide_eq_false (by have := Hl.out; omega)
      go_wp2
      go_round
      case rel => simp
      case measure => simp [intOf]
    · have p0 : w0.cell? ⟨w.heap.size, 0, none⟩ = some (.int .i64 x) := Q0.out.cells.1
      have p1 : w0.cell? ⟨w.heap.size, 1, none⟩ = some (.int .i64 y) := Q0.out.cells.2.1
      have p2 : w0.cell? ⟨w.heap.size, 2, none⟩ = some (.int .i64 u) := Q0.out.cells.2.2.1
      have p3 : w0.cell? ⟨w.heap.size, 3, none⟩ = some (.int .i64 v) := Q0.out.cells.2.2.2
      have q0 : w0.cell? ⟨w.heap.size + 1, 0, none⟩ = some (.int .i64 f) := Q1.out.cells.1
      have q1 : w0.cell? ⟨w.heap.size + 1, 1, none⟩ = some (.int .i64 g) := Q1.out.cells.2.1
      have q2 : w0.cell? ⟨w.heap.size + 1, 2, none⟩ = some (.int .i64 k) := Q1.out.cells.2.2.1
      have q3 : w0.cell? ⟨w.heap.size + 1, 3, none⟩ = some (.int .i64 m) := Q1.out.cells.2.2.2
      try dsimp only at p0 p1 p2 p3
      go_wp2_with (fail)
      clear p0 p1 p2 p3 q0 q1 q2 q3
      refine (C2.out _).mono ?_
      rintro e w2 ⟨rfl, hb⟩
      have bb := fun o => hb.trans (((Below.refl _ w2).alloc (Nat.le_refl _) o).mono hb.size)
      have S0 := Lib.hid fun o => Q0.out.turn (bb o)
      have S1 := Lib.hid fun o => Q1.out.turn (bb o)
      have S2 := Lib.hid fun o => Q2.out.turn (bb o)
      have HB2 := Lib.hid fun o => HB.out.trans ((bb o).mono HB.out.size)
      have Hz : Hid (w.heap.size + 1 + 1 < w2.heap.size) := Lib.hid (Nat.lt_of_lt_of_le Q2.out.lt hb.size)
      clear hb bb C2 Q0 Q1 Q2 HB
      have ka0 : (w2.alloc (.cells #[.int .i64 (x + m), .int .i64 (y + f), .int .i64 u, .int .i64 v] 23)).cell? ⟨w.heap.size, 2, none⟩ = some (.int .i64 u) := (S0.out _).cells.2.2.1
      have ka1 : (w2.alloc (.cells #[.int .i64 (x + m), .int .i64 (y + f), .int .i64 u, .int .i64 v] 23)).cell? ⟨w.heap.size + 1, 1, none⟩ = some (.int .i64 g) := (S1.out _).cells.2.1
      have ka2 : (w2.alloc (.cells #[.int .i64 (x + m), .int .i64 (y + f), .int .i64 u, .int .i64 v] 23)).cell? ⟨w.heap.size + 1, 3, none⟩ = some (.int .i64 m) := (S1.out _).cells.2.2.2
      have kb0 : (w2.alloc (.cells #[.int .i64 (x + m), .int .i64 (y + f), .int .i64 (u - g - m), .int .i64 v] 23)).cell? ⟨w.heap.size, 3, none⟩ = some (.int .i64 v) := (S0.out _).cells.2.2.2
      have kb1 : (w2.alloc (.cells #[.int .i64 (x + m), .int .i64 (y + f), .int .i64 (u - g - m), .int .i64 v] 23)).cell? ⟨w.heap.size + 1, 0, none⟩ = some (.int .i64 f) := (S1.out _).cells.1
      have kb2 : (w2.alloc (.cells #[.int .i64 (x + m), .int .i64 (y + f), .int .i64 (u - g - m), .int .i64 v] 23)).cell? ⟨w.heap.size + 1, 2, none⟩ = some (.int .i64 k) := (S1.out _).cells.2.2.1
      have kc0 : (w2.alloc (.cells #[.int .i64 (x + m), .int .i64 (y + f), .int .i64 (u - g - m), .int .i64 0] 23)).cell? ⟨w.heap.size + 1 + 1, 0, none⟩ = some (.int .i64 0) := (S2.out _).cells.1
      have kc1 : (w2.alloc (.cells #[.int .i64 (x + m), .int .i64 (y + f), .int .i64 (u - g - m), .int .i64 0] 23)).cell? ⟨w.heap.size + 1 + 1, 1, none⟩ = some (.int .i64 0) := (S2.out _).cells.2.1
      have kc2 : (w2.alloc (.cells #[.int .i64 (x + m), .int .i64 (y + f), .int .i64 (u - g - m), .int .i64 0] 23)).cell? ⟨w.heap.size + 1 + 1, 2, none⟩ = some (.int .i64 0) := (S2.out _).cells.2.2.1
      have kc3 : (w2.alloc (.cells #[.int .i64 (x + m), .int .i64 (y + f), .int .i64 (u - g - m), .int .i64 0] 23)).cell? ⟨w.heap.size + 1 + 1, 3, none⟩ = some (.int .i64 0) := (S2.out _).cells.2.2.2
      have fz := fun i => (S2.out (.cells #[.int .i64 (x + m), .int .i64 (y + f), .int .i64 (u - g - m), .int .i64 0] 23)).frozen i
      have ha := Ha.out
      have hb := Hb.out
      have hc := Hc.out
      have hd := Hd.out
      have he := He.out
      have hf := Hf.out
      go_wp2_with (fail)
      exact ⟨rfl, .tuple #[.agg #[.int .i64 (x + m), .int .i64 (y + f), .int .i64 (u - g - m), .int .i64 0], .int .i64 0], by simp [results, Try.results24, go_sem, *], rfl, (((((HB2.out _).setCell (p := ⟨w.heap.size + 1 + 1, 0, none⟩) (by show w.heap.size ≤ w.heap.size + 1 + 1; omega) _).setCell (p := ⟨w.heap.size + 1 + 1, 1, none⟩) (by show w.heap.size ≤ w.heap.size + 1 + 1; omega) _).setCell (p := ⟨w.heap.size + 1 + 1, 2, none⟩) (by show w.heap.size ≤ w.heap.size + 1 + 1; omega) _).setCell (p := ⟨w.heap.size + 1 + 1, 3, none⟩) (by show w.heap.size ≤ w.heap.size + 1 + 1; omega) _)⟩

set_option maxRecDepth 100000 in
set_option maxHeartbeats 2000000 in
theorem c24_c10 (r : Rect) (f g k m : Int) (w : World) (h0 : lensOk f g k m = true ∧ (moved r m f = ⟨r.x + m, r.y + f, r.w, r.h⟩ ∧ erV r m f = 0) ∧ (IntKind.i64.wrap (r.w - g) = r.w - g ∧ IntKind.i64.wrap (r.w - g - m) = r.w - g - m ∧ IntKind.i64.wrap (r.h - f) = r.h - f ∧ IntKind.i64.wrap (r.h - f - k) = r.h - f - k) ∧ (m < r.w - g) = False ∧ (k < r.h - f) = True) : Calls Try.prog 24 #[.agg r.arr, .agg #[.int .i64 f, .int .i64 g, .int .i64 k, .int .i64 m]] w fun e w' => e = .returned (.tuple #[.agg (Rect.arr ⟨r.x + m, r.y + f, 0, (r.h - f - k)⟩), .int .i64 0]) ∧ Below w.heap.size w w' := by
  obtain ⟨Q0, Q1, Q2, HB⟩ := row_quad w r f g k m ⟨0, 0, 0, 0⟩
  have C2 := Lib.hid (fun W => c22 r m f W)
  have H0 := Lib.hid h0
  clear h0
  generalize moved r m f = mv at *
  generalize erV r m f = em at *
  obtain ⟨x, y, u, v⟩ := r
  unfold Rect.arr at *
  dsimp only at *
  go_enter Try.func24, Try.ntmps24
  go_wp2_with (fail)
  generalize (((w.alloc (.cells #[.int .i64 x, .int .i64 y, .int .i64 u, .int .i64 v] 23)).alloc (.cells #[.int .i64 f, .int .i64 g, .int .i64 k, .int .i64 m] 42)).alloc (.cells #[.int .i64 0, .int .i64 0, .int .i64 0, .int .i64 0] 23)) = w0 at *
  obtain ⟨hn, ⟨rfl, rfl⟩, ⟨ha, hb, hc, hd⟩, he, hf⟩ := H0.out
  have Hl := Lib.hid (lensOk_iff.1 hn)
  clear hn H0
  dsimp only at C2 ha hb hc hd he hf
  have Ha := Lib.hid ha
  have Hb := Lib.hid hb
  have Hc := Lib.hid hc
  have Hd := Lib.hid hd
  have He := Lib.hid he
  have Hf := Lib.hid hf
  clear ha hb hc hd he hf
  go_loop [6] (fun i => i = .int .i64 0 ∨ i = .int .i64 1 ∨ i = .int .i64 2 ∨ i = .int .i64 3 ∨ i = .int .i64 4) (fun i => 4 - (intOf i).toNat)
  case atStart => exact .inl rfl
  case round =>
    rcases hrel with rfl | rfl | rfl | rfl | rfl
    · have q0 : w0.cell? ⟨w.heap.size + 1, 0, none⟩ = some (.int .i64 f) := Q1.out.cells.1
      have t1 : decide (f < 0) = false := decide_eq_false (by have := Hl.out; omega)
      have t2 : decide (1152921504606846975 < f) = false := decide_eq_false (by have := Hl.out; omega)
      go_wp2
      go_round
      case rel => simp
      case measure => simp [intOf]
    · have q1 : w0.cell? ⟨w.heap.size + 1, 1, none⟩ = some (.int .i64 g) := Q1.out.cells.2.1
      have t1 : decide (g < 0) = false := decide_eq_false (by have := Hl.out; omega)
      have t2 : decide (1152921504606846975 < g) = false := decide_eq_false (by have := Hl.out; omega)
      go_wp2
      go_round
      case rel => simp
      case measure => simp [intOf]
    · have q2 : w0.cell? ⟨w.heap.size + 1, 2, none⟩ = some (.int .i64 k) := Q1.out.cells.2.2.1
      have t1 : decide (k < 0) = false := decide_eq_false (by have := Hl.out; omega)
      have t2 : decide (1152921504606846975 < k) = false := decide_eq_false (by have := Hl.out; omega)
      go_wp2
      go_round
      case rel => simp
      case measure => simp [intOf]
    · have q3 : w0.cell? ⟨w.heap.size + 1, 3, none⟩ = some (.int .i64 m) := Q1.out.cells.2.2.2
      have t1 : decide (m < 0) = false := decide_eq_false (by have := Hl.out; omega)
      have t2 : decide (1152921504606846975 < m) = false := decide_eq_false (by have := Hl.out; omega)
      go_wp2
      go_round
      case rel => simp
      case measure => simp [intOf]
    · have p0 : w0.cell? ⟨w.heap.size, 0, none⟩ = some (.int .i64 x) := Q0.out.cells.1
      have p1 : w0.cell? ⟨w.heap.size, 1, none⟩ = some (.int .i64 y) := Q0.out.cells.2.1
      have p2 : w0.cell? ⟨w.heap.size, 2, none⟩ = some (.int .i64 u) := Q0.out.cells.2.2.1
      have p3 : w0.cell? ⟨w.heap.size, 3, none⟩ = some (.int .i64 v) := Q0.out.cells.2.2.2
      have q0 : w0.cell? ⟨w.heap.size + 1, 0, none⟩ = some (.int .i64 f) := Q1.out.cells.1
      have q1 : w0.cell? ⟨w.heap.size + 1, 1, none⟩ = some (.int .i64 g) := Q1.out.cells.2.1
      have q2 : w0.cell? ⟨w.heap.size + 1, 2, none⟩ = some (.int .i64 k) := Q1.out.cells.2.2.1
      have q3 : w0.cell? ⟨w.heap.size + 1, 3, none⟩ = some (.int .i64 m) := Q1.out.cells.2.2.2
      try dsimp only at p0 p1 p2 p3
      go_wp2_with (fail)
      clear p0 p1 p2 p3 q0 q1 q2 q3
      refine (C2.out _).mono ?_
      rintro e w2 ⟨rfl, hb⟩
      have bb := fun o => hb.trans (((Below.refl _ w2).alloc (Nat.le_refl _) o).mono hb.size)
      have S0 := Lib.hid fun o => Q0.out.turn (bb o)
      have S1 := Lib.hid fun o => Q1.out.turn (bb o)
      have S2 := Lib.hid fun o => Q2.out.turn (bb o)
      have HB2 := Lib.hid fun o => HB.out.trans ((bb o).mono HB.out.size)
      have Hz : Hid (w.heap.size + 1 + 1 < w2.heap.size) := Lib.hid (Nat.lt_of_lt_of_le Q2.out.lt hb.size)
      clear hb bb C2 Q0 Q1 Q2 HB
      have ka0 : (w2.alloc (.cells #[.int .i64 (x + m), .int .i64 (y + f), .int .i64 u, .int .i64 v] 23)).cell? ⟨w.heap.size, 2, none⟩ = some (.int .i64 u) := (S0.out _).cells.2.2.1
      have ka1 : (w2.alloc (.cells #[.int .i64 (x + m), .int .i64 (y + f), .int .i64 u, .int .i64 v] 23)).cell? ⟨w.heap.size + 1, 1, none⟩ = some (.int .i64 g) := (S1.out _).cells.2.1
      have ka2 : (w2.alloc (.cells #[.int .i64 (x + m), .int .i64 (y + f), .int .i64 u, .int .i64 v] 23)).cell? ⟨w.heap.size + 1, 3, none⟩ = some (.int .i64 m) := (S1.out _).cells.2.2.2
      have kb0 : (w2.alloc (.cells #[.int .i64 (x + m), .int .i64 (y + f), .int .i64 0, .int .i64 v] 23)).cell? ⟨w.heap.size, 3, none⟩ = some (.int .i64 v) := (S0.out _).cells.2.2.2
      have kb1 : (w2.alloc (.cells #[.int .i64 (x + m), .int .i64 (y + f), .int .i64 0, .int .i64 v] 23)).cell? ⟨w.heap.size + 1, 0, none⟩ = some (.int .i64 f) := (S1.out _).cells.1
      have kb2 : (w2.alloc (.cells #[.int .i64 (x + m), .int .i64 (y + f), .int .i64 0, .int .i64 v] 23)).cell? ⟨w.heap.size + 1, 2, none⟩ = some (.int .i64 k) := (S1.out _).cells.2.2.1
      have kc0 : (w2.alloc (.cells #[.int .i64 (x + m), .int .i64 (y + f), .int .i64 0, .int .i64 (v - f - k)] 23)).cell? ⟨w.heap.size + 1 + 1, 0, none⟩ = some (.int .i64 0) := (S2.out _).cells.1
      have kc1 : (w2.alloc (.cells #[.int .i64 (x + m), .int .i64 (y + f), .int .i64 0, .int .i64 (v - f - k)] 23)).cell? ⟨w.heap.size + 1 + 1, 1, none⟩ = some (.int .i64 0) := (S2.out _).cells.2.1
      have kc2 : (w2.alloc (.cells #[.int .i64 (x + m), .int .i64 (y + f), .int .i64 0, .int .i64 (v - f - k)] 23)).cell? ⟨w.heap.size + 1 + 1, 2, none⟩ = some (.int .i64 0) := (S2.out _).cells.2.2.1
      have kc3 : (w2.alloc (.cells #[.int .i64 (x + m), .int .i64 (y + f), .int .i64 0, .int .i64 (v - f - k)] 23)).cell? ⟨w.heap.size + 1 + 1, 3, none⟩ = some (.int .i64 0) := (S2.out _).cells.2.2.2
      have fz := fun i => (S2.out (.cells #[.int .i64 (x + m), .int .i64 (y + f), .int .i64 0, .int .i64 (v - f - k)] 23)).frozen i
      have ha := Ha.out
      have hb := Hb.out
      have hc := Hc.out
      have hd := Hd.out
      have he := He.out
      have hf := Hf.out
      go_wp2_with (fail)
      exact ⟨rfl, .tuple #[.agg #[.int .i64 (x + m), .int .i64 (y + f), .int .i64 0, .int .i64 (v - f - k)], .int .i64 0], by simp [results, Try.results24, go_sem, *], rfl, (((((HB2.out _).setCell (p := ⟨w.heap.size + 1 + 1, 0, none⟩) (by show w.heap.size ≤ w.heap.size + 1 + 1; omega) _).setCell (p := ⟨w.heap.size + 1 + 1, 1, none⟩) (by show w.heap.size ≤ w.heap.size + 1 + 1; omega) _).setCell (p := ⟨w.heap.size + 1 + 1, 2, none⟩) (by show w.heap.size ≤ w.heap.size + 1 + 1; omega) _).setCell (p := ⟨w.heap.size + 1 + 1, 3, none⟩) (by show w.heap.size ≤ w.heap.size + 1 + 1; omega) _)⟩

set_option maxRecDepth 100000 in
set_option maxHeartbeats 2000000 in
theorem c24_c11 (r : Rect) (f g k m : Int) (w : World) (h0 : lensOk f g k m = true ∧ (moved r m f = ⟨r.x + m, r.y + f, r.w, r.h⟩ ∧ erV r m f = 0) ∧ (IntKind.i64.wrap (r.w - g) = r.w - g ∧ IntKind.i64.wrap (r.w - g - m) = r.w - g - m ∧ IntKind.i64.wrap (r.h - f) = r.h - f ∧ IntKind.i64.wrap (r.h - f - k) = r.h - f - k) ∧ (m < r.w - g) = False ∧ (k < r.h - f) = False) : Calls Try.prog 24 #[.agg r.arr, .agg #[.int .i64 f, .int .i64 g, .int .i64 k, .int .i64 m]] w fun e w' => e = .returned (.tuple #[.agg (Rect.arr ⟨r.x + m, r.y + f, 0, 0⟩), .int .i64 0]) ∧ Below w.heap.size w w' := by
  obtain ⟨Q0, Q1, Q2, HB⟩ := row_quad w r f g k m ⟨0, 0, 0, 0⟩
  have C2 := Lib.hid (fun W => c22 r m f W)
  have H0 := Lib.hid h0
  clear h0
  generalize moved r m f = mv at *
  generalize erV r m f = em at *
  obtain ⟨x, y, u, v⟩ := r
  unfold Rect.arr at *
  dsimp only at *
  go_enter Try.func24, Try.ntmps24
  go_wp2_with (fail)
  generalize (((w.alloc (.cells #[.int .i64 x, .int .i64 y, .int .i64 u, .int .i64 v] 23)).alloc (.cells #[.int .i64 f, .int .i64 g, .int .i64 k, .int .i64 m] 42)).alloc (.cells #[.int .i64 0, .int .i64 0, .int .i64 0, .int .i64 0] 23)) = w0 at *
  obtain ⟨hn, ⟨rfl, rfl⟩, ⟨ha, hb, hc, hd⟩, he, hf⟩ := H0.out
  have Hl := Lib.hid (lensOk_iff.1 hn)
  clear hn H0
  dsimp only at C2 ha hb hc hd he hf
  have Ha := Lib.hid ha
  have Hb := Lib.hid hb
  have Hc := Lib.hid hc
  have Hd := Lib.hid hd
  have He := Lib.hid he
  have Hf := Lib.hid hf
  clear ha hb hc hd he hf
  go_loop [6] (fun i => i = .int .i64 0 ∨ i = .int .i64 1 ∨ i = .int .i64 2 ∨ i = .int .i64 3 ∨ i = .int .i64 4) (fun i => 4 - (intOf i).toNat)
  case atStart => exact .inl rfl
  case round =>
    rcases hrel with rfl | rfl | rfl | rfl | rfl
    · have q0 : w0.cell? ⟨w.heap.size + 1, 0, none⟩ = some (.int .i64 f) := Q1.out.cells.1
      have t1 : decide (f < 0) = false := decide_eq_false (by have := Hl.out; omega)
      have t2 : decide (1152921504606846975 < f) = false := decide_eq_false (by have := Hl.out; omega)
      go_wp2
      go_round
      case rel => simp
      case measure => simp [intOf]
    · have q1 : w0.cell? ⟨w.heap.size + 1, 1, none⟩ = some (.int .i64 g) := Q1.out.cells.2.1
      have t1 : decide (g < 0) = false := decide_eq_false (by have := Hl.out; omega)
      have t2 : decide (1152921504606846975 < g) = false := decide_eq_false (by have := Hl.out; omega)
      go_wp2
      go_round
      case rel => simp
      case measure => simp [intOf]
    · have q2 : w0.cell? ⟨w.heap.size + 1, 2, none⟩ = some (.int .i64 k) := Q1.out.cells.2.2.1
      have t1 : decide (k < 0) = false := decide_eq_false (by have := Hl.out; omega)
      have t2 : decide (1152921504606846975 < k) = false := decide_eq_false (by have := Hl.out; omega)
      go_wp2
      go_round
      case rel => simp
      case measure => simp [intOf]
    · have q3 : w0.cell? ⟨w.heap.size + 1, 3, none⟩ = some (.int .i64 m) := Q1.out.cells.2.2.2
      have t1 : decide (m < 0) = false := decide_eq_false (by have := Hl.out; omega)
      have t2 : decide (1152921504606846975 < m) = false := decide_eq_false (by have := Hl.out; omega)
      go_wp2
      go_round
      case rel => simp
      case measure => simp [intOf]
    · have p0 : w0.cell? ⟨w.heap.size, 0, none⟩ = some (.int .i64 x) := Q0.out.cells.1
      have p1 : w0.cell? ⟨w.heap.size, 1, none⟩ = some (.int .i64 y) := Q0.out.cells.2.1
      have p2 : w0.cell? ⟨w.heap.size, 2, none⟩ = some (.int .i64 u) := Q0.out.cells.2.2.1
      have p3 : w0.cell? ⟨w.heap.size, 3, none⟩ = some (.int .i64 v) := Q0.out.cells.2.2.2
      have q0 : w0.cell? ⟨w.heap.size + 1, 0, none⟩ = some (.int .i64 f) := Q1.out.cells.1
      have q1 : w0.cell? ⟨w.heap.size + 1, 1, none⟩ = some (.int .i64 g) := Q1.out.cells.2.1
      have q2 : w0.cell? ⟨w.heap.size + 1, 2, none⟩ = some (.int .i64 k) := Q1.out.cells.2.2.1
      have q3 : w0.cell? ⟨w.heap.size + 1, 3, none⟩ = some (.int .i64 m) := Q1.out.cells.2.2.2
      try dsimp only at p0 p1 p2 p3
      go_wp2_with (fail)
      clear p0 p1 p2 p3 q0 q1 q2 q3
      refine (C2.out _).mono ?_
      rintro e w2 ⟨rfl, hb⟩
      have bb := fun o => hb.trans (((Below.refl _ w2).alloc (Nat.le_refl _) o).mono hb.size)
      have S0 := Lib.hid fun o => Q0.out.turn (bb o)
      have S1 := Lib.hid fun o => Q1.out.turn (bb o)
      have S2 := Lib.hid fun o => Q2.out.turn (bb o)
      have HB2 := Lib.hid fun o => HB.out.trans ((bb o).mono HB.out.size)
      have Hz : Hid (w.heap.size + 1 + 1 < w2.heap.size) := Lib.hid (Nat.lt_of_lt_of_le Q2.out.lt hb.size)
      clear hb bb C2 Q0 Q1 Q2 HB
      have ka0 : (w2.alloc (.cells #[.int .i64 (x + m), .int .i64 (y + f), .int .i64 u, .int .i64 v] 23)).cell? ⟨w.heap.size, 2, none⟩ = some (.int .i64 u) := (S0.out _).cells.2.2.1
      have ka1 : (w2.alloc (.cells #[.int .i64 (x + m), .int .i64 (y + f), .int .i64 u, .int .i64 v] 23)).cell? ⟨w.heap.size + 1, 1, none⟩ = some (.int .i64 g) := (S1.out _).cells.2.1
      have ka2 : (w2.alloc (.cells #[.int .i64 (x + m), .int .i64 (y + f), .int .i64 u, .int .i64 v] 23)).cell? ⟨w.heap.size + 1, 3, none⟩ = some (.int .i64 m) := (S1.out _).cells.2.2.2
      have kb0 : (w2.alloc (.cells #[.int .i64 (x + m), .int .i64 (y + f), .int .i64 0, .int .i64 v] 23)).cell? ⟨w.heap.size, 3, none⟩ = some (.int .i64 v) := (S0.out _).cells.2.2.2
      have kb1 : (w2.alloc (.cells #[.int .i64 (x + m), .int .i64 (y + f), .int .i64 0, .int .i64 v] 23)).cell? ⟨w.heap.size + 1, 0, none⟩ = some (.int .i64 f) := (S1.out _).cells.1
      have kb2 : (w2.alloc (.cells #[.int .i64 (x + m), .int .i64 (y + f), .int .i64 0, .int .i64 v] 23)).cell? ⟨w.heap.size + 1, 2, none⟩ = some (.int .i64 k) := (S1.out _).cells.2.2.1
      have kc0 : (w2.alloc (.cells #[.int .i64 (x + m), .int .i64 (y + f), .int .i64 0, .int .i64 0] 23)).cell? ⟨w.heap.size + 1 + 1, 0, none⟩ = some (.int .i64 0) := (S2.out _).cells.1
      have kc1 : (w2.alloc (.cells #[.int .i64 (x + m), .int .i64 (y + f), .int .i64 0, .int .i64 0] 23)).cell? ⟨w.heap.size + 1 + 1, 1, none⟩ = some (.int .i64 0) := (S2.out _).cells.2.1
      have kc2 : (w2.alloc (.cells #[.int .i64 (x + m), .int .i64 (y + f), .int .i64 0, .int .i64 0] 23)).cell? ⟨w.heap.size + 1 + 1, 2, none⟩ = some (.int .i64 0) := (S2.out _).cells.2.2.1
      have kc3 : (w2.alloc (.cells #[.int .i64 (x + m), .int .i64 (y + f), .int .i64 0, .int .i64 0] 23)).cell? ⟨w.heap.size + 1 + 1, 3, none⟩ = some (.int .i64 0) := (S2.out _).cells.2.2.2
      have fz := fun i => (S2.out (.cells #[.int .i64 (x + m), .int .i64 (y + f), .int .i64 0, .int .i64 0] 23)).frozen i
      have ha := Ha.out
      have hb := Hb.out
      have hc := Hc.out
      have hd := Hd.out
      have he := He.out
      have hf := Hf.out
      go_wp2_with (fail)
      exact ⟨rfl, .tuple #[.agg #[.int .i64 (x + m), .int .i64 (y + f), .int .i64 0, .int .i64 0], .int .i64 0], by simp [results, Try.results24, go_sem, *], rfl, (((((HB2.out _).setCell (p := ⟨w.heap.size + 1 + 1, 0, none⟩) (by show w.heap.size ≤ w.heap.size + 1 + 1; omega) _).setCell (p := ⟨w.heap.size + 1 + 1, 1, none⟩) (by show w.heap.size ≤ w.heap.size + 1 + 1; omega) _).setCell (p := ⟨w.heap.size + 1 + 1, 2, none⟩) (by show w.heap.size ≤ w.heap.size + 1 + 1; omega) _).setCell (p := ⟨w.heap.size + 1 + 1, 3, none⟩) (by show w.heap.size ≤ w.heap.size + 1 + 1; omega) _)⟩

theorem c24 (r : Rect) (f g k m : Int) (w : World) : Calls Try.prog 24 #[.agg r.arr, .agg #[.int .i64 f, .int .i64 g, .int .i64 k, .int .i64 m]] w fun e w' => e = .returned (.tuple #[.agg (inset r f g k m).arr, .int .i64 (erI r f g k m)]) ∧ Below w.heap.size w w' := by
  unfold inset erI okI
  cases h0 : lensOk f g k m with
  | false => exact c24_a r f g k m w h0
  | true =>
    rw [Bool.true_and]
    cases h1 : okV r m f with
    | false => exact c24_b r f g k m w ⟨h0, by unfold moved; rw [h1]; rfl, by unfold erV; rw [h1]; rfl⟩
    | true =>
      have e1 : moved r m f = ⟨r.x + m, r.y + f, r.w, r.h⟩ ∧ erV r m f = 0 := ⟨by unfold moved; rw [h1]; rfl, by unfold erV; rw [h1]; rfl⟩
      have ll := lensOk_iff.1 h0
      have rr : right r = true := by
        unfold okV at h1
        cases z : right r with
        | true => rfl
        | false => rw [z] at h1; cases h1
      have rb := right_iff.1 rr
      have ew : IntKind.i64.wrap (r.w - g) = r.w - g ∧ IntKind.i64.wrap (r.w - g - m) = r.w - g - m ∧ IntKind.i64.wrap (r.h - f) = r.h - f ∧ IntKind.i64.wrap (r.h - f - k) = r.h - f - k := ⟨IntWalk.i64_in _ (by omega), IntWalk.i64_in _ (by omega), IntWalk.i64_in _ (by omega), IntWalk.i64_in _ (by omega)⟩
      rw [if_pos rfl, if_pos rfl]
      by_cases qa : m < r.w - g <;> by_cases qb : k < r.h - f
      · rw [show max (r.w - g - m) 0 = r.w - g - m by omega, show max (r.h - f - k) 0 = r.h - f - k by omega]
        exact c24_c00 r f g k m w ⟨h0, e1, ew, eq_true qa, eq_true qb⟩
      · rw [show max (r.w - g - m) 0 = r.w - g - m by omega, show max (r.h - f - k) 0 = 0 by omega]
        exact c24_c01 r f g k m w ⟨h0, e1, ew, eq_true qa, eq_false qb⟩
      · rw [show max (r.w - g - m) 0 = 0 by omega, show max (r.h - f - k) 0 = r.h - f - k by omega]
        exact c24_c10 r f g k m w ⟨h0, e1, ew, eq_false qa, eq_true qb⟩
      · rw [show max (r.w - g - m) 0 = 0 by omega, show max (r.h - f - k) 0 = 0 by omega]
        exact c24_c11 r f g k m w ⟨h0, e1, ew, eq_false qa, eq_false qb⟩
end Go.Proofs.Ytnlojbkjhlhogaa
