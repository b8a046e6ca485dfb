/- Contracts of rect.spans, of a span's meet and cover, of rect.rect, and of the reference's Right and none. -/
import Derived.Test.YtnlojbkjhlhogaaB
import Derived.Test.YtnlojbkjhlhogaaOrd
namespace Go.Proofs.Ytnlojbkjhlhogaa
open Go Go.RowKit
set_option linter.unusedVariables false

/-- a span's meet -/
theorem c27 (a b c d : Int) (w : World) : Calls Try.prog 27 #[.agg #[.int .i64 a, .int .i64 b], .agg #[.int .i64 c, .int .i64 d]] w fun e w' => e = .returned (.agg #[.int .i64 (max a c), .int .i64 (min b d)]) ∧ Below w.heap.size w w' := by
  have HB : Hid (Below w.heap.size w (((w.alloc (Obj.cells #[Value.int IntKind.i64 a, Value.int IntKind.i64 b] 49)).alloc (Obj.cells #[Value.int IntKind.i64 c, Value.int IntKind.i64 d] 49)).alloc (Obj.cells #[Value.int IntKind.i64 (max a c), Value.int IntKind.i64 (min b d)] 49))) :=
    Lib.hid ((((Below.refl _ w).alloc (Nat.le_refl _) _).alloc (by simp) _).alloc (by simp; omega) _)
  by_cases h1 : a < c
  · by_cases h2 : d < b
    · have e1 : max a c = c := by omega
      have e2 : min b d = d := by omega
      rw [e1, e2] at HB ⊢
      have t1 : (a < c) = True := by simp [h1]
      have t2 : (d < b) = True := by simp [h2]
      clear h1 h2 e1 e2
      go_enter Try.func27, Try.ntmps27
      go_wp2
      exact ⟨rfl, .agg #[.int .i64 c, .int .i64 d], by simp [results, Try.results27, go_sem, *], rfl, HB.out⟩
    · have e1 : max a c = c := by omega
      have e2 : min b d = b := by omega
      rw [e1, e2] at HB ⊢
      have t1 : (a < c) = True := by simp [h1]
      have t2 : (d < b) = False := by simp [h2]
      clear h1 h2 e1 e2
      go_enter Try.func27, Try.ntmps27
      go_wp2
      exact ⟨rfl, .agg #[.int .i64 c, .int .i64 b], by simp [results, Try.results27, go_sem, *], rfl, HB.out⟩
  · by_cases h2 : d < b
    · have e1 : max a c = a := by omega
      have e2 : min b d = d := by omega
      rw [e1, e2] at HB ⊢
      have t1 : (a < c) = False := by simp [h1]
      have t2 : (d < b) = True := by simp [h2]
      clear h1 h2 e1 e2
      go_enter Try.func27, Try.ntmps27
      go_wp2
      exact ⟨rfl, .agg #[.int .i64 a, .int .i64 d], by simp [results, Try.results27, go_sem, *], rfl, HB.out⟩
    · have e1 : max a c = a := by omega
      have e2 : min b d = b := by omega
      rw [e1, e2] at HB ⊢
      have t1 : (a < c) = False := by simp [h1]
      have t2 : (d < b) = False := by simp [h2]
      clear h1 h2 e1 e2
      go_enter Try.func27, Try.ntmps27
      go_wp2
      exact ⟨rfl, .agg #[.int .i64 a, .int .i64 b], by simp [results, Try.results27, go_sem, *], rfl, HB.out⟩

/-- a span's cover -/
theorem c34 (a b c d : Int) (w : World) : Calls Try.prog 34 #[.agg #[.int .i64 a, .int .i64 b], .agg #[.int .i64 c, .int .i64 d]] w fun e w' => e = .returned (.agg #[.int .i64 (min a c), .int .i64 (max b d)]) ∧ Below w.heap.size w w' := by
  have HB : Hid (Below w.heap.size w (((w.alloc (Obj.cells #[Value.int IntKind.i64 a, Value.int IntKind.i64 b] 49)).alloc (Obj.cells #[Value.int IntKind.i64 c, Value.int IntKind.i64 d] 49)).alloc (Obj.cells #[Value.int IntKind.i64 (min a c), Value.int IntKind.i64 (max b d)] 49))) :=
    Lib.hid ((((Below.refl _ w).alloc (Nat.le_refl _) _).alloc (by simp) _).alloc (by simp; omega) _)
  by_cases h1 : c < a
  · by_cases h2 : b < d
    · have e1 : min a c = c := by omega
      have e2 : max b d = d := by omega
      rw [e1, e2] at HB ⊢
      have t1 : (c < a) = True := by simp [h1]
      have t2 : (b < d) = True := by simp [h2]
      clear h1 h2 e1 e2
      go_enter Try.func34, Try.ntmps34
      go_wp2
      exact ⟨rfl, .agg #[.int .i64 c, .int .i64 d], by simp [results, Try.results34, go_sem, *], rfl, HB.out⟩
    · have e1 : min a c = c := by omega
      have e2 : max b d = b := by omega
      rw [e1, e2] at HB ⊢
      have t1 : (c < a) = True := by simp [h1]
      have t2 : (b < d) = False := by simp [h2]
      clear h1 h2 e1 e2
      go_enter Try.func34, Try.ntmps34
      go_wp2
      exact ⟨rfl, .agg #[.int .i64 c, .int .i64 b], by simp [results, Try.results34, go_sem, *], rfl, HB.out⟩
  · by_cases h2 : b < d
    · have e1 : min a c = a := by omega
      have e2 : max b d = d := by omega
      rw [e1, e2] at HB ⊢
      have t1 : (c < a) = False := by simp [h1]
      have t2 : (b < d) = True := by simp [h2]
      clear h1 h2 e1 e2
      go_enter Try.func34, Try.ntmps34
      go_wp2
      exact ⟨rfl, .agg #[.int .i64 a, .int .i64 d], by simp [results, Try.results34, go_sem, *], rfl, HB.out⟩
    · have e1 : min a c = a := by omega
      have e2 : max b d = b := by omega
      rw [e1, e2] at HB ⊢
      have t1 : (c < a) = False := by simp [h1]
      have t2 : (b < d) = False := by simp [h2]
      clear h1 h2 e1 e2
      go_enter Try.func34, Try.ntmps34
      go_wp2
      exact ⟨rfl, .agg #[.int .i64 a, .int .i64 b], by simp [results, Try.results34, go_sem, *], rfl, HB.out⟩

/-- rect.rect, of spans whose lengths are whole numbers of the machine's -/
theorem c28 (a b c d : Int) (w : World) (h1 : IntKind.i64.wrap (b - a) = b - a) (h2 : IntKind.i64.wrap (d - c) = d - c) : Calls Try.prog 28 #[.agg #[.int .i64 a, .int .i64 b], .agg #[.int .i64 c, .int .i64 d]] w fun e w' => e = .returned (.agg (Rect.arr ⟨a, c, b - a, d - c⟩)) ∧ Below w.heap.size w w' := by
  have HB : Hid (Below w.heap.size w (((w.alloc (Obj.cells #[Value.int IntKind.i64 a, Value.int IntKind.i64 b] 49)).alloc (Obj.cells #[Value.int IntKind.i64 c, Value.int IntKind.i64 d] 49)).alloc (Obj.cells #[.int .i64 a, .int .i64 c, .int .i64 (b - a), .int .i64 (d - c)] 23))) :=
    Lib.hid ((((Below.refl _ w).alloc (Nat.le_refl _) _).alloc (by simp) _).alloc (by simp; omega) _)
  unfold Rect.arr
  dsimp only
  go_enter Try.func28, Try.ntmps28
  go_wp2
  exact ⟨rfl, .agg #[.int .i64 a, .int .i64 c, .int .i64 (b - a), .int .i64 (d - c)], by simp [results, Try.results28, go_sem, *], rfl, HB.out⟩

/-- the reference's none -/
theorem c35 (r : Rect) (w : World) : Calls Try.prog 35 #[.agg r.arr] w fun e w' => e = .returned (.bool (decide (r.w = 0) || decide (r.h = 0))) ∧ Below w.heap.size w w' := by
  obtain ⟨x, y, u, v⟩ := r
  unfold Rect.arr
  dsimp only
  by_cases h1 : u = 0
  · have t1 : (u == 0) = true := by simp [h1]
    have t3 : decide (u = 0) = true := by simp [h1]
    have T3 := Lib.hid t3
    clear h1 t3
    go_enter Try.func35, Try.ntmps35
    go_wp2
    go_ret
    rw [T3.out]
    exact ⟨rfl, (Below.refl _ _).alloc (Nat.le_refl _) _⟩
  · have t1 : (u == 0) = false := by simp [h1]
    have T3 : Hid (decide (u = 0) = false) := Lib.hid (by simp [h1])
    clear h1
    by_cases h2 : v = 0
    · have t2 : (v == 0) = true := by simp [h2]
      have T4 : Hid (decide (v = 0) = true) := Lib.hid (by simp [h2])
      clear h2
      go_enter Try.func35, Try.ntmps35
      go_wp2
      go_ret
      rw [T3.out, T4.out]
      exact ⟨rfl, (Below.refl _ _).alloc (Nat.le_refl _) _⟩
    · have t2 : (v == 0) = false := by simp [h2]
      have T4 : Hid (decide (v = 0) = false) := Lib.hid (by simp [h2])
      clear h2
      go_enter Try.func35, Try.ntmps35
      go_wp2
      go_ret
      rw [T3.out, T4.out]
      exact ⟨rfl, (Below.refl _ _).alloc (Nat.le_refl _) _⟩

set_option maxHeartbeats 2000000 in
/-- the reference's Right -/
theorem c15 (r : Rect) (w : World) : Calls Try.prog 15 #[.agg r.arr] w fun e w' => e = .returned (.bool (right r)) ∧ Below w.heap.size w w' := by
  obtain ⟨x, y, u, v⟩ := r
  have hR := right_iff (r := ⟨x, y, u, v⟩)
  unfold Rect.arr
  dsimp only at hR ⊢
  generalize right ⟨x, y, u, v⟩ = R at *
  by_cases h0 : -1152921504606846976 ≤ x
  case neg =>
    have HR : Hid (R = false) := Lib.hid (by cases R with | false => rfl | true => exact absurd (hR.1 rfl) (by omega))
    have t0 : decide (-1152921504606846976 ≤ x) = false := decide_eq_false h0
    clear hR h0
    go_enter Try.func15, Try.ntmps15
    go_wp2
    go_ret
    rw [HR.out]
    exact ⟨rfl, (Below.refl _ _).alloc (Nat.le_refl _) _⟩
  by_cases h1 : x ≤ 1152921504606846975
  case neg =>
    have HR : Hid (R = false) := Lib.hid (by cases R with | false => rfl | true => exact absurd (hR.1 rfl) (by omega))
    have t0 : decide (-1152921504606846976 ≤ x) = true := decide_eq_true h0
    have t1 : decide (x ≤ 1152921504606846975) = false := decide_eq_false h1
    clear hR h0 h1
    go_enter Try.func15, Try.ntmps15
    go_wp2
    go_ret
    rw [HR.out]
    exact ⟨rfl, (Below.refl _ _).alloc (Nat.le_refl _) _⟩
  by_cases h2 : -1152921504606846976 ≤ y
  case neg =>
    have HR : Hid (R = false) := Lib.hid (by cases R with | false => rfl | true => exact absurd (hR.1 rfl) (by omega))
    have t0 : decide (-1152921504606846976 ≤ x) = true := decide_eq_true h0
    have t1 : decide (x ≤ 1152921504606846975) = true := decide_eq_true h1
    have t2 : decide (-1152921504606846976 ≤ y) = false := decide_eq_false h2
    clear hR h0 h1 h2
    go_enter Try.func15, Try.ntmps15
    go_wp2
    go_ret
    rw [HR.out]
    exact ⟨rfl, (Below.refl _ _).alloc (Nat.le_refl _) _⟩
  by_cases h3 : y ≤ 1152921504606846975
  case neg =>
    have HR : Hid (R = false) := Lib.hid (by cases R with | false => rfl | true => exact absurd (hR.1 rfl) (by omega))
    have t0 : decide (-1152921504606846976 ≤ x) = true := decide_eq_true h0
    have t1 : decide (x ≤ 1152921504606846975) = true := decide_eq_true h1
    have t2 : decide (-1152921504606846976 ≤ y) = true := decide_eq_true h2
    have t3 : decide (y ≤ 1152921504606846975) = false := decide_eq_false h3
    clear hR h0 h1 h2 h3
    go_enter Try.func15, Try.ntmps15
    go_wp2
    go_ret
    rw [HR.out]
    exact ⟨rfl, (Below.refl _ _).alloc (Nat.le_refl _) _⟩
  by_cases h4 : 0 ≤ u
  case neg =>
    have HR : Hid (R = false) := Lib.hid (by cases R with | false => rfl | true => exact absurd (hR.1 rfl) (by omega))
    have t0 : decide (-1152921504606846976 ≤ x) = true := decide_eq_true h0
    have t1 : decide (x ≤ 1152921504606846975) = true := decide_eq_true h1
    have t2 : decide (-1152921504606846976 ≤ y) = true := decide_eq_true h2
    have t3 : decide (y ≤ 1152921504606846975) = true := decide_eq_true h3
    have t4 : decide (0 ≤ u) = false := decide_eq_false h4
    clear hR h0 h1 h2 h3 h4
    go_enter Try.func15, Try.ntmps15
    go_wp2
    go_ret
    rw [HR.out]
    exact ⟨rfl, (Below.refl _ _).alloc (Nat.le_refl _) _⟩
  by_cases h5 : u ≤ 1152921504606846975
  case neg =>
    have HR : Hid (R = false) := Lib.hid (by cases R with | false => rfl | true => exact absurd (hR.1 rfl) (by omega))
    have t0 : decide (-1152921504606846976 ≤ x) = true := decide_eq_true h0
    have t1 : decide (x ≤ 1152921504606846975) = true := decide_eq_true h1
    have t2 : decide (-1152921504606846976 ≤ y) = true := decide_eq_true h2
    have t3 : decide (y ≤ 1152921504606846975) = true := decide_eq_true h3
    have t4 : decide (0 ≤ u) = true := decide_eq_true h4
    have t5 : decide (u ≤ 1152921504606846975) = false := decide_eq_false h5
    clear hR h0 h1 h2 h3 h4 h5
    go_enter Try.func15, Try.ntmps15
    go_wp2
    go_ret
    rw [HR.out]
    exact ⟨rfl, (Below.refl _ _).alloc (Nat.le_refl _) _⟩
  by_cases h6 : 0 ≤ v
  case neg =>
    have HR : Hid (R = false) := Lib.hid (by cases R with | false => rfl | true => exact absurd (hR.1 rfl) (by omega))
    have t0 : decide (-1152921504606846976 ≤ x) = true := decide_eq_true h0
    have t1 : decide (x ≤ 1152921504606846975) = true := decide_eq_true h1
    have t2 : decide (-1152921504606846976 ≤ y) = true := decide_eq_true h2
    have t3 : decide (y ≤ 1152921504606846975) = true := decide_eq_true h3
    have t4 : decide (0 ≤ u) = true := decide_eq_true h4
    have t5 : decide (u ≤ 1152921504606846975) = true := decide_eq_true h5
    have t6 : decide (0 ≤ v) = false := decide_eq_false h6
    clear hR h0 h1 h2 h3 h4 h5 h6
    go_enter Try.func15, Try.ntmps15
    go_wp2
    go_ret
    rw [HR.out]
    exact ⟨rfl, (Below.refl _ _).alloc (Nat.le_refl _) _⟩
  by_cases h7 : v ≤ 1152921504606846975
  case neg =>
    have HR : Hid (R = false) := Lib.hid (by cases R with | false => rfl | true => exact absurd (hR.1 rfl) (by omega))
    have t0 : decide (-1152921504606846976 ≤ x) = true := decide_eq_true h0
    have t1 : decide (x ≤ 1152921504606846975) = true := decide_eq_true h1
    have t2 : decide (-1152921504606846976 ≤ y) = true := decide_eq_true h2
    have t3 : decide (y ≤ 1152921504606846975) = true := decide_eq_true h3
    have t4 : decide (0 ≤ u) = true := decide_eq_true h4
    have t5 : decide (u ≤ 1152921504606846975) = true := decide_eq_true h5
    have t6 : decide (0 ≤ v) = true := decide_eq_true h6
    have t7 : decide (v ≤ 1152921504606846975) = false := decide_eq_false h7
    clear hR h0 h1 h2 h3 h4 h5 h6 h7
    go_enter Try.func15, Try.ntmps15
    go_wp2
    go_ret
    rw [HR.out]
    exact ⟨rfl, (Below.refl _ _).alloc (Nat.le_refl _) _⟩
  have HR : Hid (R = true) := Lib.hid (hR.2 (by omega))
  have t0 : decide (-1152921504606846976 ≤ x) = true := decide_eq_true h0
  have t1 : decide (x ≤ 1152921504606846975) = true := decide_eq_true h1
  have t2 : decide (-1152921504606846976 ≤ y) = true := decide_eq_true h2
  have t3 : decide (y ≤ 1152921504606846975) = true := decide_eq_true h3
  have t4 : decide (0 ≤ u) = true := decide_eq_true h4
  have t5 : decide (u ≤ 1152921504606846975) = true := decide_eq_true h5
  have t6 : decide (0 ≤ v) = true := decide_eq_true h6
  have t7 : decide (v ≤ 1152921504606846975) = true := decide_eq_true h7
  clear hR h0 h1 h2 h3 h4 h5 h6 h7
  go_enter Try.func15, Try.ntmps15
  go_wp2
  go_ret
  rw [HR.out]
  exact ⟨rfl, (Below.refl _ _).alloc (Nat.le_refl _) _⟩

end Go.Proofs.Ytnlojbkjhlhogaa
