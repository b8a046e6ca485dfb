/- Contracts of the reference's Meet, at and has. -/
import Derived.Test.YtnlojbkjhlhogaaE
namespace Go.Proofs.Ytnlojbkjhlhogaa
open Go Go.RowKit IV
set_option linter.unusedVariables false

set_option maxRecDepth 100000 in
set_option maxHeartbeats 4000000 in
theorem c13 (a b : Rect) (w : World) : Calls Try.prog 13 #[.agg a.arr, .agg b.arr] w fun e w' => e = .returned (.tuple #[.agg (meet a b).arr, .int .i64 (erM a b)]) ∧ Below w.heap.size w w' := by
  obtain ⟨q0, q1, q2, hB, hsz⟩ := three_rows w a b ⟨0, 0, 0, 0⟩
  have CA := Lib.hid (c15 a)
  have CB := Lib.hid (c15 b)
  obtain ⟨x, y, u, v⟩ := a
  obtain ⟨x', y', u', v'⟩ := b
  have HM : Hid (right ⟨x, y, u, v⟩ = true ∧ right ⟨x', y', u', v'⟩ = true → meet ⟨x, y, u, v⟩ ⟨x', y', u', v'⟩ = if max x x' < min (x + u) (x' + u') ∧ max y y' < min (y + v) (y' + v') then ⟨max x x', max y y', min (x + u) (x' + u') - max x x', min (y + v) (y' + v') - max y y'⟩ else ⟨0, 0, 0, 0⟩) := Lib.hid fun h => by
    unfold meet; simp [h]
  have HN : Hid (¬ (right ⟨x, y, u, v⟩ = true ∧ right ⟨x', y', u', v'⟩ = true) → meet ⟨x, y, u, v⟩ ⟨x', y', u', v'⟩ = ⟨0, 0, 0, 0⟩) := Lib.hid fun h => by
    unfold meet; rw [if_neg (fun h' => h ⟨h'.1, h'.2.1⟩)]
  have HE : Hid (erM ⟨x, y, u, v⟩ ⟨x', y', u', v'⟩ = if right ⟨x, y, u, v⟩ = true ∧ right ⟨x', y', u', v'⟩ = true then 0 else 20) := Lib.hid rfl
  have HA := Lib.hid (right_iff (r := ⟨x, y, u, v⟩))
  have HA' := Lib.hid (right_iff (r := ⟨x', y', u', v'⟩))
  have Q0 := Lib.hid q0
  have Q1 := Lib.hid q1
  have Q2 := Lib.hid q2
  have HB := Lib.hid hB
  clear q0 q1 q2 hB hsz
  generalize right ⟨x, y, u, v⟩ = p at *
  generalize right ⟨x', y', u', v'⟩ = p' at *
  generalize meet ⟨x, y, u, v⟩ ⟨x', y', u', v'⟩ = M at *
  generalize erM ⟨x, y, u, v⟩ ⟨x', y', u', v'⟩ = E at *
  unfold Rect.arr at *
  dsimp only at *
  go_enter Try.func13, Try.ntmps13
  go_wp2_with (fail)
  generalize ((w.alloc (.cells #[.int .i64 x, .int .i64 y, .int .i64 u, .int .i64 v] 23)).alloc (.cells #[.int .i64 x', .int .i64 y', .int .i64 u', .int .i64 v'] 23)).alloc (.cells #[.int .i64 0, .int .i64 0, .int .i64 0, .int .i64 0] 23) = w0 at *
  refine (CA.out w0).mono ?_
  rintro e w1 ⟨rfl, hb1⟩
  have R0 : Hid (RRow w1 w.heap.size ⟨x, y, u, v⟩) := Lib.hid (Q0.out.turn hb1)
  have R1 : Hid (RRow w1 (w.heap.size + 1) ⟨x', y', u', v'⟩) := Lib.hid (Q1.out.turn hb1)
  have R2 : Hid (RRow w1 (w.heap.size + 1 + 1) ⟨0, 0, 0, 0⟩) := Lib.hid (Q2.out.turn hb1)
  have HB1 := Lib.hid (HB.out.trans (hb1.mono HB.out.size))
  clear hb1 Q0 Q1 Q2 HB CA
  have a0 : w1.cell? ⟨w.heap.size + 1, 0, none⟩ = some (.int .i64 x') := R1.out.cells.1
  have a1 : w1.cell? ⟨w.heap.size + 1, 1, none⟩ = some (.int .i64 y') := R1.out.cells.2.1
  have a2 : w1.cell? ⟨w.heap.size + 1, 2, none⟩ = some (.int .i64 u') := R1.out.cells.2.2.1
  have a3 : w1.cell? ⟨w.heap.size + 1, 3, none⟩ = some (.int .i64 v') := R1.out.cells.2.2.2
  go_wp2_with (fail)
  refine (CB.out w1).mono ?_
  rintro e w2 ⟨rfl, hb2⟩
  clear a0 a1 a2 a3
  have S0 : Hid (RRow w2 w.heap.size ⟨x, y, u, v⟩) := Lib.hid (R0.out.turn hb2)
  have S1 : Hid (RRow w2 (w.heap.size + 1) ⟨x', y', u', v'⟩) := Lib.hid (R1.out.turn hb2)
  have S2 : Hid (RRow w2 (w.heap.size + 1 + 1) ⟨0, 0, 0, 0⟩) := Lib.hid (R2.out.turn hb2)
  have HB2 := Lib.hid (HB1.out.trans (hb2.mono HB1.out.size))
  clear hb2 R0 R1 R2 HB1 CB
  have z0 : w2.cell? ⟨w.heap.size + 1 + 1, 0, none⟩ = some (.int .i64 0) := S2.out.cells.1
  have z1 : w2.cell? ⟨w.heap.size + 1 + 1, 1, none⟩ = some (.int .i64 0) := S2.out.cells.2.1
  have z2 : w2.cell? ⟨w.heap.size + 1 + 1, 2, none⟩ = some (.int .i64 0) := S2.out.cells.2.2.1
  have z3 : w2.cell? ⟨w.heap.size + 1 + 1, 3, none⟩ = some (.int .i64 0) := S2.out.cells.2.2.2
  have f1 := S2.out.frozen
  by_cases hpp : p = true ∧ p' = true
  case neg =>
    have hM := HN.out hpp
    have hE := HE.out
    rw [if_neg hpp] at hE
    subst hM
    subst hE
    clear HA HA' HM HN HE S0 S1
    cases p with
    | false =>
      clear hpp
      go_wp2_with (fail)
      exact ⟨rfl, .tuple #[.agg #[.int .i64 0, .int .i64 0, .int .i64 0, .int .i64 0], .int .i64 20], by simp [results, Try.results13, go_sem, *], rfl, (((HB2.out.setCell (by simp; omega) _).setCell (by simp; omega) _).setCell (by simp; omega) _).setCell (by simp; omega) _⟩
    | true =>
      obtain rfl : p' = false := by cases p' <;> simp at hpp ⊢
      clear hpp
      go_wp2_with (fail)
      exact ⟨rfl, .tuple #[.agg #[.int .i64 0, .int .i64 0, .int .i64 0, .int .i64 0], .int .i64 20], by simp [results, Try.results13, go_sem, *], rfl, (((HB2.out.setCell (by simp; omega) _).setCell (by simp; omega) _).setCell (by simp; omega) _).setCell (by simp; omega) _⟩
  case pos =>
    have hm := HM.out hpp
    have hE := HE.out
    rw [if_pos hpp] at hE
    have hl := HA.out.1 hpp.1
    have hl' := HA'.out.1 hpp.2
    obtain ⟨rfl, rfl⟩ := hpp
    subst hE
    have e1 : (if x < x' then x' else x) = max x x' := by omega
    have e2 : (if y < y' then y' else y) = max y y' := by omega
    have e3 : (if x' + u' < x + u then x' + u' else x + u) = min (x + u) (x' + u') := by omega
    have e4 : (if y' + v' < y + v then y' + v' else y + v) = min (y + v) (y' + v') := by omega
    have x1 : IntKind.i64.wrap (min (x + u) (x' + u') - max x x') = min (x + u) (x' + u') - max x x' := IntWalk.i64_in _ (by omega)
    have x2 : IntKind.i64.wrap (min (y + v) (y' + v') - max y y') = min (y + v) (y' + v') - max y y' := IntWalk.i64_in _ (by omega)
    have x3 := IntWalk.i64_in (x + u) (by omega)
    have x4 := IntWalk.i64_in (x' + u') (by omega)
    have x5 := IntWalk.i64_in (y + v) (by omega)
    have x6 := IntWalk.i64_in (y' + v') (by omega)
    have a0 : w2.cell? ⟨w.heap.size, 0, none⟩ = some (.int .i64 x) := S0.out.cells.1
    have a1 : w2.cell? ⟨w.heap.size, 1, none⟩ = some (.int .i64 y) := S0.out.cells.2.1
    have a2 : w2.cell? ⟨w.heap.size, 2, none⟩ = some (.int .i64 u) := S0.out.cells.2.2.1
    have a3 : w2.cell? ⟨w.heap.size, 3, none⟩ = some (.int .i64 v) := S0.out.cells.2.2.2
    have b0 : w2.cell? ⟨w.heap.size + 1, 0, none⟩ = some (.int .i64 x') := S1.out.cells.1
    have b1 : w2.cell? ⟨w.heap.size + 1, 1, none⟩ = some (.int .i64 y') := S1.out.cells.2.1
    have b2 : w2.cell? ⟨w.heap.size + 1, 2, none⟩ = some (.int .i64 u') := S1.out.cells.2.2.1
    have b3 : w2.cell? ⟨w.heap.size + 1, 3, none⟩ = some (.int .i64 v') := S1.out.cells.2.2.2
    clear HA HA' HM HN HE hl hl' S0 S1
    by_cases k1 : min (x + u) (x' + u') - max x x' ≤ 0
    · rw [if_neg (by omega)] at hm
      subst hm
      have t1 : decide (min (x + u) (x' + u') - max x x' ≤ 0) = true := decide_eq_true k1
      clear k1
      go_wp2_with (fail)
      exact ⟨rfl, .tuple #[.agg #[.int .i64 0, .int .i64 0, .int .i64 0, .int .i64 0], .int .i64 0], by simp [results, Try.results13, go_sem, *], rfl, (((HB2.out.setCell (by simp; omega) _).setCell (by simp; omega) _).setCell (by simp; omega) _).setCell (by simp; omega) _⟩
    · by_cases k2 : min (y + v) (y' + v') - max y y' ≤ 0
      · rw [if_neg (by omega)] at hm
        subst hm
        have t1 : decide (min (x + u) (x' + u') - max x x' ≤ 0) = false := decide_eq_false k1
        have t2 : decide (min (y + v) (y' + v') - max y y' ≤ 0) = true := decide_eq_true k2
        clear k1 k2
        go_wp2_with (fail)
        exact ⟨rfl, .tuple #[.agg #[.int .i64 0, .int .i64 0, .int .i64 0, .int .i64 0], .int .i64 0], by simp [results, Try.results13, go_sem, *], rfl, (((HB2.out.setCell (by simp; omega) _).setCell (by simp; omega) _).setCell (by simp; omega) _).setCell (by simp; omega) _⟩
      · rw [if_pos (by omega)] at hm
        subst hm
        have t1 : decide (min (x + u) (x' + u') - max x x' ≤ 0) = false := decide_eq_false k1
        have t2 : decide (min (y + v) (y' + v') - max y y' ≤ 0) = false := decide_eq_false k2
        clear k1 k2
        go_wp2_with (fail)
        exact ⟨rfl, .tuple #[.agg #[.int .i64 (max x x'), .int .i64 (max y y'), .int .i64 (min (x + u) (x' + u') - max x x'), .int .i64 (min (y + v) (y' + v') - max y y')], .int .i64 0], by simp [results, Try.results13, go_sem, *], rfl, (((HB2.out.setCell (by simp; omega) _).setCell (by simp; omega) _).setCell (by simp; omega) _).setCell (by simp; omega) _⟩

end Go.Proofs.Ytnlojbkjhlhogaa
