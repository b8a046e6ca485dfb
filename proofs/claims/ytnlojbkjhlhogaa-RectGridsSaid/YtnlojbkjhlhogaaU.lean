/- The walk of the law RectAlone: a rectangle is tiled by itself, and by nothing just if it has no points. -/
import Derived.Test.YtnlojbkjhlhogaaQ
namespace Go.Proofs.Ytnlojbkjhlhogaa
open Go Go.RowKit IV
set_option linter.unusedVariables false

theorem meet_self {r : Rect} (h : right r = true) (hp : pts r = true) : meet r r = r := by
  unfold pts at hp
  simp only [Bool.and_eq_true, decide_eq_true_eq] at hp
  unfold meet
  rw [if_pos ⟨h, h, by simp only [Int.max_self, Int.min_self]; omega, by simp only [Int.max_self, Int.min_self]; omega⟩]
  simp only [Int.max_self, Int.min_self]
  obtain ⟨x, y, u, v⟩ := r
  simp only [Rect.mk.injEq, true_and]
  exact ⟨by omega, by omega⟩
theorem tl_nil (r : Rect) : Tl r [] ↔ pts r = false := by
  unfold Tl
  have hc : cov r [] r = if pts r = true then [(0, 0)] else [] := by
    show covTo r [r.x] [r.y] 1 = _
    simp only [covTo, covRow, List.nil_append, List.length_singleton, List.getElem?_cons_zero, Option.getD_some]
    have : atR r r.x r.y = pts r := by
      unfold atR pts
      rw [decide_eq_true (show r.x ≤ r.x by omega), decide_eq_true (show r.y ≤ r.y by omega), Bool.true_and, Bool.true_and]
      congr 1 <;> (simp only [decide_eq_decide]; omega)
    simp only [this]
  rw [hc]
  cases pts r with
  | false => simp [pairTo]
  | true => simp [pairTo]
theorem okT_nil (r : Rect) : okT r [] = right r := by unfold okT wrongs; simp
theorem okT_self (r : Rect) : okT r [r] = right r := by unfold okT wrongs; cases h : right r <;> simp [h]
theorem tiles_nil {r : Rect} (h : right r = true) : tiles r [] = !pts r := by
  unfold tiles
  rw [okT_nil, h, Bool.true_and, List.filter_nil]
  cases hp : pts r with
  | false => exact decide_eq_true ((tl_nil r).2 hp)
  | true => exact decide_eq_false fun q => by rw [(tl_nil r).1 q] at hp; cases hp
theorem tiles_self {r : Rect} (h : right r = true) : tiles r [r] = true := by
  unfold tiles
  rw [okT_self, h, Bool.true_and]
  cases hp : pts r with
  | false =>
    rw [List.filter_cons_of_neg (by rw [hp]; simp), List.filter_nil]
    exact decide_eq_true ((tl_nil r).2 hp)
  | true =>
    rw [List.filter_cons_of_pos hp, List.filter_nil]
    refine decide_eq_true ⟨fun a ha => ?_, by simp [pairTo, pairRow], fun p hp => ⟨r, List.mem_singleton.2 rfl, hp⟩⟩
    rw [List.mem_singleton.1 ha]
    exact meet_self h hp
theorem none_iff {r : Rect} (h : right r = true) : (!pts r) = (if r.w = 0 then true else decide (r.h = 0)) := by
  have := right_iff.1 h
  unfold pts
  by_cases hw : r.w = 0
  · rw [if_pos hw, decide_eq_false (show ¬ 0 < r.w by omega)]; rfl
  · rw [if_neg hw, decide_eq_true (show 0 < r.w by omega), Bool.true_and]
    by_cases hh : r.h = 0
    · rw [decide_eq_true hh, decide_eq_false (by omega)]; rfl
    · rw [decide_eq_false hh, decide_eq_true (by omega)]; rfl

theorem k19_nil (r : Rect) (W : World) : Calls Try.prog 19 #[.agg #[.int .i64 r.x, .int .i64 r.y, .int .i64 r.w, .int .i64 r.h], .slice none 0 0] W fun e w' => e = .returned (.tuple #[.bool (tiles r []), .int .i64 (erT r [])]) ∧ Below W.heap.size W w' :=
  c19 r none [] 0 W (rects_nil _ _) (by simp)

set_option maxRecDepth 100000 in
set_option maxHeartbeats 4000000 in
theorem alone_walk (a : Rect) (w : World) : Calls Try.prog 8 #[.agg a.arr] w fun e w' => e = .returned (.bool true) ∧ Below w.heap.size w w' := by
  have Q0 := Lib.hid (RRow.new w a)
  have HB := Lib.hid ((Below.refl _ w).alloc (Nat.le_refl _) (.cells a.arr 23))
  have C1 := Lib.hid (fun w W h h1 h2 => k19_one a a w W h h1 h2)
  have C0 := Lib.hid (fun W => k19_nil a W)
  have C14 := Lib.hid (fun W => c14 a W)
  have F : Hid ((right a = true ∧ tiles a [a] = true ∧ erT a [a] = 0 ∧ tiles a [] = (if a.w = 0 then true else decide (a.h = 0)) ∧ erT a [] = 0) ∨ (right a = false ∧ tiles a [a] = false ∧ erT a [a] = 20 ∧ tiles a [] = false ∧ erT a [] = 20)) := Lib.hid (by
    cases hr : right a with
    | true =>
      refine .inl ⟨rfl, tiles_self hr, by unfold erT; rw [okT_self, hr]; rfl, (tiles_nil hr).trans (none_iff hr), by unfold erT; rw [okT_nil, hr]; rfl⟩
    | false =>
      refine .inr ⟨rfl, by unfold tiles; rw [okT_self, hr]; rfl, by unfold erT; rw [okT_self, hr]; rfl, by unfold tiles; rw [okT_nil, hr]; rfl, by unfold erT; rw [okT_nil, hr]; rfl⟩)
  generalize tiles a [a] = t1 at *
  generalize tiles a [] = t0 at *
  generalize erT a [a] = e1 at *
  generalize erT a [] = e0 at *
  generalize right a = rr at *
  obtain ⟨x, y, u, v⟩ := a
  unfold Rect.arr at *
  dsimp only at *
  go_enter Try.func8, Try.ntmps8
  go_wp2_with (fail)
  generalize (w.alloc (.cells #[.int .i64 x, .int .i64 y, .int .i64 u, .int .i64 v] 23)) = w0 at *
  refine (shown w0).mono ?_
  rintro e w1 ⟨rfl, hb⟩
  have R0 := Lib.hid (Q0.out.turn hb)
  have HB1 := Lib.hid (HB.out.trans (hb.mono HB.out.size))
  clear hb Q0 HB
  have p0 : w1.cell? ⟨w.heap.size, 0, none⟩ = some (.int .i64 x) := R0.out.cells.1
  have p1 : w1.cell? ⟨w.heap.size, 1, none⟩ = some (.int .i64 y) := R0.out.cells.2.1
  have p2 : w1.cell? ⟨w.heap.size, 2, none⟩ = some (.int .i64 u) := R0.out.cells.2.2.1
  have p3 : w1.cell? ⟨w.heap.size, 3, none⟩ = some (.int .i64 v) := R0.out.cells.2.2.2
  go_wp2_with (fail)
  refine (C1.out w1 _ _ rfl rfl).mono ?_
  rintro e w2 ⟨rfl, hb2⟩
  have hbb := ((Below.refl _ w1).alloc (Nat.le_refl _) (.cells #[.int .i64 x, .int .i64 y, .int .i64 u, .int .i64 v] 23)).trans (hb2.mono (by simp))
  have S0 := Lib.hid (R0.out.turn hbb)
  have HB2 := Lib.hid (HB1.out.trans (hbb.mono HB1.out.size))
  clear hb2 hbb R0 HB1 p0 p1 p2 p3
  have p0 : w2.cell? ⟨w.heap.size, 0, none⟩ = some (.int .i64 x) := S0.out.cells.1
  have p1 : w2.cell? ⟨w.heap.size, 1, none⟩ = some (.int .i64 y) := S0.out.cells.2.1
  have p2 : w2.cell? ⟨w.heap.size, 2, none⟩ = some (.int .i64 u) := S0.out.cells.2.2.1
  have p3 : w2.cell? ⟨w.heap.size, 3, none⟩ = some (.int .i64 v) := S0.out.cells.2.2.2
  go_wp2_with (fail)
  refine (C0.out _).mono ?_
  rintro e w3 ⟨rfl, hb2⟩
  have T0 := Lib.hid (S0.out.turn hb2)
  have HB3 := Lib.hid (HB2.out.trans (hb2.mono HB2.out.size))
  clear hb2 S0 HB2 p0 p1 p2 p3
  have p0 : w3.cell? ⟨w.heap.size, 0, none⟩ = some (.int .i64 x) := T0.out.cells.1
  have p1 : w3.cell? ⟨w.heap.size, 1, none⟩ = some (.int .i64 y) := T0.out.cells.2.1
  have p2 : w3.cell? ⟨w.heap.size, 2, none⟩ = some (.int .i64 u) := T0.out.cells.2.2.1
  have p3 : w3.cell? ⟨w.heap.size, 3, none⟩ = some (.int .i64 v) := T0.out.cells.2.2.2
  go_wp2_with (fail)
  refine (C14.out _).mono ?_
  rintro e w4 ⟨rfl, hb2⟩
  have U0 := Lib.hid (T0.out.turn hb2)
  have HB4 := Lib.hid (HB3.out.trans (hb2.mono HB3.out.size))
  clear hb2 T0 HB3 p0 p1 p2 p3 C0 C1 C14
  have p2 : w4.cell? ⟨w.heap.size, 2, none⟩ = some (.int .i64 u) := U0.out.cells.2.2.1
  have p3 : w4.cell? ⟨w.heap.size, 3, none⟩ = some (.int .i64 v) := U0.out.cells.2.2.2
  rcases F.out with ⟨rfl, rfl, rfl, h, rfl⟩ | ⟨rfl, rfl, rfl, rfl, rfl⟩
  · by_cases h1 : u = 0
    · rw [if_pos h1] at h
      subst h1
      subst h
      clear F
      go_wp2_with (fail)
      go_ret
      exact ⟨rfl, HB4.out⟩
    · rw [if_neg h1] at h
      have h1 : (u == 0) = false := by simpa using h1
      by_cases h2 : v = 0
      · rw [decide_eq_true h2] at h
        subst h2
        subst h
        clear F
        go_wp2_with (fail)
        go_ret
        exact ⟨rfl, HB4.out⟩
      · rw [decide_eq_false h2] at h
        have h2 : (v == 0) = false := by simpa using h2
        subst h
        clear F
        go_wp2_with (fail)
        go_ret
        exact ⟨rfl, HB4.out⟩
  · clear F
    go_wp2_with (fail)
    go_ret
    exact ⟨rfl, HB4.out⟩
end Go.Proofs.Ytnlojbkjhlhogaa
