/- Contract of rect.Meet. -/
import Derived.Test.YtnlojbkjhlhogaaD
namespace Go.Proofs.Ytnlojbkjhlhogaa
open Go Go.RowKit IV
set_option linter.unusedVariables false

theorem rects_two (w : World) (a b : Rect) (t : TypeId) : Rects (w.alloc (.cells #[.int .i64 a.x, .int .i64 a.y, .int .i64 a.w, .int .i64 a.h, .int .i64 b.x, .int .i64 b.y, .int .i64 b.w, .int .i64 b.h] t)) (some ⟨w.heap.size, 0, none⟩) [a, b] := fun j hj => by
  refine ⟨w.heap.size, 0, rfl, ?_⟩
  have c : ∀ i, (w.alloc (.cells #[.int .i64 a.x, .int .i64 a.y, .int .i64 a.w, .int .i64 a.h, .int .i64 b.x, .int .i64 b.y, .int .i64 b.w, .int .i64 b.h] t)).cell? ⟨w.heap.size, i, none⟩ = (#[.int .i64 a.x, .int .i64 a.y, .int .i64 a.w, .int .i64 a.h, .int .i64 b.x, .int .i64 b.y, .int .i64 b.w, .int .i64 b.h] : Array Value)[i]? := fun i => by
    unfold World.cell?; rw [heap_alloc_new]; rfl
  match j, hj with
  | 0, _ => exact ⟨c 0, c 1, c 2, c 3⟩
  | 1, _ => exact ⟨c 4, c 5, c 6, c 7⟩
/-- as it is called: behind a slice of two that is new -/
theorem k25 (a b : Rect) (w W : World) (h : Nat) (hh : w.heap.size = h) (hW : W = w.alloc (.cells #[.int .i64 a.x, .int .i64 a.y, .int .i64 a.w, .int .i64 a.h, .int .i64 b.x, .int .i64 b.y, .int .i64 b.w, .int .i64 b.h] 23)) :
    Calls Try.prog 25 #[.slice (some ⟨h, 0, none⟩) 2 2] W fun e w' => e = .returned (.bool (right a && right b)) ∧ Below W.heap.size W w' := by
  subst hW
  subst hh
  have h := c25 (some ⟨w.heap.size, 0, none⟩) [a, b] 2 _ (rects_two w a b 23) (by simp)
  rw [show ([a, b] : List Rect).length = 2 from rfl, show (!wrongs [a, b]) = (right a && right b) from by unfold wrongs; simp] at h
  exact h

/-- where two meet -/
def meet (a b : Rect) : Rect :=
  if right a = true ∧ right b = true ∧ max a.x b.x < min (a.x + a.w) (b.x + b.w) ∧ max a.y b.y < min (a.y + a.h) (b.y + b.h) then
    ⟨max a.x b.x, max a.y b.y, min (a.x + a.w) (b.x + b.w) - max a.x b.x, min (a.y + a.h) (b.y + b.h) - max a.y b.y⟩
  else ⟨0, 0, 0, 0⟩
def erM (a b : Rect) : Int := if right a = true ∧ right b = true then 0 else 20

/-- a block of a rectangle -/
structure RRow (W : World) (B : Nat) (s : Rect) : Prop where
  at_ : W.heap[B]? = some (.cells s.arr 23 (0, 0))
theorem RRow.lt {W : World} {B : Nat} {s : Rect} (h : RRow W B s) : B < W.heap.size := (Array.getElem?_eq_some_iff.1 h.at_).1
theorem RRow.new (W : World) (s : Rect) : RRow (W.alloc (.cells s.arr 23)) W.heap.size s := ⟨heap_alloc_new _ _⟩
theorem RRow.turn {W W' : World} {B : Nat} {s : Rect} (h : RRow W B s) (hb : Below W.heap.size W W') : RRow W' B s := ⟨(hb.block B h.lt).trans h.at_⟩
theorem RRow.cells {W : World} {B : Nat} {s : Rect} (h : RRow W B s) : W.cell? ⟨B, 0, none⟩ = some (.int .i64 s.x) ∧ W.cell? ⟨B, 1, none⟩ = some (.int .i64 s.y) ∧ W.cell? ⟨B, 2, none⟩ = some (.int .i64 s.w) ∧ W.cell? ⟨B, 3, none⟩ = some (.int .i64 s.h) := by
  simp [World.cell?, h.at_, Rect.arr]
theorem RRow.frozen {W : World} {B : Nat} {s : Rect} (h : RRow W B s) (i : Nat) : W.frozen? ⟨B, i, none⟩ = false := by simp [World.frozen?, h.at_]
theorem three_rows (w : World) (a b c : Rect) : RRow (((w.alloc (.cells a.arr 23)).alloc (.cells b.arr 23)).alloc (.cells c.arr 23)) w.heap.size a ∧ RRow (((w.alloc (.cells a.arr 23)).alloc (.cells b.arr 23)).alloc (.cells c.arr 23)) (w.heap.size + 1) b ∧ RRow (((w.alloc (.cells a.arr 23)).alloc (.cells b.arr 23)).alloc (.cells c.arr 23)) (w.heap.size + 2) c ∧
    Below w.heap.size w (((w.alloc (.cells a.arr 23)).alloc (.cells b.arr 23)).alloc (.cells c.arr 23)) ∧ (((w.alloc (.cells a.arr 23)).alloc (.cells b.arr 23)).alloc (.cells c.arr 23)).heap.size = w.heap.size + 1 + 1 + 1 := by
  have h1 := (Below.refl (w.alloc (.cells a.arr 23)).heap.size (w.alloc (.cells a.arr 23))).alloc (Nat.le_refl _) (.cells b.arr 23)
  have h2 := (Below.refl ((w.alloc (.cells a.arr 23)).alloc (.cells b.arr 23)).heap.size ((w.alloc (.cells a.arr 23)).alloc (.cells b.arr 23))).alloc (Nat.le_refl _) (.cells c.arr 23)
  have r1 := RRow.new (w.alloc (.cells a.arr 23)) b
  have r2 := RRow.new ((w.alloc (.cells a.arr 23)).alloc (.cells b.arr 23)) c
  rw [World.size_alloc] at r1
  rw [World.size_alloc, World.size_alloc] at r2
  exact ⟨((RRow.new w a).turn h1).turn h2, r1.turn h2, r2, (((Below.refl _ w).alloc (Nat.le_refl _) _).alloc (by simp) _).alloc (by simp; omega) _, by simp⟩

theorem two_rows (w : World) (a b c d : Value) : ((w.alloc (.cells #[a, b] 49)).alloc (.cells #[c, d] 49)).heap[w.heap.size]? = some (.cells #[a, b] 49 (0, 0)) ∧ ((w.alloc (.cells #[a, b] 49)).alloc (.cells #[c, d] 49)).heap[w.heap.size + 1]? = some (.cells #[c, d] 49 (0, 0)) ∧
    Below w.heap.size w ((w.alloc (.cells #[a, b] 49)).alloc (.cells #[c, d] 49)) := by
  refine ⟨(Below.heap_alloc _ _ _ (by simp)).trans (heap_alloc_new w _), ?_, ((Below.refl _ w).alloc (Nat.le_refl _) _).alloc (by simp) _⟩
  have := heap_alloc_new (w.alloc (.cells #[a, b] 49)) (.cells #[c, d] 49)
  rw [World.size_alloc] at this
  exact this

inductive MeetI (W5 : World) (h b6 b8 : Nat) (x y u v x' y' u' v' : Int) (done : Nat → Bool) : Act → World → Prop
  | mk {W : World} (v10 v11 v28 v29 v30 v31 v32 v33 : Value) (hX : Hid (Below W5.heap.size W5 W)) (q10 : Hid (done 6 = true → ∃ B, v10 = .pointer (some ⟨B, 0, none⟩) ∧ W5.heap.size ≤ B ∧ W.heap[B]? = some (.cells (if done 8 = true then #[.int .i64 (max x x'), .int .i64 (min (x + u) (x' + u'))] else #[.int .i64 0, .int .i64 0]) 49 (0, 0)))) (q11 : Hid (done 7 = true → ∃ B, v11 = .pointer (some ⟨B, 0, none⟩) ∧ W5.heap.size ≤ B ∧ W.heap[B]? = some (.cells (if done 9 = true then #[.int .i64 (max y y'), .int .i64 (min (y + v) (y' + v'))] else #[.int .i64 0, .int .i64 0]) 49 (0, 0)))) (qd : Hid (done 6 = true → done 7 = true → v10 ≠ v11)) (o8 : Hid (done 8 = true → done 6 = true)) (o9 : Hid (done 9 = true → done 7 = true)) (i0 : Hid (done 0 = true → v28 = .agg #[.int .i64 x, .int .i64 (x + u)])) (i1 : Hid (done 1 = true → v29 = .agg #[.int .i64 x', .int .i64 (x' + u')])) (i2 : Hid (done 2 = true → v30 = .agg #[.int .i64 (max x x'), .int .i64 (min (x + u) (x' + u'))])) (i3 : Hid (done 3 = true → v31 = .agg #[.int .i64 y, .int .i64 (y + v)])) (i4 : Hid (done 4 = true → v32 = .agg #[.int .i64 y', .int .i64 (y' + v')])) (i5 : Hid (done 5 = true → v33 = .agg #[.int .i64 (max y y'), .int .i64 (min (y + v) (y' + v'))])) : MeetI W5 h b6 b8 x y u v x' y' u' v' done { tmps := #[.agg #[.int .i64 x, .int .i64 y, .int .i64 u, .int .i64 v], .agg #[.int .i64 x', .int .i64 y', .int .i64 u', .int .i64 v'], .pointer (some ⟨h, 0, none⟩), .pointer (some ⟨h + 1, 0, none⟩), .pointer (some ⟨h + 1 + 1, 0, none⟩), .int .i64 0, .pointer (some ⟨b6, 0, none⟩), .pointer (some ⟨b6 + 1, 0, none⟩), .pointer (some ⟨b8, 0, none⟩), .pointer (some ⟨b8 + 1, 0, none⟩), v10, v11, .agg #[.int .i64 x, .int .i64 y, .int .i64 u, .int .i64 v], .agg #[.int .i64 x', .int .i64 y', .int .i64 u', .int .i64 v'], .slice (some ⟨h + 1 + 1 + 1, 0, none⟩) 2 2, .bool true, .bool false, undef, .tuple #[.agg #[.int .i64 x, .int .i64 (x + u)], .agg #[.int .i64 y, .int .i64 (y + v)]], .agg #[.int .i64 x, .int .i64 y, .int .i64 u, .int .i64 v], .tuple #[.agg #[.int .i64 x, .int .i64 (x + u)], .agg #[.int .i64 y, .int .i64 (y + v)]], .agg #[.int .i64 x, .int .i64 (x + u)], .agg #[.int .i64 y, .int .i64 (y + v)], .tuple #[.agg #[.int .i64 x', .int .i64 (x' + u')], .agg #[.int .i64 y', .int .i64 (y' + v')]], .agg #[.int .i64 x', .int .i64 y', .int .i64 u', .int .i64 v'], .tuple #[.agg #[.int .i64 x', .int .i64 (x' + u')], .agg #[.int .i64 y', .int .i64 (y' + v')]], .agg #[.int .i64 x', .int .i64 (x' + u')], .agg #[.int .i64 y', .int .i64 (y' + v')], v28, v29, v30, v31, v32, v33, undef, undef, undef, undef, undef, undef, undef, undef, undef, undef, undef, undef, undef, undef, undef, undef], defers := [] } W

set_option maxRecDepth 100000 in
set_option maxHeartbeats 4000000 in
theorem c12 (a b : Rect) (w : World) : Calls Try.prog 12 #[.agg a.arr, .agg b.arr] w fun e w' => e = .returned (.tuple #[.agg (meet a b).arr, .int .i64 (erM a b)]) ∧ Below w.heap.size w w' := by
  obtain ⟨q0, q1, q2, hB, hsz⟩ := three_rows w a b ⟨0, 0, 0, 0⟩
  have C25 := Lib.hid (k25 a b)
  obtain ⟨x, y, u, v⟩ := a
  obtain ⟨x', y', u', v'⟩ := b
  have HM : Hid (right ⟨x, y, u, v⟩ = true ∧ right ⟨x', y', u', v'⟩ = true → meet ⟨x, y, u, v⟩ ⟨x', y', u', v'⟩ = if max x x' < min (x + u) (x' + u') ∧ max y y' < min (y + v) (y' + v') then ⟨max x x', max y y', min (x + u) (x' + u') - max x x', min (y + v) (y' + v') - max y y'⟩ else ⟨0, 0, 0, 0⟩) := Lib.hid fun h => by
    unfold meet; simp [h]
  have HN : Hid (¬ (right ⟨x, y, u, v⟩ = true ∧ right ⟨x', y', u', v'⟩ = true) → meet ⟨x, y, u, v⟩ ⟨x', y', u', v'⟩ = ⟨0, 0, 0, 0⟩) := Lib.hid fun h => by
    unfold meet; rw [if_neg (fun h' => h ⟨h'.1, h'.2.1⟩)]
  have HE : Hid (erM ⟨x, y, u, v⟩ ⟨x', y', u', v'⟩ = if right ⟨x, y, u, v⟩ = true ∧ right ⟨x', y', u', v'⟩ = true then 0 else 20) := Lib.hid rfl
  have HA := Lib.hid (right_iff (r := ⟨x, y, u, v⟩))
  have HA' := Lib.hid (right_iff (r := ⟨x', y', u', v'⟩))
  have Q0 := Lib.hid q0
  have Q1 := Lib.hid q1
  have Q2 := Lib.hid q2
  have HB := Lib.hid hB
  have Hz0 := Lib.hid hsz
  clear q0 q1 q2 hB hsz
  generalize right ⟨x, y, u, v⟩ = p at *
  generalize right ⟨x', y', u', v'⟩ = p' at *
  generalize meet ⟨x, y, u, v⟩ ⟨x', y', u', v'⟩ = M at *
  generalize erM ⟨x, y, u, v⟩ ⟨x', y', u', v'⟩ = E at *
  unfold Rect.arr at *
  dsimp only at *
  go_enter Try.func12, Try.ntmps12
  go_wp2_with (fail)
  generalize ((w.alloc (.cells #[.int .i64 x, .int .i64 y, .int .i64 u, .int .i64 v] 23)).alloc (.cells #[.int .i64 x', .int .i64 y', .int .i64 u', .int .i64 v'] 23)).alloc (.cells #[.int .i64 0, .int .i64 0, .int .i64 0, .int .i64 0] 23) = w0 at *
  -- walk
  refine (C25.out w0 _ _ Hz0.out rfl).mono ?_
  rintro e w1 ⟨rfl, hb1⟩
  have hbx : Below w0.heap.size w0 w1 := ((Below.refl _ w0).alloc (Nat.le_refl _) _).trans (hb1.mono (by simp))
  have R0 : Hid (RRow w1 w.heap.size ⟨x, y, u, v⟩) := Lib.hid (Q0.out.turn hbx)
  have R1 : Hid (RRow w1 (w.heap.size + 1) ⟨x', y', u', v'⟩) := Lib.hid (Q1.out.turn hbx)
  have R2 : Hid (RRow w1 (w.heap.size + 1 + 1) ⟨0, 0, 0, 0⟩) := Lib.hid (Q2.out.turn hbx)
  have HB1 := Lib.hid (HB.out.trans (hbx.mono HB.out.size))
  clear hb1 hbx Q0 Q1 Q2 HB C25 Hz0
  by_cases hpp : p = true ∧ p' = true
  case neg =>
    have hM := HN.out hpp
    have hE := HE.out
    rw [if_neg hpp] at hE
    have hf : (p && p') = false := by cases p <;> cases p' <;> simp at hpp ⊢
    rw [hf]
    subst hM
    subst hE
    have z0 : w1.cell? ⟨w.heap.size + 1 + 1, 0, none⟩ = some (.int .i64 0) := R2.out.cells.1
    have z1 : w1.cell? ⟨w.heap.size + 1 + 1, 1, none⟩ = some (.int .i64 0) := R2.out.cells.2.1
    have z2 : w1.cell? ⟨w.heap.size + 1 + 1, 2, none⟩ = some (.int .i64 0) := R2.out.cells.2.2.1
    have z3 : w1.cell? ⟨w.heap.size + 1 + 1, 3, none⟩ = some (.int .i64 0) := R2.out.cells.2.2.2
    have f1 := R2.out.frozen
    clear hpp hf HA HA' HM HN HE R0 R1 R2
    go_wp2_with (fail)
    exact ⟨rfl, .tuple #[.agg #[.int .i64 0, .int .i64 0, .int .i64 0, .int .i64 0], .int .i64 20], by simp [results, Try.results12, go_sem, *], rfl, (((HB1.out.setCell (by simp; omega) _).setCell (by simp; omega) _).setCell (by simp; omega) _).setCell (by simp; omega) _⟩
  case pos =>
    have hM := HM.out hpp
    have hE := HE.out
    rw [if_pos hpp] at hE
    have ha := HA.out.1 hpp.1
    have ha' := HA'.out.1 hpp.2
    have hf : (p && p') = true := by rw [hpp.1, hpp.2]; rfl
    rw [hf]
    subst hE
    have Hl := Lib.hid ha
    have Hl' := Lib.hid ha'
    have HMd := Lib.hid hM
    have S1 := Lib.hid (fun w => c26 ⟨x, y, u, v⟩ w (IntWalk.i64_in _ (by dsimp only; omega)) (IntWalk.i64_in _ (by dsimp only; omega)))
    have S2 := Lib.hid (fun w => c26 ⟨x', y', u', v'⟩ w (IntWalk.i64_in _ (by dsimp only; omega)) (IntWalk.i64_in _ (by dsimp only; omega)))
    unfold Rect.arr at S1 S2
    dsimp only at S1 S2
    have a0 : w1.cell? ⟨w.heap.size, 0, none⟩ = some (.int .i64 x) := R0.out.cells.1
    have a1 : w1.cell? ⟨w.heap.size, 1, none⟩ = some (.int .i64 y) := R0.out.cells.2.1
    have a2 : w1.cell? ⟨w.heap.size, 2, none⟩ = some (.int .i64 u) := R0.out.cells.2.2.1
    have a3 : w1.cell? ⟨w.heap.size, 3, none⟩ = some (.int .i64 v) := R0.out.cells.2.2.2
    clear hpp hf ha ha' hM HM HN HE HA HA'
    go_wp2_with (fail)
    refine (S1.out _).mono ?_
    rintro e w2 ⟨rfl, hb2⟩
    clear a0 a1 a2 a3 S1
    have R1' : Hid (RRow w2 (w.heap.size + 1) ⟨x', y', u', v'⟩) := Lib.hid (R1.out.turn hb2)
    have R2' : Hid (RRow w2 (w.heap.size + 1 + 1) ⟨0, 0, 0, 0⟩) := Lib.hid (R2.out.turn hb2)
    have HB2 := Lib.hid (HB1.out.trans (hb2.mono HB1.out.size))
    clear hb2 R0 R1 R2 HB1
    have hw2 := two_rows w2 (.int .i64 x) (.int .i64 (x + u)) (.int .i64 y) (.int .i64 (y + v))
    have R1a : Hid (RRow (((w2.alloc (.cells #[.int .i64 x, .int .i64 (x + u)] 49)).alloc (.cells #[.int .i64 y, .int .i64 (y + v)] 49))) (w.heap.size + 1) ⟨x', y', u', v'⟩) := Lib.hid (R1'.out.turn hw2.2.2)
    have R2a : Hid (RRow (((w2.alloc (.cells #[.int .i64 x, .int .i64 (x + u)] 49)).alloc (.cells #[.int .i64 y, .int .i64 (y + v)] 49))) (w.heap.size + 1 + 1) ⟨0, 0, 0, 0⟩) := Lib.hid (R2'.out.turn hw2.2.2)
    have HB3 : Hid (Below w.heap.size w (((w2.alloc (.cells #[.int .i64 x, .int .i64 (x + u)] 49)).alloc (.cells #[.int .i64 y, .int .i64 (y + v)] 49)))) := Lib.hid (HB2.out.trans (hw2.2.2.mono HB2.out.size))
    have P0 := Lib.hid hw2.1
    have P1 := Lib.hid hw2.2.1
    have a0 : (((w2.alloc (.cells #[.int .i64 x, .int .i64 (x + u)] 49)).alloc (.cells #[.int .i64 y, .int .i64 (y + v)] 49))).cell? ⟨w.heap.size + 1, 0, none⟩ = some (.int .i64 x') := R1a.out.cells.1
    have a1 : (((w2.alloc (.cells #[.int .i64 x, .int .i64 (x + u)] 49)).alloc (.cells #[.int .i64 y, .int .i64 (y + v)] 49))).cell? ⟨w.heap.size + 1, 1, none⟩ = some (.int .i64 y') := R1a.out.cells.2.1
    have a2 : (((w2.alloc (.cells #[.int .i64 x, .int .i64 (x + u)] 49)).alloc (.cells #[.int .i64 y, .int .i64 (y + v)] 49))).cell? ⟨w.heap.size + 1, 2, none⟩ = some (.int .i64 u') := R1a.out.cells.2.2.1
    have a3 : (((w2.alloc (.cells #[.int .i64 x, .int .i64 (x + u)] 49)).alloc (.cells #[.int .i64 y, .int .i64 (y + v)] 49))).cell? ⟨w.heap.size + 1, 3, none⟩ = some (.int .i64 v') := R1a.out.cells.2.2.2
    clear hw2 R1' R2' HB2
    go_wp2_with (fail)
    generalize (((w2.alloc (.cells #[.int .i64 x, .int .i64 (x + u)] 49)).alloc (.cells #[.int .i64 y, .int .i64 (y + v)] 49))) = W3 at *
    refine (S2.out _).mono ?_
    rintro e w4 ⟨rfl, hb4⟩
    clear a0 a1 a2 a3 S2
    have hw4 := two_rows w4 (.int .i64 x') (.int .i64 (x' + u')) (.int .i64 y') (.int .i64 (y' + v'))
    have hb5 := hb4.trans (hw4.2.2.mono hb4.size)
    have R2b : Hid (RRow (((w4.alloc (.cells #[.int .i64 x', .int .i64 (x' + u')] 49)).alloc (.cells #[.int .i64 y', .int .i64 (y' + v')] 49))) (w.heap.size + 1 + 1) ⟨0, 0, 0, 0⟩) := Lib.hid (R2a.out.turn hb5)
    have HB5 : Hid (Below w.heap.size w (((w4.alloc (.cells #[.int .i64 x', .int .i64 (x' + u')] 49)).alloc (.cells #[.int .i64 y', .int .i64 (y' + v')] 49)))) := Lib.hid (HB3.out.trans (hb5.mono HB3.out.size))
    have P0' := Lib.hid ((hb5.block _ (Array.getElem?_eq_some_iff.1 P0.out).1).trans P0.out)
    have P1' := Lib.hid ((hb5.block _ (Array.getElem?_eq_some_iff.1 P1.out).1).trans P1.out)
    have P2' := Lib.hid hw4.1
    have P3' := Lib.hid hw4.2.1
    clear hb4 hw4 hb5 R1a R2a HB3 P0 P1
    go_wp2_with (fail)
    generalize (((w4.alloc (.cells #[.int .i64 x', .int .i64 (x' + u')] 49)).alloc (.cells #[.int .i64 y', .int .i64 (y' + v')] 49))) = W5 at *
    generalize w2.heap.size = b6 at *
    generalize w4.heap.size = b8 at *
    have X0 : Hid (W5.cell? ⟨b6, 0, none⟩ = some (.int .i64 x)) := Lib.hid (by unfold World.cell?; rw [P0'.out]; rfl)
    have X1 : Hid (W5.cell? ⟨b6, 1, none⟩ = some (.int .i64 (x + u))) := Lib.hid (by unfold World.cell?; rw [P0'.out]; rfl)
    have Y0 : Hid (W5.cell? ⟨b6 + 1, 0, none⟩ = some (.int .i64 y)) := Lib.hid (by unfold World.cell?; rw [P1'.out]; rfl)
    have Y1 : Hid (W5.cell? ⟨b6 + 1, 1, none⟩ = some (.int .i64 (y + v))) := Lib.hid (by unfold World.cell?; rw [P1'.out]; rfl)
    have V0 : Hid (W5.cell? ⟨b8, 0, none⟩ = some (.int .i64 x')) := Lib.hid (by unfold World.cell?; rw [P2'.out]; rfl)
    have V1 : Hid (W5.cell? ⟨b8, 1, none⟩ = some (.int .i64 (x' + u'))) := Lib.hid (by unfold World.cell?; rw [P2'.out]; rfl)
    have U0 : Hid (W5.cell? ⟨b8 + 1, 0, none⟩ = some (.int .i64 y')) := Lib.hid (by unfold World.cell?; rw [P3'.out]; rfl)
    have U1 : Hid (W5.cell? ⟨b8 + 1, 1, none⟩ = some (.int .i64 (y' + v'))) := Lib.hid (by unfold World.cell?; rw [P3'.out]; rfl)
    clear P0' P1' P2' P3'
    refine wp_region_done2 (by kernel_rfl) (by kernel_rfl) (MeetI W5 w.heap.size b6 b8 x y u v x' y' u' v') ?_ ?_ ?_
    · exact ⟨_, _, _, _, _, _, _, _, Lib.hid ((Below.refl _ W5).drew), Lib.hid fun h => by simp at h, Lib.hid fun h => by simp at h, Lib.hid fun h => by simp at h, Lib.hid fun h => by simp at h, Lib.hid fun h => by simp at h, Lib.hid fun h => by simp at h, Lib.hid fun h => by simp at h, Lib.hid fun h => by simp at h, Lib.hid fun h => by simp at h, Lib.hid fun h => by simp at h, Lib.hid fun h => by simp at h⟩
    · rintro done i o a X ho hd he ⟨v10, v11, v28, v29, v30, v31, v32, v33, hX, q10, q11, qd, o8, o9, i0, i1, i2, i3, i4, i5⟩ K hK
      have Hd := Lib.hid he
      clear he
      rcases i with _ | _ | _ | _ | _ | _ | _ | _ | _ | _ | i
      rotate_left 10
      · exact absurd (Array.getElem?_eq_some_iff.1 ho).1 (by simp)
      · obtain rfl := Option.some.inj ho
        have s0 := (hX.out.cell (p := ⟨b6, 0, none⟩) (World.block_lt_of_cell? _ _ X0.out)).trans X0.out
        have s1 := (hX.out.cell (p := ⟨b6, 1, none⟩) (World.block_lt_of_cell? _ _ X1.out)).trans X1.out
        refine wpOp_plain ho rfl ?_
        clear ho hd
        go_wp2
        exact ⟨_, _, _, _, _, _, _, _, hX, q10, q11, qd, o8, o9, Lib.hid fun _ => rfl, Lib.hid fun h => i1.out h, Lib.hid fun h => i2.out h, Lib.hid fun h => i3.out h, Lib.hid fun h => i4.out h, Lib.hid fun h => i5.out h⟩
      · obtain rfl := Option.some.inj ho
        have s0 := (hX.out.cell (p := ⟨b8, 0, none⟩) (World.block_lt_of_cell? _ _ V0.out)).trans V0.out
        have s1 := (hX.out.cell (p := ⟨b8, 1, none⟩) (World.block_lt_of_cell? _ _ V1.out)).trans V1.out
        refine wpOp_plain ho rfl ?_
        clear ho hd
        go_wp2
        exact ⟨_, _, _, _, _, _, _, _, hX, q10, q11, qd, o8, o9, Lib.hid fun h => i0.out h, Lib.hid fun _ => rfl, Lib.hid fun h => i2.out h, Lib.hid fun h => i3.out h, Lib.hid fun h => i4.out h, Lib.hid fun h => i5.out h⟩
      · obtain rfl := Option.some.inj ho
        obtain rfl := i0.out (Hd.out ⟨0, .data⟩ (by simp) rfl)
        obtain rfl := i1.out (Hd.out ⟨1, .data⟩ (by simp) rfl)
        refine wpOp_plain ho rfl ?_
        clear ho hd
        go_wp2_with (go_at_call 27; refine (c27 x (x + u) x' (x' + u') _).mono ?_; rintro e W1 ⟨rfl, hb⟩)
        exact ⟨_, _, _, _, _, _, _, _, Lib.hid (hX.out.trans (hb.mono hX.out.size)), Lib.hid fun h => (by obtain ⟨B, e1, e2, e3⟩ := q10.out h; exact ⟨B, e1, e2, ((hb).block B (Array.getElem?_eq_some_iff.1 e3).1).trans e3⟩), Lib.hid fun h => (by obtain ⟨B, e1, e2, e3⟩ := q11.out h; exact ⟨B, e1, e2, ((hb).block B (Array.getElem?_eq_some_iff.1 e3).1).trans e3⟩), qd, o8, o9, Lib.hid fun _ => rfl, Lib.hid fun _ => rfl, Lib.hid fun _ => rfl, Lib.hid fun h => i3.out h, Lib.hid fun h => i4.out h, Lib.hid fun h => i5.out h⟩
      · obtain rfl := Option.some.inj ho
        have s0 := (hX.out.cell (p := ⟨b6 + 1, 0, none⟩) (World.block_lt_of_cell? _ _ Y0.out)).trans Y0.out
        have s1 := (hX.out.cell (p := ⟨b6 + 1, 1, none⟩) (World.block_lt_of_cell? _ _ Y1.out)).trans Y1.out
        refine wpOp_plain ho rfl ?_
        clear ho hd
        go_wp2
        exact ⟨_, _, _, _, _, _, _, _, hX, q10, q11, qd, o8, o9, Lib.hid fun h => i0.out h, Lib.hid fun h => i1.out h, Lib.hid fun h => i2.out h, Lib.hid fun _ => rfl, Lib.hid fun h => i4.out h, Lib.hid fun h => i5.out h⟩
      · obtain rfl := Option.some.inj ho
        have s0 := (hX.out.cell (p := ⟨b8 + 1, 0, none⟩) (World.block_lt_of_cell? _ _ U0.out)).trans U0.out
        have s1 := (hX.out.cell (p := ⟨b8 + 1, 1, none⟩) (World.block_lt_of_cell? _ _ U1.out)).trans U1.out
        refine wpOp_plain ho rfl ?_
        clear ho hd
        go_wp2
        exact ⟨_, _, _, _, _, _, _, _, hX, q10, q11, qd, o8, o9, Lib.hid fun h => i0.out h, Lib.hid fun h => i1.out h, Lib.hid fun h => i2.out h, Lib.hid fun h => i3.out h, Lib.hid fun _ => rfl, Lib.hid fun h => i5.out h⟩
      · obtain rfl := Option.some.inj ho
        obtain rfl := i3.out (Hd.out ⟨3, .data⟩ (by simp) rfl)
        obtain rfl := i4.out (Hd.out ⟨4, .data⟩ (by simp) rfl)
        refine wpOp_plain ho rfl ?_
        clear ho hd
        go_wp2_with (go_at_call 27; refine (c27 y (y + v) y' (y' + v') _).mono ?_; rintro e W1 ⟨rfl, hb⟩)
        exact ⟨_, _, _, _, _, _, _, _, Lib.hid (hX.out.trans (hb.mono hX.out.size)), Lib.hid fun h => (by obtain ⟨B, e1, e2, e3⟩ := q10.out h; exact ⟨B, e1, e2, ((hb).block B (Array.getElem?_eq_some_iff.1 e3).1).trans e3⟩), Lib.hid fun h => (by obtain ⟨B, e1, e2, e3⟩ := q11.out h; exact ⟨B, e1, e2, ((hb).block B (Array.getElem?_eq_some_iff.1 e3).1).trans e3⟩), qd, o8, o9, Lib.hid fun h => i0.out h, Lib.hid fun h => i1.out h, Lib.hid fun h => i2.out h, Lib.hid fun _ => rfl, Lib.hid fun _ => rfl, Lib.hid fun _ => rfl⟩
      · obtain rfl := Option.some.inj ho
        have n8 : done 8 = false := by cases h : done 8 with | false => rfl | true => exact absurd (o8.out h) (by rw [hd]; simp)
        have N8 := Lib.hid n8
        clear n8
        refine wpOp_plain ho rfl ?_
        clear ho hd
        go_wp2
        exact ⟨_, _, _, _, _, _, _, _, Lib.hid (hX.out.alloc hX.out.size _), Lib.hid fun _ => ⟨_, rfl, hX.out.size, by rw [heap_alloc_new, if_neg (by show ¬ done 8 = true; rw [N8.out]; simp)]⟩, Lib.hid fun h => (by obtain ⟨B, e1, e2, e3⟩ := q11.out h; exact ⟨B, e1, e2, (((Below.refl _ X).alloc (Nat.le_refl _) _).block B (Array.getElem?_eq_some_iff.1 e3).1).trans e3⟩), Lib.hid fun _ h => (by obtain ⟨B, e1, e2, e3⟩ := q11.out h; rw [e1]; have := (Array.getElem?_eq_some_iff.1 e3).1; intro e; simp only [Value.pointer.injEq, Option.some.injEq, Addr.mk.injEq] at e; omega), Lib.hid fun h => (by show (_ || _) = true; simp), Lib.hid fun h => o9.out h, Lib.hid fun h => i0.out h, Lib.hid fun h => i1.out h, Lib.hid fun h => i2.out h, Lib.hid fun h => i3.out h, Lib.hid fun h => i4.out h, Lib.hid fun h => i5.out h⟩
      · obtain rfl := Option.some.inj ho
        have n8 : done 9 = false := by cases h : done 9 with | false => rfl | true => exact absurd (o9.out h) (by rw [hd]; simp)
        have N8 := Lib.hid n8
        clear n8
        refine wpOp_plain ho rfl ?_
        clear ho hd
        go_wp2
        exact ⟨_, _, _, _, _, _, _, _, Lib.hid (hX.out.alloc hX.out.size _), Lib.hid fun h => (by obtain ⟨B, e1, e2, e3⟩ := q10.out h; exact ⟨B, e1, e2, (((Below.refl _ X).alloc (Nat.le_refl _) _).block B (Array.getElem?_eq_some_iff.1 e3).1).trans e3⟩), Lib.hid fun _ => ⟨_, rfl, hX.out.size, by rw [heap_alloc_new, if_neg (by show ¬ done 9 = true; rw [N8.out]; simp)]⟩, Lib.hid fun h _ => (by obtain ⟨B, e1, e2, e3⟩ := q10.out h; rw [e1]; have := (Array.getElem?_eq_some_iff.1 e3).1; intro e; simp only [Value.pointer.injEq, Option.some.injEq, Addr.mk.injEq] at e; omega), Lib.hid fun h => o8.out h, Lib.hid fun h => (by show (_ || _) = true; simp), Lib.hid fun h => i0.out h, Lib.hid fun h => i1.out h, Lib.hid fun h => i2.out h, Lib.hid fun h => i3.out h, Lib.hid fun h => i4.out h, Lib.hid fun h => i5.out h⟩
      · obtain rfl := Option.some.inj ho
        obtain rfl := i2.out (Hd.out ⟨2, .data⟩ (by simp) rfl)
        have hal := Hd.out ⟨6, .data⟩ (by simp) rfl
        obtain ⟨Bk, rfl, g2, g3⟩ := q10.out hal
        rw [if_neg (by rw [hd]; simp)] at g3
        have z0 : X.cell? ⟨Bk, 0, none⟩ = some (.int .i64 0) := by unfold World.cell?; rw [g3]; rfl
        have z1 : X.cell? ⟨Bk, 1, none⟩ = some (.int .i64 0) := by unfold World.cell?; rw [g3]; rfl
        have f1 : ∀ i, X.frozen? ⟨Bk, i, none⟩ = false := fun i => by simp [World.frozen?, g3]
        have G3 := Lib.hid g3
        have G2 := Lib.hid g2
        have Hal := Lib.hid hal
        clear g3 g2 hal
        refine wpOp_plain ho rfl ?_
        clear ho hd
        go_wp2
        exact ⟨_, _, _, _, _, _, _, _, Lib.hid ((hX.out.setCell G2.out _).setCell G2.out _), Lib.hid fun _ => ⟨Bk, rfl, G2.out, by rw [two_in G3.out]; rfl⟩, Lib.hid fun h => (by obtain ⟨B, e1, e2, e3⟩ := q11.out h; refine ⟨B, e1, e2, ?_⟩; rw [two_out (fun e => by subst e; exact qd.out Hal.out h e1.symm)]; exact e3), qd, Lib.hid fun _ => Hal.out, Lib.hid fun h => o9.out h, Lib.hid fun h => i0.out h, Lib.hid fun h => i1.out h, Lib.hid fun _ => rfl, Lib.hid fun h => i3.out h, Lib.hid fun h => i4.out h, Lib.hid fun h => i5.out h⟩
      · obtain rfl := Option.some.inj ho
        obtain rfl := i5.out (Hd.out ⟨5, .data⟩ (by simp) rfl)
        have hal := Hd.out ⟨7, .data⟩ (by simp) rfl
        obtain ⟨Bk, rfl, g2, g3⟩ := q11.out hal
        rw [if_neg (by rw [hd]; simp)] at g3
        have z0 : X.cell? ⟨Bk, 0, none⟩ = some (.int .i64 0) := by unfold World.cell?; rw [g3]; rfl
        have z1 : X.cell? ⟨Bk, 1, none⟩ = some (.int .i64 0) := by unfold World.cell?; rw [g3]; rfl
        have f1 : ∀ i, X.frozen? ⟨Bk, i, none⟩ = false := fun i => by simp [World.frozen?, g3]
        have G3 := Lib.hid g3
        have G2 := Lib.hid g2
        have Hal := Lib.hid hal
        clear g3 g2 hal
        refine wpOp_plain ho rfl ?_
        clear ho hd
        go_wp2
        exact ⟨_, _, _, _, _, _, _, _, Lib.hid ((hX.out.setCell G2.out _).setCell G2.out _), Lib.hid fun h => (by obtain ⟨B, e1, e2, e3⟩ := q10.out h; refine ⟨B, e1, e2, ?_⟩; rw [two_out (fun e => by subst e; exact qd.out h Hal.out e1)]; exact e3), Lib.hid fun _ => ⟨Bk, rfl, G2.out, by rw [two_in G3.out]; rfl⟩, qd, Lib.hid fun h => o8.out h, Lib.hid fun _ => Hal.out, Lib.hid fun h => i0.out h, Lib.hid fun h => i1.out h, Lib.hid fun h => i2.out h, Lib.hid fun h => i3.out h, Lib.hid fun h => i4.out h, Lib.hid fun _ => rfl⟩
    · rintro done a X hall ⟨v10, v11, v28, v29, v30, v31, v32, v33, hX, q10, q11, qd, o8, o9, i0, i1, i2, i3, i4, i5⟩
      obtain rfl := i0.out (hall 0 (by simp))
      obtain rfl := i1.out (hall 1 (by simp))
      obtain rfl := i2.out (hall 2 (by simp))
      obtain rfl := i3.out (hall 3 (by simp))
      obtain rfl := i4.out (hall 4 (by simp))
      obtain rfl := i5.out (hall 5 (by simp))
      clear i0 i1 i2 i3 i4 i5
      dsimp only
      obtain ⟨B1, rfl, g1, g2⟩ := q10.out (hall 6 (by simp))
      obtain ⟨B2, rfl, g3, g4⟩ := q11.out (hall 7 (by simp))
      rw [if_pos (hall 8 (by simp))] at g2
      rw [if_pos (hall 9 (by simp))] at g4
      have Rx : Hid (RRow X (w.heap.size + 1 + 1) ⟨0, 0, 0, 0⟩) := Lib.hid (R2b.out.turn hX.out)
      have HBx := Lib.hid (HB5.out.trans (hX.out.mono HB5.out.size))
      have m0 : X.cell? ⟨B1, 0, none⟩ = some (.int .i64 (max x x')) := by unfold World.cell?; rw [g2]; rfl
      have m1 : X.cell? ⟨B1, 1, none⟩ = some (.int .i64 (min (x + u) (x' + u'))) := by unfold World.cell?; rw [g2]; rfl
      have m2 : X.cell? ⟨B2, 0, none⟩ = some (.int .i64 (max y y')) := by unfold World.cell?; rw [g4]; rfl
      have m3 : X.cell? ⟨B2, 1, none⟩ = some (.int .i64 (min (y + v) (y' + v'))) := by unfold World.cell?; rw [g4]; rfl
      have hl := Hl.out
      have hl' := Hl'.out
      have hm := HMd.out
      have x1 : IntKind.i64.wrap (min (x + u) (x' + u') - max x x') = min (x + u) (x' + u') - max x x' := IntWalk.i64_in _ (by omega)
      have x2 : IntKind.i64.wrap (min (y + v) (y' + v') - max y y') = min (y + v) (y' + v') - max y y' := IntWalk.i64_in _ (by omega)
      have C28 := Lib.hid (fun W => c28 (max x x') (min (x + u) (x' + u')) (max y y') (min (y + v) (y' + v')) W x1 x2)
      clear g2 g4 q10 q11 qd o8 o9 hX R2b HB5 X0 X1 Y0 Y1 V0 V1 U0 U1 Hl Hl' HMd hl hl' x1 x2 hall g1 g3
      by_cases k1 : min (x + u) (x' + u') ≤ max x x'
      · rw [if_neg (by omega)] at hm
        subst hm
        have t1 : decide (min (x + u) (x' + u') ≤ max x x') = true := decide_eq_true k1
        have z0 : X.cell? ⟨w.heap.size + 1 + 1, 0, none⟩ = some (.int .i64 0) := Rx.out.cells.1
        have z1 : X.cell? ⟨w.heap.size + 1 + 1, 1, none⟩ = some (.int .i64 0) := Rx.out.cells.2.1
        have z2 : X.cell? ⟨w.heap.size + 1 + 1, 2, none⟩ = some (.int .i64 0) := Rx.out.cells.2.2.1
        have z3 : X.cell? ⟨w.heap.size + 1 + 1, 3, none⟩ = some (.int .i64 0) := Rx.out.cells.2.2.2
        have f1 := Rx.out.frozen
        clear k1
        go_wp2_with (fail)
        exact ⟨rfl, .tuple #[.agg #[.int .i64 0, .int .i64 0, .int .i64 0, .int .i64 0], .int .i64 0], by simp [results, Try.results12, go_sem, *], rfl, (((HBx.out.setCell (by simp; omega) _).setCell (by simp; omega) _).setCell (by simp; omega) _).setCell (by simp; omega) _⟩
      · by_cases k2 : min (y + v) (y' + v') ≤ max y y'
        · rw [if_neg (by omega)] at hm
          subst hm
          have t1 : decide (min (x + u) (x' + u') ≤ max x x') = false := decide_eq_false k1
          have t2 : decide (min (y + v) (y' + v') ≤ max y y') = true := decide_eq_true k2
          have z0 : X.cell? ⟨w.heap.size + 1 + 1, 0, none⟩ = some (.int .i64 0) := Rx.out.cells.1
          have z1 : X.cell? ⟨w.heap.size + 1 + 1, 1, none⟩ = some (.int .i64 0) := Rx.out.cells.2.1
          have z2 : X.cell? ⟨w.heap.size + 1 + 1, 2, none⟩ = some (.int .i64 0) := Rx.out.cells.2.2.1
          have z3 : X.cell? ⟨w.heap.size + 1 + 1, 3, none⟩ = some (.int .i64 0) := Rx.out.cells.2.2.2
          have f1 := Rx.out.frozen
          clear k1 k2
          go_wp2_with (fail)
          exact ⟨rfl, .tuple #[.agg #[.int .i64 0, .int .i64 0, .int .i64 0, .int .i64 0], .int .i64 0], by simp [results, Try.results12, go_sem, *], rfl, (((HBx.out.setCell (by simp; omega) _).setCell (by simp; omega) _).setCell (by simp; omega) _).setCell (by simp; omega) _⟩
        · rw [if_pos (by omega)] at hm
          subst hm
          have t1 : decide (min (x + u) (x' + u') ≤ max x x') = false := decide_eq_false k1
          have t2 : decide (min (y + v) (y' + v') ≤ max y y') = false := decide_eq_false k2
          clear k1 k2
          go_wp2_with (fail)
          refine (C28.out _).mono ?_
          rintro e w9 ⟨rfl, hb9⟩
          have R9 : Hid (RRow w9 (w.heap.size + 1 + 1) ⟨0, 0, 0, 0⟩) := Lib.hid (Rx.out.turn hb9)
          have HB9 := Lib.hid (HBx.out.trans (hb9.mono HBx.out.size))
          have z0 : w9.cell? ⟨w.heap.size + 1 + 1, 0, none⟩ = some (.int .i64 0) := R9.out.cells.1
          have z1 : w9.cell? ⟨w.heap.size + 1 + 1, 1, none⟩ = some (.int .i64 0) := R9.out.cells.2.1
          have z2 : w9.cell? ⟨w.heap.size + 1 + 1, 2, none⟩ = some (.int .i64 0) := R9.out.cells.2.2.1
          have z3 : w9.cell? ⟨w.heap.size + 1 + 1, 3, none⟩ = some (.int .i64 0) := R9.out.cells.2.2.2
          have f1 := R9.out.frozen
          clear hb9 Rx HBx m0 m1 m2 m3 C28
          unfold Rect.arr
          dsimp only
          go_wp2_with (fail)
          exact ⟨rfl, .tuple #[.agg #[.int .i64 (max x x'), .int .i64 (max y y'), .int .i64 (min (x + u) (x' + u') - max x x'), .int .i64 (min (y + v) (y' + v') - max y y')], .int .i64 0], by simp [results, Try.results12, go_sem, *], rfl, (((HB9.out.setCell (by simp; omega) _).setCell (by simp; omega) _).setCell (by simp; omega) _).setCell (by simp; omega) _⟩

end Go.Proofs.Ytnlojbkjhlhogaa
