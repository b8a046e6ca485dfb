/- The reference for tiling: what it answers, any rectangle, any rectangles; and when keys of pieces tile. -/
import Derived.Test.YtnjifmoclfgegaaProg
import Derived.Test.YtnjifmoclfgegaaOrd
import Derived.WalkKit
import Derived.KernelRfl
import Derived.WalkLawsBesides
import Derived.WalkSpells
import Derived.Deep.QuietTactic
import Derived.BigQuiet
import Derived.Deep.LoopGhost
import Derived.Lib.Hide
import Derived.Maps.AppendAt
import Derived.OwnWalk
import Derived.Below
import Derived.Orders
import Derived.RangeFuncCalls
import Derived.Lib.SliceRun
import Derived.Deep.Upon
import Derived.Maps.Own
import Derived.RangeFuncFrom
import Derived.RangeFuncNested
import Derived.RangeFuncBound
import Derived.RangeFuncLeaves
import Derived.Shelf.Abstract
import Derived.Shelf.RegionOpen
import Derived.OwnWalkIn
import Derived.TacticsInMore
import Derived.LoopNIn
import Derived.LoopIn
import Derived.ProofKit
import Derived.OpenShut
import Derived.ShutString
import Derived.ChangeOld
import Derived.SizedLaws
import Derived.ChangeSlices
import Derived.Lib.SmallJoins
import Derived.Deep.Slices
namespace Go.Proofs.Ytnjifmoclfgegaa.RT
open Go Go.RowKit
set_option linter.unusedVariables false
open Go Go.RowKit Ords
open Go.MapKept Go.ChangeMaps
open Ieee
open Go Go.RowKit Go.Shelf Ords
attribute [local go_sem] Oper.semAt_some
open Go.ChangeShapes Go.WideShapes Go.ChangeAt Go.RowKit

def Ints (w : World) (A : Option Addr) (xs : List Int) : Prop :=
  ∀ j, j < xs.length → ∃ b off, A = some ⟨b, off, none⟩ ∧ w.cell? ⟨b, off + j, none⟩ = some (.int .i64 (xs[j]?.getD 0))

theorem Ints.get {w : World} {A : Option Addr} {xs : List Int} (h : Ints w A xs) (j : Nat) (hj : j < xs.length) :
    ∃ x b off, Hid (xs[j]?.getD 0 = x) ∧ A = some ⟨b, off, none⟩ ∧ w.cell? ⟨b, off + j, none⟩ = some (.int .i64 x) :=
  let ⟨b, off, hA, hc⟩ := h j hj; ⟨_, b, off, Lib.hid rfl, hA, hc⟩

theorem Ints.below {w w' : World} {A : Option Addr} {xs : List Int} (h : Ints w A xs) (hb : Below w.heap.size w w') : Ints w' A xs := fun j hj =>
  let ⟨b, off, hA, hc⟩ := h j hj
  ⟨b, off, hA, (hb.cell (p := ⟨b, off + j, none⟩) (World.block_lt_of_cell? w _ hc)).trans hc⟩

structure Rect where
  x : Int
  y : Int
  w : Int
  h : Int
deriving DecidableEq

instance : Inhabited Rect := ⟨⟨0, 0, 0, 0⟩⟩

def Rect.arr (p : Rect) : Array Value := #[.int .i64 p.x, .int .i64 p.y, .int .i64 p.w, .int .i64 p.h]

def Rect.cells (p : Rect) : List Value := [.int .i64 p.x, .int .i64 p.y, .int .i64 p.w, .int .i64 p.h]

def RectAt (w : World) (b o : Nat) (p : Rect) : Prop :=
  w.cell? ⟨b, o, none⟩ = some (.int .i64 p.x) ∧ w.cell? ⟨b, o + 1, none⟩ = some (.int .i64 p.y) ∧ w.cell? ⟨b, o + 2, none⟩ = some (.int .i64 p.w) ∧ w.cell? ⟨b, o + 3, none⟩ = some (.int .i64 p.h)

def Rects (w : World) (A : Option Addr) (xs : List Rect) : Prop :=
  ∀ j, j < xs.length → ∃ b off, A = some ⟨b, off, none⟩ ∧ RectAt w b (off + j * 4) (xs[j]?.getD default)

theorem Rects.get {w : World} {A : Option Addr} {xs : List Rect} (h : Rects w A xs) (j : Nat) (hj : j < xs.length) :
    ∃ x b off, Hid (xs[j]?.getD default = x) ∧ A = some ⟨b, off, none⟩ ∧ RectAt w b (off + j * 4) x :=
  let ⟨b, off, hA, hc⟩ := h j hj; ⟨_, b, off, Lib.hid rfl, hA, hc⟩

theorem RectAt.below {w w' : World} {b o : Nat} {s : Rect} (h : RectAt w b o s) {B : Nat} (hb : Below B w w') (hB : b < B) : RectAt w' b o s :=
  have f := fun i => hb.cell (p := ⟨b, i, none⟩) hB
  ⟨(f _).trans h.1, (f _).trans h.2.1, (f _).trans h.2.2.1, (f _).trans h.2.2.2⟩

theorem RectAt.lt {w : World} {b o : Nat} {s : Rect} (h : RectAt w b o s) : b < w.heap.size := World.block_lt_of_cell? w _ h.1

theorem Rects.below {w w' : World} {A : Option Addr} {xs : List Rect} (h : Rects w A xs) (hb : Below w.heap.size w w') : Rects w' A xs := fun j hj =>
  let ⟨b, off, hA, hc⟩ := h j hj
  ⟨b, off, hA, hc.below hb hc.lt⟩

/-- all numbers lie within bounds -/
def inB (lo hi : Int) (xs : List Int) : Bool := xs.all fun n => decide (lo ≤ n ∧ n ≤ hi)

/-- a rectangle that is right -/
def right (r : Rect) : Bool := inB (-1152921504606846976) 1152921504606846975 [r.x, r.y] && inB 0 1152921504606846975 [r.w, r.h]

theorem right_iff {r : Rect} : right r = true ↔ (-1152921504606846976 ≤ r.x ∧ r.x ≤ 1152921504606846975) ∧ (-1152921504606846976 ≤ r.y ∧ r.y ≤ 1152921504606846975) ∧ (0 ≤ r.w ∧ r.w ≤ 1152921504606846975) ∧ (0 ≤ r.h ∧ r.h ≤ 1152921504606846975) := by
  unfold right inB
  simp only [List.all_cons, List.all_nil, Bool.and_true, Bool.and_eq_true, decide_eq_true_eq, and_assoc]

def wrongs (xs : List Rect) : Bool := xs.any fun s => !right s

theorem wrongs_none {xs : List Rect} (h : ∀ j, j < xs.length → right (xs[j]?.getD default) = true) : wrongs xs = false := by
  unfold wrongs
  rw [List.any_eq_false]
  intro x hx
  obtain ⟨j, hj, rfl⟩ := List.getElem_of_mem hx
  have := h j hj
  simp [hj] at this
  simp [this]

theorem wrongs_iff {xs : List Rect} : wrongs xs = false ↔ ∀ x ∈ xs, right x = true := by
  unfold wrongs
  rw [List.any_eq_false]
  simp

/-- a rectangle that has points -/
def pts (r : Rect) : Bool := decide (0 < r.w) && decide (0 < r.h)

/-- the reference's none -/
theorem c35 (r : Rect) (w : World) : Calls Try.prog 35 #[.agg r.arr] w fun e w' => e = .returned (.bool (decide (r.w = 0) || decide (r.h = 0))) ∧ Below w.heap.size w w' := by
  obtain ⟨x, y, u, v⟩ := r
  unfold Rect.arr
  dsimp only
  by_cases h1 : u = 0
  · have t1 : (u == 0) = true := by simp [h1]
    have t3 : decide (u = 0) = true := by simp [h1]
    have T3 := Lib.hid t3
    clear h1 t3
    go_enter Try.func35, Try.ntmps35
    go_wp2
    go_ret
    rw [T3.out]
    exact ⟨rfl, (Below.refl _ _).alloc (Nat.le_refl _) _⟩
  · have t1 : (u == 0) = false := by simp [h1]
    have T3 : Hid (decide (u = 0) = false) := Lib.hid (by simp [h1])
    clear h1
    by_cases h2 : v = 0
    · have t2 : (v == 0) = true := by simp [h2]
      have T4 : Hid (decide (v = 0) = true) := Lib.hid (by simp [h2])
      clear h2
      go_enter Try.func35, Try.ntmps35
      go_wp2
      go_ret
      rw [T3.out, T4.out]
      exact ⟨rfl, (Below.refl _ _).alloc (Nat.le_refl _) _⟩
    · have t2 : (v == 0) = false := by simp [h2]
      have T4 : Hid (decide (v = 0) = false) := Lib.hid (by simp [h2])
      clear h2
      go_enter Try.func35, Try.ntmps35
      go_wp2
      go_ret
      rw [T3.out, T4.out]
      exact ⟨rfl, (Below.refl _ _).alloc (Nat.le_refl _) _⟩

set_option maxHeartbeats 2000000 in
/-- the reference's Right -/
theorem c15 (r : Rect) (w : World) : Calls Try.prog 34 #[.agg r.arr] w fun e w' => e = .returned (.bool (right r)) ∧ Below w.heap.size w w' := by
  obtain ⟨x, y, u, v⟩ := r
  have hR := right_iff (r := ⟨x, y, u, v⟩)
  unfold Rect.arr
  dsimp only at hR ⊢
  generalize right ⟨x, y, u, v⟩ = R at *
  by_cases h0 : -1152921504606846976 ≤ x
  case neg =>
    have HR : Hid (R = false) := Lib.hid (by cases R with | false => rfl | true => exact absurd (hR.1 rfl) (by omega))
    have t0 : decide (-1152921504606846976 ≤ x) = false := decide_eq_false h0
    clear hR h0
    go_enter Try.func34, Try.ntmps34
    go_wp2
    go_ret
    rw [HR.out]
    exact ⟨rfl, (Below.refl _ _).alloc (Nat.le_refl _) _⟩
  by_cases h1 : x ≤ 1152921504606846975
  case neg =>
    have HR : Hid (R = false) := Lib.hid (by cases R with | false => rfl | true => exact absurd (hR.1 rfl) (by omega))
    have t0 : decide (-1152921504606846976 ≤ x) = true := decide_eq_true h0
    have t1 : decide (x ≤ 1152921504606846975) = false := decide_eq_false h1
    clear hR h0 h1
    go_enter Try.func34, Try.ntmps34
    go_wp2
    go_ret
    rw [HR.out]
    exact ⟨rfl, (Below.refl _ _).alloc (Nat.le_refl _) _⟩
  by_cases h2 : -1152921504606846976 ≤ y
  case neg =>
    have HR : Hid (R = false) := Lib.hid (by cases R with | false => rfl | true => exact absurd (hR.1 rfl) (by omega))
    have t0 : decide (-1152921504606846976 ≤ x) = true := decide_eq_true h0
    have t1 : decide (x ≤ 1152921504606846975) = true := decide_eq_true h1
    have t2 : decide (-1152921504606846976 ≤ y) = false := decide_eq_false h2
    clear hR h0 h1 h2
    go_enter Try.func34, Try.ntmps34
    go_wp2
    go_ret
    rw [HR.out]
    exact ⟨rfl, (Below.refl _ _).alloc (Nat.le_refl _) _⟩
  by_cases h3 : y ≤ 1152921504606846975
  case neg =>
    have HR : Hid (R = false) := Lib.hid (by cases R with | false => rfl | true => exact absurd (hR.1 rfl) (by omega))
    have t0 : decide (-1152921504606846976 ≤ x) = true := decide_eq_true h0
    have t1 : decide (x ≤ 1152921504606846975) = true := decide_eq_true h1
    have t2 : decide (-1152921504606846976 ≤ y) = true := decide_eq_true h2
    have t3 : decide (y ≤ 1152921504606846975) = false := decide_eq_false h3
    clear hR h0 h1 h2 h3
    go_enter Try.func34, Try.ntmps34
    go_wp2
    go_ret
    rw [HR.out]
    exact ⟨rfl, (Below.refl _ _).alloc (Nat.le_refl _) _⟩
  by_cases h4 : 0 ≤ u
  case neg =>
    have HR : Hid (R = false) := Lib.hid (by cases R with | false => rfl | true => exact absurd (hR.1 rfl) (by omega))
    have t0 : decide (-1152921504606846976 ≤ x) = true := decide_eq_true h0
    have t1 : decide (x ≤ 1152921504606846975) = true := decide_eq_true h1
    have t2 : decide (-1152921504606846976 ≤ y) = true := decide_eq_true h2
    have t3 : decide (y ≤ 1152921504606846975) = true := decide_eq_true h3
    have t4 : decide (0 ≤ u) = false := decide_eq_false h4
    clear hR h0 h1 h2 h3 h4
    go_enter Try.func34, Try.ntmps34
    go_wp2
    go_ret
    rw [HR.out]
    exact ⟨rfl, (Below.refl _ _).alloc (Nat.le_refl _) _⟩
  by_cases h5 : u ≤ 1152921504606846975
  case neg =>
    have HR : Hid (R = false) := Lib.hid (by cases R with | false => rfl | true => exact absurd (hR.1 rfl) (by omega))
    have t0 : decide (-1152921504606846976 ≤ x) = true := decide_eq_true h0
    have t1 : decide (x ≤ 1152921504606846975) = true := decide_eq_true h1
    have t2 : decide (-1152921504606846976 ≤ y) = true := decide_eq_true h2
    have t3 : decide (y ≤ 1152921504606846975) = true := decide_eq_true h3
    have t4 : decide (0 ≤ u) = true := decide_eq_true h4
    have t5 : decide (u ≤ 1152921504606846975) = false := decide_eq_false h5
    clear hR h0 h1 h2 h3 h4 h5
    go_enter Try.func34, Try.ntmps34
    go_wp2
    go_ret
    rw [HR.out]
    exact ⟨rfl, (Below.refl _ _).alloc (Nat.le_refl _) _⟩
  by_cases h6 : 0 ≤ v
  case neg =>
    have HR : Hid (R = false) := Lib.hid (by cases R with | false => rfl | true => exact absurd (hR.1 rfl) (by omega))
    have t0 : decide (-1152921504606846976 ≤ x) = true := decide_eq_true h0
    have t1 : decide (x ≤ 1152921504606846975) = true := decide_eq_true h1
    have t2 : decide (-1152921504606846976 ≤ y) = true := decide_eq_true h2
    have t3 : decide (y ≤ 1152921504606846975) = true := decide_eq_true h3
    have t4 : decide (0 ≤ u) = true := decide_eq_true h4
    have t5 : decide (u ≤ 1152921504606846975) = true := decide_eq_true h5
    have t6 : decide (0 ≤ v) = false := decide_eq_false h6
    clear hR h0 h1 h2 h3 h4 h5 h6
    go_enter Try.func34, Try.ntmps34
    go_wp2
    go_ret
    rw [HR.out]
    exact ⟨rfl, (Below.refl _ _).alloc (Nat.le_refl _) _⟩
  by_cases h7 : v ≤ 1152921504606846975
  case neg =>
    have HR : Hid (R = false) := Lib.hid (by cases R with | false => rfl | true => exact absurd (hR.1 rfl) (by omega))
    have t0 : decide (-1152921504606846976 ≤ x) = true := decide_eq_true h0
    have t1 : decide (x ≤ 1152921504606846975) = true := decide_eq_true h1
    have t2 : decide (-1152921504606846976 ≤ y) = true := decide_eq_true h2
    have t3 : decide (y ≤ 1152921504606846975) = true := decide_eq_true h3
    have t4 : decide (0 ≤ u) = true := decide_eq_true h4
    have t5 : decide (u ≤ 1152921504606846975) = true := decide_eq_true h5
    have t6 : decide (0 ≤ v) = true := decide_eq_true h6
    have t7 : decide (v ≤ 1152921504606846975) = false := decide_eq_false h7
    clear hR h0 h1 h2 h3 h4 h5 h6 h7
    go_enter Try.func34, Try.ntmps34
    go_wp2
    go_ret
    rw [HR.out]
    exact ⟨rfl, (Below.refl _ _).alloc (Nat.le_refl _) _⟩
  have HR : Hid (R = true) := Lib.hid (hR.2 (by omega))
  have t0 : decide (-1152921504606846976 ≤ x) = true := decide_eq_true h0
  have t1 : decide (x ≤ 1152921504606846975) = true := decide_eq_true h1
  have t2 : decide (-1152921504606846976 ≤ y) = true := decide_eq_true h2
  have t3 : decide (y ≤ 1152921504606846975) = true := decide_eq_true h3
  have t4 : decide (0 ≤ u) = true := decide_eq_true h4
  have t5 : decide (u ≤ 1152921504606846975) = true := decide_eq_true h5
  have t6 : decide (0 ≤ v) = true := decide_eq_true h6
  have t7 : decide (v ≤ 1152921504606846975) = true := decide_eq_true h7
  clear hR h0 h1 h2 h3 h4 h5 h6 h7
  go_enter Try.func34, Try.ntmps34
  go_wp2
  go_ret
  rw [HR.out]
  exact ⟨rfl, (Below.refl _ _).alloc (Nat.le_refl _) _⟩

/-- where two meet -/
def meet (a b : Rect) : Rect :=
  if right a = true ∧ right b = true ∧ max a.x b.x < min (a.x + a.w) (b.x + b.w) ∧ max a.y b.y < min (a.y + a.h) (b.y + b.h) then
    ⟨max a.x b.x, max a.y b.y, min (a.x + a.w) (b.x + b.w) - max a.x b.x, min (a.y + a.h) (b.y + b.h) - max a.y b.y⟩
  else ⟨0, 0, 0, 0⟩

def erM (a b : Rect) : Int := if right a = true ∧ right b = true then 0 else 20

/-- a block of a rectangle -/
structure RRow (W : World) (B : Nat) (s : Rect) : Prop where
  at_ : W.heap[B]? = some (.cells s.arr 47 (0, 0))

theorem RRow.lt {W : World} {B : Nat} {s : Rect} (h : RRow W B s) : B < W.heap.size := (Array.getElem?_eq_some_iff.1 h.at_).1

theorem RRow.new (W : World) (s : Rect) : RRow (W.alloc (.cells s.arr 47)) W.heap.size s := ⟨heap_alloc_new _ _⟩

theorem RRow.turn {W W' : World} {B : Nat} {s : Rect} (h : RRow W B s) (hb : Below W.heap.size W W') : RRow W' B s := ⟨(hb.block B h.lt).trans h.at_⟩

theorem RRow.cells {W : World} {B : Nat} {s : Rect} (h : RRow W B s) : W.cell? ⟨B, 0, none⟩ = some (.int .i64 s.x) ∧ W.cell? ⟨B, 1, none⟩ = some (.int .i64 s.y) ∧ W.cell? ⟨B, 2, none⟩ = some (.int .i64 s.w) ∧ W.cell? ⟨B, 3, none⟩ = some (.int .i64 s.h) := by
  simp [World.cell?, h.at_, Rect.arr]

theorem RRow.frozen {W : World} {B : Nat} {s : Rect} (h : RRow W B s) (i : Nat) : W.frozen? ⟨B, i, none⟩ = false := by simp [World.frozen?, h.at_]

theorem three_rows (w : World) (a b c : Rect) : RRow (((w.alloc (.cells a.arr 47)).alloc (.cells b.arr 47)).alloc (.cells c.arr 47)) w.heap.size a ∧ RRow (((w.alloc (.cells a.arr 47)).alloc (.cells b.arr 47)).alloc (.cells c.arr 47)) (w.heap.size + 1) b ∧ RRow (((w.alloc (.cells a.arr 47)).alloc (.cells b.arr 47)).alloc (.cells c.arr 47)) (w.heap.size + 2) c ∧
    Below w.heap.size w (((w.alloc (.cells a.arr 47)).alloc (.cells b.arr 47)).alloc (.cells c.arr 47)) ∧ (((w.alloc (.cells a.arr 47)).alloc (.cells b.arr 47)).alloc (.cells c.arr 47)).heap.size = w.heap.size + 1 + 1 + 1 := by
  have h1 := (Below.refl (w.alloc (.cells a.arr 47)).heap.size (w.alloc (.cells a.arr 47))).alloc (Nat.le_refl _) (.cells b.arr 47)
  have h2 := (Below.refl ((w.alloc (.cells a.arr 47)).alloc (.cells b.arr 47)).heap.size ((w.alloc (.cells a.arr 47)).alloc (.cells b.arr 47))).alloc (Nat.le_refl _) (.cells c.arr 47)
  have r1 := RRow.new (w.alloc (.cells a.arr 47)) b
  have r2 := RRow.new ((w.alloc (.cells a.arr 47)).alloc (.cells b.arr 47)) c
  rw [World.size_alloc] at r1
  rw [World.size_alloc, World.size_alloc] at r2
  exact ⟨((RRow.new w a).turn h1).turn h2, r1.turn h2, r2, (((Below.refl _ w).alloc (Nat.le_refl _) _).alloc (by simp) _).alloc (by simp; omega) _, by simp⟩

set_option maxRecDepth 100000 in
set_option maxHeartbeats 4000000 in
theorem c13 (a b : Rect) (w : World) : Calls Try.prog 36 #[.agg a.arr, .agg b.arr] w fun e w' => e = .returned (.tuple #[.agg (meet a b).arr, .int .i64 (erM a b)]) ∧ Below w.heap.size w w' := by
  obtain ⟨q0, q1, q2, hB, hsz⟩ := three_rows w a b ⟨0, 0, 0, 0⟩
  have CA := Lib.hid (c15 a)
  have CB := Lib.hid (c15 b)
  obtain ⟨x, y, u, v⟩ := a
  obtain ⟨x', y', u', v'⟩ := b
  have HM : Hid (right ⟨x, y, u, v⟩ = true ∧ right ⟨x', y', u', v'⟩ = true → meet ⟨x, y, u, v⟩ ⟨x', y', u', v'⟩ = if max x x' < min (x + u) (x' + u') ∧ max y y' < min (y + v) (y' + v') then ⟨max x x', max y y', min (x + u) (x' + u') - max x x', min (y + v) (y' + v') - max y y'⟩ else ⟨0, 0, 0, 0⟩) := Lib.hid fun h => by
    unfold meet; simp [h]
  have HN : Hid (¬ (right ⟨x, y, u, v⟩ = true ∧ right ⟨x', y', u', v'⟩ = true) → meet ⟨x, y, u, v⟩ ⟨x', y', u', v'⟩ = ⟨0, 0, 0, 0⟩) := Lib.hid fun h => by
    unfold meet; rw [if_neg (fun h' => h ⟨h'.1, h'.2.1⟩)]
  have HE : Hid (erM ⟨x, y, u, v⟩ ⟨x', y', u', v'⟩ = if right ⟨x, y, u, v⟩ = true ∧ right ⟨x', y', u', v'⟩ = true then 0 else 20) := Lib.hid rfl
  have HA := Lib.hid (right_iff (r := ⟨x, y, u, v⟩))
  have HA' := Lib.hid (right_iff (r := ⟨x', y', u', v'⟩))
  have Q0 := Lib.hid q0
  have Q1 := Lib.hid q1
  have Q2 := Lib.hid q2
  have HB := Lib.hid hB
  clear q0 q1 q2 hB hsz
  generalize right ⟨x, y, u, v⟩ = p at *
  generalize right ⟨x', y', u', v'⟩ = p' at *
  generalize meet ⟨x, y, u, v⟩ ⟨x', y', u', v'⟩ = M at *
  generalize erM ⟨x, y, u, v⟩ ⟨x', y', u', v'⟩ = E at *
  unfold Rect.arr at *
  dsimp only at *
  go_enter Try.func36, Try.ntmps36
  go_wp2_with (fail)
  generalize ((w.alloc (.cells #[.int .i64 x, .int .i64 y, .int .i64 u, .int .i64 v] 47)).alloc (.cells #[.int .i64 x', .int .i64 y', .int .i64 u', .int .i64 v'] 47)).alloc (.cells #[.int .i64 0, .int .i64 0, .int .i64 0, .int .i64 0] 47) = w0 at *
  refine (CA.out w0).mono ?_
  rintro e w1 ⟨rfl, hb1⟩
  have R0 : Hid (RRow w1 w.heap.size ⟨x, y, u, v⟩) := Lib.hid (Q0.out.turn hb1)
  have R1 : Hid (RRow w1 (w.heap.size + 1) ⟨x', y', u', v'⟩) := Lib.hid (Q1.out.turn hb1)
  have R2 : Hid (RRow w1 (w.heap.size + 1 + 1) ⟨0, 0, 0, 0⟩) := Lib.hid (Q2.out.turn hb1)
  have HB1 := Lib.hid (HB.out.trans (hb1.mono HB.out.size))
  clear hb1 Q0 Q1 Q2 HB CA
  have a0 : w1.cell? ⟨w.heap.size + 1, 0, none⟩ = some (.int .i64 x') := R1.out.cells.1
  have a1 : w1.cell? ⟨w.heap.size + 1, 1, none⟩ = some (.int .i64 y') := R1.out.cells.2.1
  have a2 : w1.cell? ⟨w.heap.size + 1, 2, none⟩ = some (.int .i64 u') := R1.out.cells.2.2.1
  have a3 : w1.cell? ⟨w.heap.size + 1, 3, none⟩ = some (.int .i64 v') := R1.out.cells.2.2.2
  go_wp2_with (fail)
  refine (CB.out w1).mono ?_
  rintro e w2 ⟨rfl, hb2⟩
  clear a0 a1 a2 a3
  have S0 : Hid (RRow w2 w.heap.size ⟨x, y, u, v⟩) := Lib.hid (R0.out.turn hb2)
  have S1 : Hid (RRow w2 (w.heap.size + 1) ⟨x', y', u', v'⟩) := Lib.hid (R1.out.turn hb2)
  have S2 : Hid (RRow w2 (w.heap.size + 1 + 1) ⟨0, 0, 0, 0⟩) := Lib.hid (R2.out.turn hb2)
  have HB2 := Lib.hid (HB1.out.trans (hb2.mono HB1.out.size))
  clear hb2 R0 R1 R2 HB1 CB
  have z0 : w2.cell? ⟨w.heap.size + 1 + 1, 0, none⟩ = some (.int .i64 0) := S2.out.cells.1
  have z1 : w2.cell? ⟨w.heap.size + 1 + 1, 1, none⟩ = some (.int .i64 0) := S2.out.cells.2.1
  have z2 : w2.cell? ⟨w.heap.size + 1 + 1, 2, none⟩ = some (.int .i64 0) := S2.out.cells.2.2.1
  have z3 : w2.cell? ⟨w.heap.size + 1 + 1, 3, none⟩ = some (.int .i64 0) := S2.out.cells.2.2.2
  have f1 := S2.out.frozen
  by_cases hpp : p = true ∧ p' = true
  case neg =>
    have hM := HN.out hpp
    have hE := HE.out
    rw [if_neg hpp] at hE
    subst hM
    subst hE
    clear HA HA' HM HN HE S0 S1
    cases p with
    | false =>
      clear hpp
      go_wp2_with (fail)
      exact ⟨rfl, .tuple #[.agg #[.int .i64 0, .int .i64 0, .int .i64 0, .int .i64 0], .int .i64 20], by simp [results, Try.results36, go_sem, *], rfl, (((HB2.out.setCell (by simp; omega) _).setCell (by simp; omega) _).setCell (by simp; omega) _).setCell (by simp; omega) _⟩
    | true =>
      obtain rfl : p' = false := by cases p' <;> simp at hpp ⊢
      clear hpp
      go_wp2_with (fail)
      exact ⟨rfl, .tuple #[.agg #[.int .i64 0, .int .i64 0, .int .i64 0, .int .i64 0], .int .i64 20], by simp [results, Try.results36, go_sem, *], rfl, (((HB2.out.setCell (by simp; omega) _).setCell (by simp; omega) _).setCell (by simp; omega) _).setCell (by simp; omega) _⟩
  case pos =>
    have hm := HM.out hpp
    have hE := HE.out
    rw [if_pos hpp] at hE
    have hl := HA.out.1 hpp.1
    have hl' := HA'.out.1 hpp.2
    obtain ⟨rfl, rfl⟩ := hpp
    subst hE
    have e1 : (if x < x' then x' else x) = max x x' := by omega
    have e2 : (if y < y' then y' else y) = max y y' := by omega
    have e3 : (if x' + u' < x + u then x' + u' else x + u) = min (x + u) (x' + u') := by omega
    have e4 : (if y' + v' < y + v then y' + v' else y + v) = min (y + v) (y' + v') := by omega
    have x1 : IntKind.i64.wrap (min (x + u) (x' + u') - max x x') = min (x + u) (x' + u') - max x x' := IntWalk.i64_in _ (by omega)
    have x2 : IntKind.i64.wrap (min (y + v) (y' + v') - max y y') = min (y + v) (y' + v') - max y y' := IntWalk.i64_in _ (by omega)
    have x3 := IntWalk.i64_in (x + u) (by omega)
    have x4 := IntWalk.i64_in (x' + u') (by omega)
    have x5 := IntWalk.i64_in (y + v) (by omega)
    have x6 := IntWalk.i64_in (y' + v') (by omega)
    have a0 : w2.cell? ⟨w.heap.size, 0, none⟩ = some (.int .i64 x) := S0.out.cells.1
    have a1 : w2.cell? ⟨w.heap.size, 1, none⟩ = some (.int .i64 y) := S0.out.cells.2.1
    have a2 : w2.cell? ⟨w.heap.size, 2, none⟩ = some (.int .i64 u) := S0.out.cells.2.2.1
    have a3 : w2.cell? ⟨w.heap.size, 3, none⟩ = some (.int .i64 v) := S0.out.cells.2.2.2
    have b0 : w2.cell? ⟨w.heap.size + 1, 0, none⟩ = some (.int .i64 x') := S1.out.cells.1
    have b1 : w2.cell? ⟨w.heap.size + 1, 1, none⟩ = some (.int .i64 y') := S1.out.cells.2.1
    have b2 : w2.cell? ⟨w.heap.size + 1, 2, none⟩ = some (.int .i64 u') := S1.out.cells.2.2.1
    have b3 : w2.cell? ⟨w.heap.size + 1, 3, none⟩ = some (.int .i64 v') := S1.out.cells.2.2.2
    clear HA HA' HM HN HE hl hl' S0 S1
    by_cases k1 : min (x + u) (x' + u') - max x x' ≤ 0
    · rw [if_neg (by omega)] at hm
      subst hm
      have t1 : decide (min (x + u) (x' + u') - max x x' ≤ 0) = true := decide_eq_true k1
      clear k1
      go_wp2_with (fail)
      exact ⟨rfl, .tuple #[.agg #[.int .i64 0, .int .i64 0, .int .i64 0, .int .i64 0], .int .i64 0], by simp [results, Try.results36, go_sem, *], rfl, (((HB2.out.setCell (by simp; omega) _).setCell (by simp; omega) _).setCell (by simp; omega) _).setCell (by simp; omega) _⟩
    · by_cases k2 : min (y + v) (y' + v') - max y y' ≤ 0
      · rw [if_neg (by omega)] at hm
        subst hm
        have t1 : decide (min (x + u) (x' + u') - max x x' ≤ 0) = false := decide_eq_false k1
        have t2 : decide (min (y + v) (y' + v') - max y y' ≤ 0) = true := decide_eq_true k2
        clear k1 k2
        go_wp2_with (fail)
        exact ⟨rfl, .tuple #[.agg #[.int .i64 0, .int .i64 0, .int .i64 0, .int .i64 0], .int .i64 0], by simp [results, Try.results36, go_sem, *], rfl, (((HB2.out.setCell (by simp; omega) _).setCell (by simp; omega) _).setCell (by simp; omega) _).setCell (by simp; omega) _⟩
      · rw [if_pos (by omega)] at hm
        subst hm
        have t1 : decide (min (x + u) (x' + u') - max x x' ≤ 0) = false := decide_eq_false k1
        have t2 : decide (min (y + v) (y' + v') - max y y' ≤ 0) = false := decide_eq_false k2
        clear k1 k2
        go_wp2_with (fail)
        exact ⟨rfl, .tuple #[.agg #[.int .i64 (max x x'), .int .i64 (max y y'), .int .i64 (min (x + u) (x' + u') - max x x'), .int .i64 (min (y + v) (y' + v') - max y y')], .int .i64 0], by simp [results, Try.results36, go_sem, *], rfl, (((HB2.out.setCell (by simp; omega) _).setCell (by simp; omega) _).setCell (by simp; omega) _).setCell (by simp; omega) _⟩

def flat (l : List Rect) : List Value := l.flatMap Rect.cells

theorem flat_cons (s : Rect) (l : List Rect) : flat (s :: l) = s.cells ++ flat l := by simp [flat]

theorem flat_length (l : List Rect) : (flat l).length = l.length * 4 := by
  induction l with
  | nil => rfl
  | cons s l ih => rw [flat_cons, List.length_append, ih, List.length_cons]; show 4 + _ = _; omega

theorem flat_get : ∀ (l : List Rect) (q r : Nat), q < l.length → r < 4 → (flat l)[q * 4 + r]? = ((l[q]?.getD default).cells)[r]?
  | [], q, r, h, _ => by simp at h
  | s :: l, 0, r, _, hr => by
    rw [flat_cons, List.getElem?_append_left (by show 0 * 4 + r < 4; omega), Nat.zero_mul, Nat.zero_add]; rfl
  | s :: l, q + 1, r, h, hr => by
    rw [flat_cons, List.getElem?_append_right (by show 4 ≤ _; omega), show (q + 1) * 4 + r - s.cells.length = q * 4 + r from by show _ - 4 = _; omega, flat_get l q r (by simpa using h) hr]
    rfl

theorem addr_add' (b o i : Nat) : (⟨b, o, none⟩ : Addr).add i = ⟨b, o + i, none⟩ := by
  unfold Addr.add
  split
  · rename_i h; subst h; rfl
  · rfl

theorem rects_news {w : World} {ad : Addr} {l : List Rect} (h : Rects w (some ad) l) : ∀ j u, (flat l)[j]? = some u → w.cell? (ad.add j) = some u := by
  intro j u hu
  have hj := (List.getElem?_eq_some_iff.1 hu).1
  rw [flat_length] at hj
  have hq : j / 4 < l.length := by omega
  obtain ⟨b, off, hA, h0, h1, h2, h3⟩ := h (j / 4) hq
  cases hA
  rw [addr_add']
  have e := flat_get l (j / 4) (j % 4) hq (Nat.mod_lt _ (by omega))
  rw [show j / 4 * 4 + j % 4 = j by omega] at e
  rw [hu] at e
  have hm : j % 4 = 0 ∨ j % 4 = 1 ∨ j % 4 = 2 ∨ j % 4 = 3 := by omega
  rcases hm with hm | hm | hm | hm <;> rw [hm] at e
  · rw [show off + j = off + j / 4 * 4 by omega, h0]; exact e.symm
  · rw [show off + j = off + j / 4 * 4 + 1 by omega, h1]; exact e.symm
  · rw [show off + j = off + j / 4 * 4 + 2 by omega, h2]; exact e.symm
  · rw [show off + j = off + j / 4 * 4 + 3 by omega, h3]; exact e.symm

theorem take_next {xs : List Rect} {j : Nat} (h : j < xs.length) : xs.take (j + 1) = xs.take j ++ [xs[j]?.getD default] := by
  rw [List.take_add_one, List.getElem?_eq_getElem h]; rfl

theorem right_at {l : List Rect} (h : ∀ x ∈ l, right x = true) {k : Nat} (hk : k < l.length) : right (l[k]?.getD default) = true := by
  rw [List.getElem?_eq_getElem hk]
  exact h _ (List.getElem_mem hk)

/-- has a rectangle a point? -/
def atR (r : Rect) (x y : Int) : Bool := decide (r.x ≤ x) && decide (x < r.x + r.w) && (decide (r.y ≤ y) && decide (y < r.y + r.h))

def covRow (r : Rect) (xs ys : List Int) (i : Nat) : Nat → List (Nat × Nat)
  | 0 => []
  | k + 1 => covRow r xs ys i k ++ (if atR r (xs[i]?.getD 0) (ys[k]?.getD 0) = true then [(i, k)] else [])

def covTo (r : Rect) (xs ys : List Int) : Nat → List (Nat × Nat)
  | 0 => []
  | i + 1 => covTo r xs ys i ++ covRow r xs ys i ys.length

theorem covRow_mem {r : Rect} {xs ys : List Int} {i : Nat} {p : Nat × Nat} : ∀ {k}, p ∈ covRow r xs ys i k ↔ p.1 = i ∧ p.2 < k ∧ atR r (xs[p.1]?.getD 0) (ys[p.2]?.getD 0) = true
  | 0 => by simp [covRow]
  | k + 1 => by
    rw [covRow, List.mem_append, covRow_mem]
    obtain ⟨a, b⟩ := p
    dsimp only
    constructor
    · rintro (⟨h1, h2, h3⟩ | h)
      · exact ⟨h1, by omega, h3⟩
      · split at h
        · simp at h; obtain ⟨rfl, rfl⟩ := h; rename_i h'; exact ⟨rfl, by omega, h'⟩
        · simp at h
    · rintro ⟨rfl, h2, h3⟩
      by_cases e : b = k
      · subst e; rw [if_pos h3]; exact .inr (by simp)
      · exact .inl ⟨rfl, by omega, h3⟩

theorem covTo_mem {r : Rect} {xs ys : List Int} {p : Nat × Nat} : ∀ {i}, p ∈ covTo r xs ys i ↔ p.1 < i ∧ p.2 < ys.length ∧ atR r (xs[p.1]?.getD 0) (ys[p.2]?.getD 0) = true
  | 0 => by simp [covTo]
  | i + 1 => by
    rw [covTo, List.mem_append, covTo_mem, covRow_mem]
    constructor
    · rintro (⟨h1, h2⟩ | ⟨h1, h2⟩)
      · exact ⟨by omega, h2⟩
      · exact ⟨by omega, h2⟩
    · rintro ⟨h1, h2⟩
      by_cases e : p.1 = i
      · exact .inr ⟨e, h2⟩
      · exact .inl ⟨by omega, h2⟩

theorem own_block1 {w : World} {base e size n : Nat} {v : Value} {xs : List Value} (h : w.ownsRow base e size v n xs) {g : Nat} (hg : v.ownBlock = some g) : base ≤ g ∧ g < w.heap.size := by
  rcases h.2 with ⟨rfl, _⟩ | ⟨g', cap, cur, rfl, hb, hg', _⟩
  · simp [Value.ownBlock] at hg
  · simp only [Value.ownBlock, Option.some.injEq] at hg
    subst hg
    exact ⟨hb, (Array.getElem?_eq_some_iff.1 hg').1⟩

theorem grown_base1 {base e size n : Nat} {X W1 : World} {v : Value} {l : List Value} (hown : X.ownsRow base e size v n l) (hg : X.grownBy W1 v.ownBlock) (hb : base ≤ X.heap.size) : Below base X W1 :=
  ⟨hg.os, hg.tape, hg.output, hg.size, fun q hq => hg.block q (Nat.lt_of_lt_of_le hq hb) (fun e => by have := (own_block1 hown e.symm).1; omega)⟩

def pairRow (l : List Rect) (i : Nat) : Nat → List (Rect × Rect)
  | 0 => []
  | k + 1 => pairRow l i k ++ [(l[i]?.getD default, l[k]?.getD default)]

def pairTo (l : List Rect) : Nat → List (Rect × Rect)
  | 0 => []
  | i + 1 => pairTo l i ++ pairRow l i i

theorem pairRow_mem {l : List Rect} {i : Nat} {p : Rect × Rect} : ∀ {k}, p ∈ pairRow l i k ↔ ∃ q, q < k ∧ p = (l[i]?.getD default, l[q]?.getD default)
  | 0 => by simp [pairRow]
  | k + 1 => by
    rw [pairRow, List.mem_append, pairRow_mem, List.mem_singleton]
    constructor
    · rintro (⟨q, h1, h2⟩ | h)
      · exact ⟨q, by omega, h2⟩
      · exact ⟨k, by omega, h⟩
    · rintro ⟨q, h1, h2⟩
      by_cases e : q = k
      · subst e; exact .inr h2
      · exact .inl ⟨q, by omega, h2⟩

theorem pairTo_mem {l : List Rect} {p : Rect × Rect} : ∀ {n}, p ∈ pairTo l n ↔ ∃ i q, q < i ∧ i < n ∧ p = (l[i]?.getD default, l[q]?.getD default)
  | 0 => by simp [pairTo]
  | n + 1 => by
    rw [pairTo, List.mem_append, pairTo_mem, pairRow_mem]
    constructor
    · rintro (⟨i, q, h1, h2, h3⟩ | ⟨q, h1, h2⟩)
      · exact ⟨i, q, h1, by omega, h3⟩
      · exact ⟨n, q, h1, by omega, h2⟩
    · rintro ⟨i, q, h1, h2, h3⟩
      by_cases e : i = n
      · subst e; exact .inr ⟨q, h1, h3⟩
      · exact .inl ⟨i, q, h1, by omega, h3⟩

def xsTo (r : Rect) (l : List Rect) (k : Nat) : List Int := r.x :: (l.take k).flatMap fun a => [a.x, a.x + a.w]

def ysTo (r : Rect) (l : List Rect) (k : Nat) : List Int := r.y :: (l.take k).flatMap fun a => [a.y, a.y + a.h]

theorem xsTo_succ (r : Rect) {l : List Rect} {k : Nat} (h : k < l.length) : xsTo r l (k + 1) = xsTo r l k ++ [(l[k]?.getD default).x, (l[k]?.getD default).x + (l[k]?.getD default).w] := by
  unfold xsTo
  rw [take_next h, List.flatMap_append, List.cons_append]; simp

theorem ysTo_succ (r : Rect) {l : List Rect} {k : Nat} (h : k < l.length) : ysTo r l (k + 1) = ysTo r l k ++ [(l[k]?.getD default).y, (l[k]?.getD default).y + (l[k]?.getD default).h] := by
  unfold ysTo
  rw [take_next h, List.flatMap_append, List.cons_append]; simp

theorem xsTo_len (r : Rect) (l : List Rect) : ∀ k, k ≤ l.length → (xsTo r l k).length = 1 + 2 * k
  | 0, _ => by simp [xsTo]
  | k + 1, h => by rw [xsTo_succ r (by omega), List.length_append, xsTo_len r l k (by omega)]; simp; omega

theorem ysTo_len (r : Rect) (l : List Rect) : ∀ k, k ≤ l.length → (ysTo r l k).length = 1 + 2 * k
  | 0, _ => by simp [ysTo]
  | k + 1, h => by rw [ysTo_succ r (by omega), List.length_append, ysTo_len r l k (by omega)]; simp; omega

def xsOf (r : Rect) (l : List Rect) : List Int := xsTo r l l.length

def ysOf (r : Rect) (l : List Rect) : List Int := ysTo r l l.length

/-- the corners that a rectangle has of the places of r and l -/
def cov (r : Rect) (l : List Rect) (a : Rect) : List (Nat × Nat) := covTo a (xsOf r l) (ysOf r l) (xsOf r l).length

/-- rectangles with points tile one -/
def Tl (r : Rect) (l : List Rect) : Prop :=
  (∀ a ∈ l, meet r a = a) ∧ (∀ p ∈ pairTo l l.length, pts (meet p.1 p.2) = false) ∧ (∀ p ∈ cov r l r, ∃ a ∈ l, p ∈ cov r l a)

instance (r : Rect) (l : List Rect) : Decidable (Tl r l) := by unfold Tl; infer_instance

def okT (r : Rect) (l : List Rect) : Bool := right r && (decide (l.length ≤ 400) && !wrongs l)

def tiles (r : Rect) (l : List Rect) : Bool := okT r l && decide (Tl r (l.filter pts))

def erT (r : Rect) (l : List Rect) : Int := if okT r l = true then 0 else 20

theorem okT_iff {r : Rect} {l : List Rect} : okT r l = true ↔ right r = true ∧ l.length ≤ 400 ∧ wrongs l = false := by
  unfold okT
  simp only [Bool.and_eq_true, decide_eq_true_eq, Bool.not_eq_true']

/-- two rows of the call's own: where rectangles begin and end -/
structure XY (base : Nat) (W0 : World) (vx vy : Value) (xs ys : List Int) (W : World) : Prop where
  ox : W.ownsRow base 2 1 vx xs.length (xs.map (Value.int .i64))
  oy : W.ownsRow base 2 1 vy ys.length (ys.map (Value.int .i64))
  below : Below base W0 W
  apart : vx.ownBlock ≠ vy.ownBlock

theorem own_keep1 {w w' : World} {base e size n : Nat} {v : Value} {xs : List Value} (h : w.ownsRow base e size v n xs) (hk : ∀ g, v.ownBlock = some g → g < w.heap.size → w'.heap[g]? = w.heap[g]?) : w'.ownsRow base e size v n xs := by
  refine ⟨h.1, ?_⟩
  rcases h.2 with h' | ⟨g, cap, cur, rfl, hb, hg, h1, h2, h3, h4⟩
  · exact .inl h'
  · exact .inr ⟨g, cap, cur, rfl, hb, (hk g rfl (Array.getElem?_eq_some_iff.1 hg).1).trans hg, h1, h2, h3, h4⟩

theorem XY.turn {base : Nat} {W0 W W' : World} {vx vy : Value} {xs ys : List Int} (h : XY base W0 vx vy xs ys W) (hb : Below W.heap.size W W') (hbase : base ≤ W0.heap.size) : XY base W0 vx vy xs ys W' :=
  ⟨own_keep1 h.ox fun g _ hg => hb.block g hg, own_keep1 h.oy fun g _ hg => hb.block g hg, h.below.trans (hb.mono (Nat.le_trans hbase h.below.size)), h.apart⟩

theorem ne_block {base : Nat} {W W' : World} {v v' u : Value} {ys : List Int} (ho : W.ownsRow base 2 1 u ys.length (ys.map (Value.int .i64))) (ha : v.ownBlock ≠ u.ownBlock) (hy : u.ownBlock ≠ none) (hv : v'.ownBlock = v.ownBlock ∨ v'.ownBlock = some W.heap.size) : v'.ownBlock ≠ u.ownBlock := by
  rcases hv with hv | hv
  · rw [hv]; exact ha
  · rw [hv]
    intro e
    have := (own_block1 ho e.symm).2
    omega

theorem own_ne {base n : Nat} {W : World} {u : Value} {ys : List Value} (ho : W.ownsRow base 2 1 u n ys) (h : 0 < n) : u.ownBlock ≠ none := by
  rcases ho.2 with ⟨_, h0⟩ | ⟨g, cap, cur, rfl, _⟩
  · omega
  · simp [Value.ownBlock]

theorem XY.appx {base : Nat} {W0 W W' : World} {vx vy v' : Value} {xs ys : List Int} {a b : Int} (h : XY base W0 vx vy xs ys W) (hbase : base ≤ W0.heap.size) (hy : 0 < ys.length)
    (h1 : W'.ownsRow base 2 1 v' (xs.length + 2) (xs.map (Value.int .i64) ++ [.int .i64 a, .int .i64 b])) (hg : W.grownBy W' vx.ownBlock) (hv : v'.ownBlock = vx.ownBlock ∨ v'.ownBlock = some W.heap.size) : XY base W0 v' vy (xs ++ [a, b]) ys W' :=
  ⟨by simpa using h1, own_keep1 h.oy fun g e hgl => hg.block g hgl (fun e' => h.apart (by rw [← e', e])), h.below.trans (grown_base1 h.ox hg (Nat.le_trans hbase h.below.size)), ne_block (W' := W') h.oy h.apart (own_ne h.oy hy) hv⟩

theorem XY.appy {base : Nat} {W0 W W' : World} {vx vy v' : Value} {xs ys : List Int} {a b : Int} (h : XY base W0 vx vy xs ys W) (hbase : base ≤ W0.heap.size) (hx : 0 < xs.length)
    (h1 : W'.ownsRow base 2 1 v' (ys.length + 2) (ys.map (Value.int .i64) ++ [.int .i64 a, .int .i64 b])) (hg : W.grownBy W' vy.ownBlock) (hv : v'.ownBlock = vy.ownBlock ∨ v'.ownBlock = some W.heap.size) : XY base W0 vx v' xs (ys ++ [a, b]) W' :=
  ⟨own_keep1 h.ox fun g e hgl => hg.block g hgl (fun e' => h.apart (by rw [← e', e])), by simpa using h1, h.below.trans (grown_base1 h.oy hg (Nat.le_trans hbase h.below.size)), fun e => ne_block (W' := W') h.ox (Ne.symm h.apart) (own_ne h.ox hx) hv e.symm⟩

theorem ints_of_row {w : World} {base n : Nat} {v : Value} {l : List Int} (h : w.ownsRow base 2 1 v n (l.map (Value.int .i64))) (hn : n = l.length) : ∃ A c, v = .slice A n c ∧ Ints w A l := by
  have hc := fun g hg => h.cells (g := g) hg
  rcases h.2 with ⟨rfl, h0⟩ | ⟨g, cap, cur, rfl, hb, hg, h4, _⟩
  · subst h0; exact ⟨none, 0, rfl, fun j hj => by omega⟩
  · refine ⟨_, cap, rfl, fun j hj => ⟨g, 0, rfl, ?_⟩⟩
    have := hc g rfl j (.int .i64 (l[j]?.getD 0)) (by simp [List.getElem?_eq_getElem hj])
    rw [addr_add'] at this
    exact this

theorem info2 : (Try.prog.info? 2).map (fun i => (i.zero, i.size, i.bytes)) = some (some (.int .i64 0), 1, 8) := by kernel_rfl

theorem none_iff {r : Rect} (h : right r = true) : (!pts r) = (if r.w = 0 then true else decide (r.h = 0)) := by
  have := right_iff.1 h
  unfold pts
  by_cases hw : r.w = 0
  · rw [if_pos hw, decide_eq_false (show ¬ 0 < r.w by omega)]; rfl
  · rw [if_neg hw, decide_eq_true (show 0 < r.w by omega), Bool.true_and]
    by_cases hh : r.h = 0
    · rw [decide_eq_true hh, decide_eq_false (by omega)]; rfl
    · rw [decide_eq_false hh, decide_eq_true (by omega)]; rfl

theorem meet_comm (a b : Rect) : meet a b = meet b a := by
  unfold meet
  rw [Int.max_comm b.x, Int.max_comm b.y, Int.min_comm (b.x + b.w), Int.min_comm (b.y + b.h)]
  by_cases h : right a = true ∧ right b = true ∧ max a.x b.x < min (a.x + a.w) (b.x + b.w) ∧ max a.y b.y < min (a.y + a.h) (b.y + b.h)
  · rw [if_pos h, if_pos ⟨h.2.1, h.1, h.2.2⟩]
  · rw [if_neg h, if_neg fun q => h ⟨q.2.1, q.1, q.2.2⟩]

theorem Rects.take {w : World} {A : Option Addr} {xs : List Rect} (h : Rects w A xs) (n : Nat) : Rects w A (xs.take n) := fun j hj => by
  have h1 : j < n ∧ j < xs.length := by rw [List.length_take] at hj; omega
  obtain ⟨b, o, hA, hr⟩ := h j h1.2
  refine ⟨b, o, hA, ?_⟩
  rw [List.getElem?_take_of_lt h1.1]
  exact hr

def fl (xs : List Rect) (k : Nat) : List Rect := (xs.take k).filter pts

theorem fl_no {xs : List Rect} {k : Nat} (hk : k < xs.length) (h : pts (xs[k]?.getD default) = false) : fl xs (k + 1) = fl xs k := by
  unfold fl
  rw [take_next hk, List.filter_append, List.filter_cons_of_neg (by rw [h]; simp), List.filter_nil, List.append_nil]

theorem fl_yes {xs : List Rect} {k : Nat} (hk : k < xs.length) (h : pts (xs[k]?.getD default) = true) : fl xs (k + 1) = fl xs k ++ [xs[k]?.getD default] := by
  unfold fl
  rw [take_next hk, List.filter_append, List.filter_cons_of_pos h, List.filter_nil]

theorem none_pts {r : Rect} (h : right r = true) : (decide (r.w = 0) || decide (r.h = 0)) = !pts r := by
  rw [none_iff h]
  by_cases hw : r.w = 0
  · rw [if_pos hw, decide_eq_true hw, Bool.true_or]
  · rw [if_neg hw, decide_eq_false hw, Bool.false_or]

theorem RRow.store_x {W : World} {B : Nat} {s : Rect} (h : RRow W B s) (n : Int) : RRow (W.setCell ⟨B, 0, none⟩ (.int .i64 n)) B ⟨n, s.y, s.w, s.h⟩ := ⟨by simp [World.setCell, Array.getElem?_modify, h.at_, Rect.arr]⟩

theorem RRow.store_y {W : World} {B : Nat} {s : Rect} (h : RRow W B s) (n : Int) : RRow (W.setCell ⟨B, 1, none⟩ (.int .i64 n)) B ⟨s.x, n, s.w, s.h⟩ := ⟨by simp [World.setCell, Array.getElem?_modify, h.at_, Rect.arr]⟩

theorem RRow.store_w {W : World} {B : Nat} {s : Rect} (h : RRow W B s) (n : Int) : RRow (W.setCell ⟨B, 2, none⟩ (.int .i64 n)) B ⟨s.x, s.y, n, s.h⟩ := ⟨by simp [World.setCell, Array.getElem?_modify, h.at_, Rect.arr]⟩

theorem RRow.store_h {W : World} {B : Nat} {s : Rect} (h : RRow W B s) (n : Int) : RRow (W.setCell ⟨B, 3, none⟩ (.int .i64 n)) B ⟨s.x, s.y, s.w, n⟩ := ⟨by simp [World.setCell, Array.getElem?_modify, h.at_, Rect.arr]⟩

set_option maxHeartbeats 2000000 in
theorem c39 (r : Rect) (p q : Int) (w : World) (hr : right r = true) :
    Calls Try.prog 37 #[.agg r.arr, .int .i64 p, .int .i64 q] w fun e w' => e = .returned (.bool (atR r p q)) ∧ Below w.heap.size w w' := by
  have hb := right_iff.1 hr
  have HR := Lib.hid (RRow.new w r)
  have HB := Lib.hid ((Below.refl _ w).alloc (Nat.le_refl _) (.cells r.arr 47))
  have Hd : Hid (atR r p q = (decide (r.x ≤ p) && decide (p < r.x + r.w) && (decide (r.y ≤ q) && decide (q < r.y + r.h)))) := Lib.hid rfl
  obtain ⟨x, y, u, v⟩ := r
  dsimp only at hb Hd
  have w1 : IntKind.i64.wrap (x + u) = x + u := IntWalk.i64_in _ (by omega)
  have w2 : IntKind.i64.wrap (y + v) = y + v := IntWalk.i64_in _ (by omega)
  clear hb hr
  generalize atR ⟨x, y, u, v⟩ p q = t at *
  unfold Rect.arr at *
  dsimp only at *
  have p0 : (w.alloc (.cells #[.int .i64 x, .int .i64 y, .int .i64 u, .int .i64 v] 47)).cell? ⟨w.heap.size, 0, none⟩ = some (.int .i64 x) := HR.out.cells.1
  have p1 : (w.alloc (.cells #[.int .i64 x, .int .i64 y, .int .i64 u, .int .i64 v] 47)).cell? ⟨w.heap.size, 1, none⟩ = some (.int .i64 y) := HR.out.cells.2.1
  have p2 : (w.alloc (.cells #[.int .i64 x, .int .i64 y, .int .i64 u, .int .i64 v] 47)).cell? ⟨w.heap.size, 2, none⟩ = some (.int .i64 u) := HR.out.cells.2.2.1
  have p3 : (w.alloc (.cells #[.int .i64 x, .int .i64 y, .int .i64 u, .int .i64 v] 47)).cell? ⟨w.heap.size, 3, none⟩ = some (.int .i64 v) := HR.out.cells.2.2.2
  cases h1 : decide (x ≤ p)
  · have hd := Hd.out
    rw [h1] at hd
    simp only [Bool.false_and] at hd
    subst hd
    go_enter Try.func37, Try.ntmps37
    go_wp2_with (fail)
    go_ret
    exact ⟨rfl, HB.out⟩
  cases h2 : decide (p < x + u)
  · have hd := Hd.out
    rw [h1, h2] at hd
    simp only [Bool.false_and, Bool.true_and] at hd
    subst hd
    go_enter Try.func37, Try.ntmps37
    go_wp2_with (fail)
    go_ret
    exact ⟨rfl, HB.out⟩
  cases h3 : decide (y ≤ q)
  · have hd := Hd.out
    rw [h1, h2, h3] at hd
    simp only [Bool.false_and, Bool.true_and] at hd
    subst hd
    go_enter Try.func37, Try.ntmps37
    go_wp2_with (fail)
    go_ret
    exact ⟨rfl, HB.out⟩
  cases h4 : decide (q < y + v)
  · have hd := Hd.out
    rw [h1, h2, h3, h4] at hd
    simp only [Bool.true_and] at hd
    subst hd
    go_enter Try.func37, Try.ntmps37
    go_wp2_with (fail)
    go_ret
    exact ⟨rfl, HB.out⟩
  · have hd := Hd.out
    rw [h1, h2, h3, h4] at hd
    simp only [Bool.true_and] at hd
    subst hd
    go_enter Try.func37, Try.ntmps37
    go_wp2_with (fail)
    go_ret
    exact ⟨rfl, HB.out⟩

def hasR (xs : List Rect) (p q : Int) : Bool := xs.any fun a => atR a p q

theorem hasR_at {xs : List Rect} {p q : Int} {k : Nat} (hk : k < xs.length) (h : atR (xs[k]?.getD default) p q = true) : hasR xs p q = true := by
  unfold hasR
  rw [List.any_eq_true]
  refine ⟨xs[k], List.getElem_mem hk, ?_⟩
  rw [List.getElem?_eq_getElem hk] at h
  exact h

theorem hasR_none {xs : List Rect} {p q : Int} (h : ∀ j, j < xs.length → atR (xs[j]?.getD default) p q = false) : hasR xs p q = false := by
  unfold hasR
  rw [Bool.eq_false_iff, ne_eq, List.any_eq_true]
  rintro ⟨a, ha, h1⟩
  obtain ⟨k, hk, rfl⟩ := List.getElem_of_mem ha
  have := h k hk
  rw [List.getElem?_eq_getElem hk] at this
  rw [show (some xs[k]).getD default = xs[k] from rfl] at this
  rw [this] at h1
  cases h1

set_option maxHeartbeats 2000000 in
theorem c40 (A : Option Addr) (xs : List Rect) (c : Nat) (p q : Int) (w : World) (hx : Rects w A xs) (hr : ∀ a ∈ xs, right a = true) (hl : xs.length ≤ 17592186044416) :
    Calls Try.prog 38 #[.slice A xs.length c, .int .i64 p, .int .i64 q] w fun e w' => e = .returned (.bool (hasR xs p q)) ∧ Below w.heap.size w w' := by
  have Hx := Lib.hid hx
  have Hr := Lib.hid hr
  have H1 := Lib.hid (fun k (hk : k < xs.length) => @hasR_at xs p q k hk)
  have H0 := Lib.hid (@hasR_none xs p q)
  clear hx hr
  generalize hasR xs p q = t at *
  go_enter Try.func38, Try.ntmps38
  go_wp2_with (fail)
  go_loopw [7] (fun i wr => ∃ k : Nat, k ≤ xs.length ∧ i = .int .i64 k ∧ Hid (Below w.heap.size w wr) ∧ Hid (∀ j, j < k → atR (xs[j]?.getD default) p q = false)) (fun i _ => xs.length - (intOf i).toNat)
  case atStart => exact ⟨0, Nat.zero_le _, rfl, Lib.hid (Below.refl _ _), Lib.hid fun j hj => absurd hj (Nat.not_lt_zero j)⟩
  case round =>
    obtain ⟨k, hk, rfl, HB, HP⟩ := hrel
    by_cases hlt : k < xs.length
    · have ti : decide ((k : Int) < (xs.length : Int)) = true := decide_eq_true (by omega)
      obtain ⟨r, b, off, hrk, rfl, hc⟩ := (Hx.out.below HB.out).get k hlt
      have Hk1 := Lib.hid (H1.out k hlt)
      have Hpn : Hid (atR (xs[k]?.getD default) p q = false → ∀ j, j < k + 1 → atR (xs[j]?.getD default) p q = false) := Lib.hid fun h j hj => by
        by_cases e : j = k
        · subst e; exact h
        · exact HP.out j (by omega)
      have hra := right_at Hr.out hlt
      rw [hrk.out] at Hk1 Hpn hra
      have C39 := Lib.hid (fun W => c39 r p q W hra)
      generalize atR r p q = tr at *
      obtain ⟨x, y, u, v⟩ := r
      obtain ⟨q0, q1, q2, q3⟩ := hc
      unfold Rect.arr at C39
      dsimp only at C39 q0 q1 q2 q3
      clear hrk hra
      go_wp2_with (fail)
      refine (C39.out _).mono ?_
      rintro e w2 ⟨rfl, hb⟩
      have SB := Lib.hid (HB.out.trans (hb.mono HB.out.size))
      clear hb C39 q0 q1 q2 q3
      cases tr with
      | true =>
        obtain rfl := Hk1.out rfl
        clear Hpn Hk1
        go_wp2_with (fail)
        go_ret
        exact ⟨rfl, SB.out⟩
      | false =>
        have Hpn1 := Lib.hid (Hpn.out rfl)
        clear Hpn Hk1
        go_wp2_with (fail)
        go_roundw
        case rel => exact ⟨k + 1, by omega, by go_num, SB, Hpn1⟩
        case measure => simp [intOf]; omega
    · obtain rfl : k = xs.length := by omega
      have ti : decide ((xs.length : Int) < (xs.length : Int)) = false := decide_eq_false (by omega)
      obtain rfl := H0.out HP.out
      go_wp2_with (fail)
      go_ret
      exact ⟨rfl, HB.out⟩

def XR (r : Rect) (l : List Rect) (k : Nat) : List Int := xsTo r (fl l k) (fl l k).length

def YR (r : Rect) (l : List Rect) (k : Nat) : List Int := ysTo r (fl l k) (fl l k).length

theorem xsTo_all (r : Rect) (l : List Rect) : xsTo r l l.length = r.x :: l.flatMap fun a => [a.x, a.x + a.w] := by unfold xsTo; rw [List.take_length]

theorem ysTo_all (r : Rect) (l : List Rect) : ysTo r l l.length = r.y :: l.flatMap fun a => [a.y, a.y + a.h] := by unfold ysTo; rw [List.take_length]

theorem XR_no {r : Rect} {l : List Rect} {k : Nat} (hk : k < l.length) (h : pts (l[k]?.getD default) = false) : XR r l (k + 1) = XR r l k := by unfold XR; rw [fl_no hk h]

theorem YR_no {r : Rect} {l : List Rect} {k : Nat} (hk : k < l.length) (h : pts (l[k]?.getD default) = false) : YR r l (k + 1) = YR r l k := by unfold YR; rw [fl_no hk h]

theorem XR_yes {r : Rect} {l : List Rect} {k : Nat} (hk : k < l.length) (h : pts (l[k]?.getD default) = true) : XR r l (k + 1) = XR r l k ++ [(l[k]?.getD default).x, (l[k]?.getD default).x + (l[k]?.getD default).w] := by
  unfold XR; rw [fl_yes hk h, xsTo_all, xsTo_all, List.flatMap_append]; simp

theorem YR_yes {r : Rect} {l : List Rect} {k : Nat} (hk : k < l.length) (h : pts (l[k]?.getD default) = true) : YR r l (k + 1) = YR r l k ++ [(l[k]?.getD default).y, (l[k]?.getD default).y + (l[k]?.getD default).h] := by
  unfold YR; rw [fl_yes hk h, ysTo_all, ysTo_all, List.flatMap_append]; simp

theorem fl_len (l : List Rect) (k : Nat) : (fl l k).length ≤ k := by
  unfold fl
  exact Nat.le_trans (List.length_filter_le _ _) (by rw [List.length_take]; omega)

theorem XR_len (r : Rect) (l : List Rect) (k : Nat) : 0 < (XR r l k).length ∧ (XR r l k).length ≤ 1 + 2 * k := by
  unfold XR
  rw [xsTo_len r _ _ (Nat.le_refl _)]
  have := fl_len l k
  omega

theorem YR_len (r : Rect) (l : List Rect) (k : Nat) : 0 < (YR r l k).length ∧ (YR r l k).length ≤ 1 + 2 * k := by
  unfold YR
  rw [ysTo_len r _ _ (Nat.le_refl _)]
  have := fl_len l k
  omega

theorem fl_all (l : List Rect) : fl l l.length = l.filter pts := by unfold fl; rw [List.take_length]

def TR (r : Rect) (l : List Rect) : Prop :=
  (∀ i, i < l.length → pts (l[i]?.getD default) = true → meet r (l[i]?.getD default) = l[i]?.getD default ∧ ∀ k, k < i → pts (meet (l[k]?.getD default) (l[i]?.getD default)) = false) ∧
  (∀ i, i < (XR r l l.length).length → ∀ j, j < (YR r l l.length).length → atR r ((XR r l l.length)[i]?.getD 0) ((YR r l l.length)[j]?.getD 0) = true → hasR l ((XR r l l.length)[i]?.getD 0) ((YR r l l.length)[j]?.getD 0) = true)

theorem meet_nopts {a b : Rect} (h : pts a = false) (ha : right a = true) : pts (meet a b) = false := by
  have hb := right_iff.1 ha
  unfold meet
  split
  · next q =>
    exfalso
    unfold pts at h
    simp only [Bool.and_eq_false_iff, decide_eq_false_iff_not] at h
    omega
  · decide

theorem atR_pts {a : Rect} {x y : Int} (h : atR a x y = true) : pts a = true := by
  unfold atR at h
  unfold pts
  simp only [Bool.and_eq_true, decide_eq_true_eq] at h ⊢
  omega

theorem hasR_iff {l : List Rect} {x y : Int} : hasR l x y = true ↔ ∃ a ∈ l.filter pts, atR a x y = true := by
  unfold hasR
  rw [List.any_eq_true]
  constructor
  · rintro ⟨a, h1, h2⟩; exact ⟨a, List.mem_filter.2 ⟨h1, atR_pts h2⟩, h2⟩
  · rintro ⟨a, h1, h2⟩; exact ⟨a, (List.mem_filter.1 h1).1, h2⟩

theorem getD_at {l : List Rect} {i : Nat} (h : i < l.length) : l[i]?.getD default = l[i] := by rw [List.getElem?_eq_getElem h]; rfl

theorem pair_iff {l : List Rect} : (∀ p ∈ pairTo l l.length, pts (meet p.1 p.2) = false) ↔ l.Pairwise fun a b => pts (meet b a) = false := by
  rw [List.pairwise_iff_getElem]
  constructor
  · intro h i j hi hj hij
    have := h (l[j], l[i]) (pairTo_mem.2 ⟨j, i, hij, hj, by rw [getD_at hi, getD_at hj]⟩)
    exact this
  · intro h p hp
    obtain ⟨i, q, h1, h2, rfl⟩ := pairTo_mem.1 hp
    rw [getD_at h2, getD_at (show q < l.length by omega)]
    exact h q i (by omega) h2 h1

theorem tl_iff {r : Rect} {l : List Rect} (hl : ∀ a ∈ l, right a = true) : Tl r (l.filter pts) ↔ TR r l := by
  unfold Tl TR
  rw [pair_iff, List.pairwise_filter, List.pairwise_iff_getElem]
  have e3 : (∀ p ∈ cov r (l.filter pts) r, ∃ a ∈ l.filter pts, p ∈ cov r (l.filter pts) a) ↔ (∀ i, i < (XR r l l.length).length → ∀ j, j < (YR r l l.length).length → atR r ((XR r l l.length)[i]?.getD 0) ((YR r l l.length)[j]?.getD 0) = true → hasR l ((XR r l l.length)[i]?.getD 0) ((YR r l l.length)[j]?.getD 0) = true) := by
    unfold cov XR YR xsOf ysOf
    rw [fl_all]
    constructor
    · intro h i hi j hj ha
      obtain ⟨a, h1, h2⟩ := h (i, j) (covTo_mem.2 ⟨hi, hj, ha⟩)
      exact hasR_iff.2 ⟨a, h1, (covTo_mem.1 h2).2.2⟩
    · intro h p hp
      obtain ⟨h1, h2, h3⟩ := covTo_mem.1 hp
      obtain ⟨a, h4, h5⟩ := hasR_iff.1 (h p.1 h1 p.2 h2 h3)
      exact ⟨a, h4, covTo_mem.2 ⟨h1, h2, h5⟩⟩
  rw [e3]
  constructor
  · rintro ⟨h1, h2, h3⟩
    refine ⟨fun i hi hp => ?_, h3⟩
    rw [getD_at hi] at hp ⊢
    refine ⟨h1 _ (List.mem_filter.2 ⟨List.getElem_mem hi, hp⟩), fun k hk => ?_⟩
    have hk' : k < l.length := by omega
    rw [getD_at hk']
    cases hpk : pts l[k] with
    | false => exact meet_nopts hpk (hl _ (List.getElem_mem hk'))
    | true => rw [meet_comm]; exact h2 k i hk' hi hk hpk hp
  · rintro ⟨h1, h3⟩
    refine ⟨fun a ha => ?_, fun k i hk hi hki hpk hp => ?_, h3⟩
    · obtain ⟨h4, h5⟩ := List.mem_filter.1 ha
      obtain ⟨i, hi, rfl⟩ := List.getElem_of_mem h4
      have := (h1 i hi (by rw [getD_at hi]; exact h5)).1
      rw [getD_at hi] at this
      exact this
    · have := (h1 i hi (by rw [getD_at hi]; exact hp)).2 k hki
      rw [getD_at hi, getD_at hk] at this
      rw [meet_comm]
      exact this

theorem none_meet (a b : Rect) : (decide ((meet a b).w = 0) || decide ((meet a b).h = 0)) = !pts (meet a b) := by
  unfold meet
  split
  · next q =>
    unfold pts
    dsimp only
    rw [decide_eq_false (by omega), decide_eq_false (by omega), decide_eq_true (by omega), decide_eq_true (by omega)]
    rfl
  · decide

theorem Rects.cells_at {w : World} {b off : Nat} {xs : List Rect} (h : Rects w (some ⟨b, off, none⟩) xs) {k : Nat} (hk : k < xs.length) : RectAt w b (off + k * 4) (xs[k]?.getD default) := by
  obtain ⟨b', o', hA, hr⟩ := h k hk
  cases hA
  exact hr

theorem wp_app_two {o : Oper} {a : Act} {w : World} {K : Act → World → Prop} {Q : Exit → Act → World → Prop} (s x : Operand) (ho : o.op = .call { callee := .builtin .append, args := #[s, x], argTypes := #[22, 22] })
    (base : Nat) (v : Value) (n : Nat) (l : List Int) (hs : a.eval s = v) (hown : w.ownsRow base 2 1 v n (l.map (Value.int .i64))) (B : Nat) (p q : Int) (hx : a.eval x = .slice (some ⟨B, 0, none⟩) 2 2)
    (hc : w.heap[B]? = some (.cells #[.int .i64 p, .int .i64 q] 2 (0, 0))) (hn : n ≤ 1000000) (hbase : base ≤ w.heap.size)
    (h : ∀ v' w', w'.ownsRow base 2 1 v' (n + 2) (l.map (Value.int .i64) ++ [.int .i64 p, .int .i64 q]) → w.grownBy w' v.ownBlock → (v'.ownBlock = v.ownBlock ∨ v'.ownBlock = some w.heap.size) → K (a.put o.dst v') w') :
    o.wp Try.prog a w K Q := by
  obtain ⟨j0, hj, hj0, hj1, hj2⟩ := info_parts info2
  obtain ⟨v', w', hr, h2, h3, h4, h5⟩ := run_append_own_at (P := Try.prog) w base 22 o.type 2 j0 _ 1 8 Try.underlying22 hj hj0 hj1 hj2 rfl (by decide) v n _ hown ⟨B, 0, none⟩ 2 2 [.int .i64 p, .int .i64 q] rfl (fun j u hu => by
    match j, hu with
    | 0, hu => simp at hu; subst hu; rw [addr_add']; unfold World.cell?; rw [hc]; rfl
    | 1, hu => simp at hu; subst hu; rw [addr_add']; unfold World.cell?; rw [hc]; rfl
    | j + 2, hu => simp at hu) (by intro e he; simp only [List.mem_cons, List.not_mem_nil, or_false] at he; rcases he with rfl | rfl <;> rfl) (by unfold maxLen; omega) (by omega) hbase
  unfold Oper.wp execOp
  simp only [ho, resolve, invoke, builtin, Sem.run_bind, Sem.run_pure, Result.andThen_ok, List.map_toArray, List.map_cons, List.map_nil, hs, hx, hr]
  exact h v' w' h2 h3 h5

set_option maxRecDepth 100000 in
set_option maxHeartbeats 4000000 in
theorem c20_wrong (r : Rect) (A : Option Addr) (xs : List Rect) (c : Nat) (w : World) (hx : Rects w A xs) (hl : xs.length ≤ 17592186044416) (ho : okT r xs = false) :
    Calls Try.prog 26 #[.agg r.arr, .slice A xs.length c] w fun e w' => e = .returned (.tuple #[.bool false, .int .i64 20]) ∧ Below w.heap.size w w' := by
  have hb0 : Below w.heap.size w (w.alloc (.cells r.arr 47)) := (Below.refl _ w).alloc (Nat.le_refl _) _
  have Hx := Lib.hid (hx.below hb0)
  have C15 := Lib.hid (fun W => c15 r W)
  have CX := Lib.hid (fun a W => c15 a W)
  have HB0 := Lib.hid hb0
  have HR0 := Lib.hid (RRow.new w r)
  have Ho : Hid (¬ (right r = true ∧ xs.length ≤ 400 ∧ wrongs xs = false)) := Lib.hid fun h => by rw [okT_iff.2 h] at ho; cases ho
  have Hw1 := Lib.hid fun (h : ∀ j, j < xs.length → right (xs[j]?.getD default) = true) => wrongs_none h
  obtain ⟨x, y, u, v⟩ := r
  generalize right ⟨x, y, u, v⟩ = rr at *
  unfold Rect.arr at *
  dsimp only at *
  clear hx hb0 ho
  go_enter Try.func26, Try.ntmps26
  go_wp2_with (fail)
  generalize (w.alloc (.cells #[.int .i64 x, .int .i64 y, .int .i64 u, .int .i64 v] 47)) = w0 at *
  have p0 : w0.cell? ⟨w.heap.size, 0, none⟩ = some (.int .i64 x) := HR0.out.cells.1
  have p1 : w0.cell? ⟨w.heap.size, 1, none⟩ = some (.int .i64 y) := HR0.out.cells.2.1
  have p2 : w0.cell? ⟨w.heap.size, 2, none⟩ = some (.int .i64 u) := HR0.out.cells.2.2.1
  have p3 : w0.cell? ⟨w.heap.size, 3, none⟩ = some (.int .i64 v) := HR0.out.cells.2.2.2
  go_wp2_with (fail)
  refine (C15.out _).mono ?_
  rintro e w1 ⟨rfl, hb1⟩
  have HB1 := Lib.hid (HB0.out.trans (hb1.mono HB0.out.size))
  have Hx1 := Lib.hid (Hx.out.below hb1)
  clear hb1 HB0 Hx C15 p0 p1 p2 p3 HR0
  cases rr with
  | false =>
    clear Ho
    go_wp2_with (fail)
    exact ⟨rfl, _, results_tmp2 rfl _ _ _, rfl, HB1.out⟩
  | true =>
    by_cases h4 : 400 < xs.length
    · have t4 : decide ((400 : Int) < (xs.length : Int)) = true := decide_eq_true (by omega)
      clear Ho
      go_wp2_with (fail)
      exact ⟨rfl, _, results_tmp2 rfl _ _ _, rfl, HB1.out⟩
    · have t4 : decide ((400 : Int) < (xs.length : Int)) = false := decide_eq_false (by omega)
      have Hnw : Hid (¬ wrongs xs = false) := Lib.hid fun h => Ho.out ⟨rfl, by omega, h⟩
      clear Ho
      go_wp2_with (fail)
      go_loopw [7] (fun i wr => ∃ k : Nat, k ≤ xs.length ∧ i = .int .i64 k ∧ Hid (Below w1.heap.size w1 wr) ∧ Hid (∀ j, j < k → right (xs[j]?.getD default) = true)) (fun i _ => xs.length - (intOf i).toNat)
      case atStart => exact ⟨0, Nat.zero_le _, rfl, Lib.hid (Below.refl _ _), Lib.hid fun j hj => absurd hj (Nat.not_lt_zero j)⟩
      case round =>
        obtain ⟨k, hk, rfl, HB, HP⟩ := hrel
        by_cases hlt : k < xs.length
        · have ti : decide ((k : Int) < (xs.length : Int)) = true := decide_eq_true (by omega)
          obtain ⟨a, b, off, hrk, rfl, hc⟩ := (Hx1.out.below HB.out).get k hlt
          have Hpn : Hid (right (xs[k]?.getD default) = true → ∀ j, j < k + 1 → right (xs[j]?.getD default) = true) := Lib.hid fun h j hj => by
            by_cases e : j = k
            · subst e; exact h
            · exact HP.out j (by omega)
          rw [hrk.out] at Hpn
          have Ca := Lib.hid (CX.out a)
          generalize right a = ra at *
          obtain ⟨x', y', u', v'⟩ := a
          obtain ⟨q0, q1, q2, q3⟩ := hc
          try unfold Rect.arr at Ca
          dsimp only at Ca q0 q1 q2 q3
          go_wp2_with (fail)
          refine (Ca.out _).mono ?_
          rintro e w2 ⟨rfl, hb⟩
          have SB := Lib.hid (HB.out.trans (hb.mono HB.out.size))
          have SO := Lib.hid (HB1.out.trans (SB.out.mono HB1.out.size))
          clear hb Ca q0 q1 q2 q3
          cases ra with
          | false =>
            clear Hpn
            go_wp2_with (fail)
            exact ⟨rfl, _, results_tmp2 rfl _ _ _, rfl, SO.out⟩
          | true =>
            have Hpn1 := Lib.hid (Hpn.out rfl)
            clear Hpn
            go_wp2_with (fail)
            go_roundw
            case rel => exact ⟨k + 1, by omega, by go_num, SB, Hpn1⟩
            case measure => simp [intOf]; omega
        · obtain rfl : k = xs.length := by omega
          exact absurd (Hw1.out HP.out) Hnw.out

set_option maxRecDepth 100000 in
set_option maxHeartbeats 8000000 in
theorem c20_ok (r : Rect) (A : Option Addr) (xs : List Rect) (c : Nat) (w : World) (hx : Rects w A xs) (hl : xs.length ≤ 400) (hr : right r = true) (hw : wrongs xs = false) :
    Calls Try.prog 26 #[.agg r.arr, .slice A xs.length c] w fun e w' => e = .returned (.tuple #[.bool (decide (Tl r (xs.filter pts))), .int .i64 0]) ∧ Below w.heap.size w w' := by
  have hb0 : Below w.heap.size w (w.alloc (.cells r.arr 47)) := (Below.refl _ w).alloc (Nat.le_refl _) _
  have Hx := Lib.hid (hx.below hb0)
  have C15 := Lib.hid (fun W => c15 r W)
  rw [hr] at C15
  have CX := Lib.hid (fun a W => c15 a W)
  have CN := Lib.hid (fun a W => c35 a W)
  have CM := Lib.hid (fun a b W => c13 a b W)
  have CA := Lib.hid (fun p q W => c39 r p q W hr)
  have HB0 := Lib.hid hb0
  have HR0 := Lib.hid (RRow.new w r)
  have Hra := Lib.hid (fun x (h : x ∈ xs) => (wrongs_iff.1 hw) x h)
  have CH := Lib.hid (fun A c p q W h => c40 A xs c p q W h Hra.out (by omega))
  have Hri := Lib.hid (fun k (hk : k < xs.length) => right_at Hra.out hk)
  have Hti := Lib.hid (@tl_iff r xs Hra.out)
  generalize hT : decide (Tl r (xs.filter pts)) = T at *
  have HT := Lib.hid hT
  clear hT
  have Hyes : Hid (TR r xs → T = true) := Lib.hid fun h => by rw [← HT.out]; exact decide_eq_true (Hti.out.2 h)
  have Hno : Hid (¬ TR r xs → T = false) := Lib.hid fun h => by rw [← HT.out]; exact decide_eq_false fun q => h (Hti.out.1 q)
  have Hno1 : Hid (∀ k, k < xs.length → pts (xs[k]?.getD default) = true → meet r (xs[k]?.getD default) ≠ xs[k]?.getD default → T = false) := Lib.hid fun k hk h1 h2 => Hno.out fun q => h2 (q.1 k hk h1).1
  have Hno2 : Hid (∀ k, k < xs.length → pts (xs[k]?.getD default) = true → ∀ q, q < k → pts (meet (xs[q]?.getD default) (xs[k]?.getD default)) = true → T = false) := Lib.hid fun k hk h1 q hq h2 => Hno.out fun z => by rw [(z.1 k hk h1).2 q hq] at h2; cases h2
  have Hno3 : Hid (∀ i, i < (XR r xs xs.length).length → ∀ j, j < (YR r xs xs.length).length → atR r ((XR r xs xs.length)[i]?.getD 0) ((YR r xs xs.length)[j]?.getD 0) = true → hasR xs ((XR r xs xs.length)[i]?.getD 0) ((YR r xs xs.length)[j]?.getD 0) = false → T = false) := Lib.hid fun i hi j hj h1 h2 => Hno.out fun z => by rw [z.2 i hi j hj h1] at h2; cases h2
  have Hyy : Hid ((∀ i, i < xs.length → pts (xs[i]?.getD default) = true → meet r (xs[i]?.getD default) = xs[i]?.getD default ∧ ∀ k, k < i → pts (meet (xs[k]?.getD default) (xs[i]?.getD default)) = false) → (∀ i, i < (XR r xs xs.length).length → ∀ j, j < (YR r xs xs.length).length → atR r ((XR r xs xs.length)[i]?.getD 0) ((YR r xs xs.length)[j]?.getD 0) = true → hasR xs ((XR r xs xs.length)[i]?.getD 0) ((YR r xs xs.length)[j]?.getD 0) = true) → T = true) := Lib.hid fun h1 h2 => Hyes.out ⟨h1, h2⟩
  clear HT Hti Hyes Hno hx hb0 hr hw
  have Harr : Hid (r.arr = #[.int .i64 r.x, .int .i64 r.y, .int .i64 r.w, .int .i64 r.h]) := Lib.hid rfl
  have h := Harr.out
  simp only [h] at HR0 HB0 C15 CA Hx ⊢
  clear h
  have X0 : Hid (XR r xs 0 = [r.x] ∧ YR r xs 0 = [r.y]) := Lib.hid ⟨rfl, rfl⟩
  go_enter Try.func26, Try.ntmps26
  go_wp2_with (fail)
  generalize (w.alloc (.cells #[.int .i64 r.x, .int .i64 r.y, .int .i64 r.w, .int .i64 r.h] 47)) = w0 at *
  have p0 : w0.cell? ⟨w.heap.size, 0, none⟩ = some (.int .i64 r.x) := HR0.out.cells.1
  have p1 : w0.cell? ⟨w.heap.size, 1, none⟩ = some (.int .i64 r.y) := HR0.out.cells.2.1
  have p2 : w0.cell? ⟨w.heap.size, 2, none⟩ = some (.int .i64 r.w) := HR0.out.cells.2.2.1
  have p3 : w0.cell? ⟨w.heap.size, 3, none⟩ = some (.int .i64 r.h) := HR0.out.cells.2.2.2
  go_wp2_with (fail)
  refine (C15.out _).mono ?_
  rintro e w1 ⟨rfl, hb1⟩
  have HB1 := Lib.hid (HB0.out.trans (hb1.mono HB0.out.size))
  have Hx1 := Lib.hid (Hx.out.below hb1)
  have HR1 := Lib.hid (HR0.out.turn hb1)
  clear hb1 HB0 Hx C15 p0 p1 p2 p3 HR0
  have t4 : decide ((400 : Int) < (xs.length : Int)) = false := decide_eq_false (by omega)
  go_wp2_with (fail)
  go_loopw [7] (fun i wr => ∃ k : Nat, k ≤ xs.length ∧ i = .int .i64 k ∧ Hid (Below w1.heap.size w1 wr)) (fun i _ => xs.length - (intOf i).toNat)
  case atStart => exact ⟨0, Nat.zero_le _, rfl, Lib.hid (Below.refl _ _)⟩
  case round =>
    obtain ⟨k, hk, rfl, HB⟩ := hrel
    by_cases hlt : k < xs.length
    · have ti : decide ((k : Int) < (xs.length : Int)) = true := decide_eq_true (by omega)
      obtain ⟨a, b, off, hrk, rfl, hc⟩ := (Hx1.out.below HB.out).get k hlt
      have hra := Hri.out k hlt
      rw [hrk.out] at hra
      have Ca := Lib.hid (CX.out a)
      rw [hra] at Ca
      obtain ⟨x', y', u', v'⟩ := a
      obtain ⟨q0, q1, q2, q3⟩ := hc
      unfold Rect.arr at Ca
      dsimp only at Ca q0 q1 q2 q3
      clear hrk hra
      go_wp2_with (fail)
      refine (Ca.out _).mono ?_
      rintro e w2 ⟨rfl, hb⟩
      have SB := Lib.hid (HB.out.trans (hb.mono HB.out.size))
      clear hb Ca q0 q1 q2 q3
      go_wp2_with (fail)
      go_roundw
      case rel => exact ⟨k + 1, by omega, by go_num, SB⟩
      case measure => simp [intOf]; omega
    · obtain rfl : k = xs.length := by omega
      have ti : decide ((xs.length : Int) < (xs.length : Int)) = false := decide_eq_false (by omega)
      have HB2 := Lib.hid (HB1.out.trans (HB.out.mono HB1.out.size))
      have Hx2 := Lib.hid (Hx1.out.below HB.out)
      have HR2 := Lib.hid (HR1.out.turn HB.out)
      clear HB HB1 Hx1 HR1 ti
      obtain ⟨W, hW⟩ : ∃ W, W = wr := ⟨_, rfl⟩
      subst hW
      have h1 := (Below.refl _ W).alloc (Nat.le_refl _) (.cells #[.int .i64 r.x] 2)
      have h2 := (Below.refl _ (W.alloc (.cells #[.int .i64 r.x] 2))).alloc (Nat.le_refl _) (.cells #[.int .i64 r.y] 2)
      have g1 := heap_alloc_new W (.cells #[.int .i64 r.x] 2)
      have g2 := heap_alloc_new (W.alloc (.cells #[.int .i64 r.x] 2)) (.cells #[.int .i64 r.y] 2)
      have g1' := (h2.block _ (Array.getElem?_eq_some_iff.1 g1).1).trans g1
      rw [World.size_alloc] at g2
      have HXY : Hid (XY W.heap.size W (.slice (some ⟨W.heap.size, 0, none⟩) 1 1) (.slice (some ⟨W.heap.size + 1, 0, none⟩) 1 1) (XR r xs 0) (YR r xs 0) ((W.alloc (.cells #[.int .i64 r.x] 2)).alloc (.cells #[.int .i64 r.y] 2))) := Lib.hid (by
        rw [X0.out.1, X0.out.2]
        exact ⟨⟨rfl, .inr ⟨W.heap.size, 1, _, rfl, Nat.le_refl _, g1', Nat.le_refl _, by unfold maxLen; omega, rfl, rfl⟩⟩, ⟨rfl, .inr ⟨W.heap.size + 1, 1, _, rfl, by omega, g2, Nat.le_refl _, by unfold maxLen; omega, rfl, rfl⟩⟩, h1.trans (h2.mono (by simp)), by simp [Value.ownBlock]⟩)
      clear h1 h2 g1 g2 g1'
      have p0 : W.cell? ⟨w.heap.size, 0, none⟩ = some (.int .i64 r.x) := HR2.out.cells.1
      have p1 : (W.alloc (.cells #[.int .i64 r.x] 2)).cell? ⟨w.heap.size, 1, none⟩ = some (.int .i64 r.y) := (HR2.out.turn ((Below.refl _ W).alloc (Nat.le_refl _) _)).cells.2.1
      go_wp2_with (fail)
      clear p0 p1 X0
      generalize ((W.alloc (.cells #[.int .i64 r.x] 2)).alloc (.cells #[.int .i64 r.y] 2)) = W2 at *
      go_loopw [9, 10, 11] (fun vx vy i wr => ∃ k : Nat, k ≤ xs.length ∧ i = .int .i64 k ∧ Hid (XY W.heap.size W vx vy (XR r xs k) (YR r xs k) wr) ∧ Hid (∀ i, i < k → pts (xs[i]?.getD default) = true → meet r (xs[i]?.getD default) = xs[i]?.getD default ∧ ∀ k, k < i → pts (meet (xs[k]?.getD default) (xs[i]?.getD default)) = false)) (fun _ _ i _ => xs.length - (intOf i).toNat)
      case atStart => exact ⟨0, Nat.zero_le _, rfl, HXY, Lib.hid fun j hj => absurd hj (Nat.not_lt_zero j)⟩
      case round =>
        obtain ⟨k, hk, rfl, HXk, HPk⟩ := hrel
        have HBk := Lib.hid (HB2.out.trans (HXk.out.below.mono HB2.out.size))
        have Hxk := Lib.hid (Hx2.out.below HXk.out.below)
        have HRk := Lib.hid (HR2.out.turn HXk.out.below)
        by_cases hlt : k < xs.length
        · have ti : decide ((k : Int) < (xs.length : Int)) = true := decide_eq_true (by omega)
          obtain ⟨a, b, off, hrk, rfl, hc⟩ := Hxk.out.get k hlt
          have hra := Hri.out k hlt
          have Hn1 := Lib.hid (Hno1.out k hlt)
          have Hn2 := Lib.hid (Hno2.out k hlt)
          have Hx0 := Lib.hid (@XR_no r xs k hlt)
          have Hy0 := Lib.hid (@YR_no r xs k hlt)
          have Hx1' := Lib.hid (@XR_yes r xs k hlt)
          have Hy1' := Lib.hid (@YR_yes r xs k hlt)
          have Hpn : Hid ((pts (xs[k]?.getD default) = true → meet r (xs[k]?.getD default) = xs[k]?.getD default ∧ ∀ q, q < k → pts (meet (xs[q]?.getD default) (xs[k]?.getD default)) = false) → ∀ i, i < k + 1 → pts (xs[i]?.getD default) = true → meet r (xs[i]?.getD default) = xs[i]?.getD default ∧ ∀ k, k < i → pts (meet (xs[k]?.getD default) (xs[i]?.getD default)) = false) := Lib.hid fun h i hi hp => by
            by_cases e : i = k
            · subst e; exact h hp
            · exact HPk.out i (by omega) hp
          have hXl := XR_len r xs k
          have hYl := YR_len r xs k
          rw [hrk.out] at hra Hn1 Hn2 Hx0 Hy0 Hx1' Hy1' Hpn
          have Hbd := Lib.hid (right_iff.1 hra)
          have Ca := Lib.hid (CN.out a)
          rw [none_pts hra] at Ca
          have Cm := Lib.hid (CM.out r a)
          have Cq := Lib.hid (fun q (hq : q < k) => CM.out (xs[q]?.getD default) a)
          have Hm : Hid (∀ q, q < k → (decide ((meet (xs[q]?.getD default) a).w = 0) || decide ((meet (xs[q]?.getD default) a).h = 0)) = !pts (meet (xs[q]?.getD default) a)) := Lib.hid fun q hq => none_meet _ _
          generalize hme : meet r a = me at *
          have Hme := Lib.hid hme
          clear hme
          generalize erM r a = em at *
          generalize hpa : pts a = pa at *
          have Hpa := Lib.hid hpa
          clear hpa
          have Hraw : Hid (right a = true) := Lib.hid hra
          clear hra
          obtain ⟨q0, q1, q2, q3⟩ := hc
          have Hq0 := Lib.hid q0
          have Hq1 := Lib.hid q1
          have Hq2 := Lib.hid q2
          have Hq3 := Lib.hid q3
          have Hak : Hid (a = xs[k]?.getD default) := Lib.hid hrk.out.symm
          have Haa : Hid (a.arr = #[.int .i64 a.x, .int .i64 a.y, .int .i64 a.w, .int .i64 a.h]) := Lib.hid rfl
          rw [Haa.out] at Ca Cm Cq
          clear hrk
          go_wp2_with (fail)
          refine (Ca.out _).mono ?_
          rintro e w3 ⟨rfl, hb⟩
          have HX3 := Lib.hid (HXk.out.turn hb (Nat.le_refl _))
          have HB3 := Lib.hid (HBk.out.trans (hb.mono HBk.out.size))
          have Hx3 := Lib.hid (Hxk.out.below hb)
          have HR3 := Lib.hid (HRk.out.turn hb)
          have Z0 := Lib.hid (rd hb Hq0.out)
          have Z1 := Lib.hid (rd hb Hq1.out)
          have Z2 := Lib.hid (rd hb Hq2.out)
          have Z3 := Lib.hid (rd hb Hq3.out)
          clear hb HXk HBk Hxk HRk Ca q0 q1 q2 q3 Hq0 Hq1 Hq2 Hq3
          cases pa with
          | false =>
            have Hpn1 := Lib.hid (Hpn.out fun h => by cases h)
            have HX4 : Hid (XY W.heap.size W u9 u10 (XR r xs (k + 1)) (YR r xs (k + 1)) w3) := Lib.hid (by rw [Hx0.out rfl, Hy0.out rfl]; exact HX3.out)
            clear Hpn Hn1 Hn2 Hx0 Hy0 Hx1' Hy1' HX3
            go_wp2_with (fail)
            go_roundw
            case rel => exact ⟨k + 1, by omega, by go_num, HX4, Hpn1⟩
            case measure => simp [intOf]; omega
          | true =>
            have Hx1 := Lib.hid (Hx1'.out rfl)
            have Hy1 := Lib.hid (Hy1'.out rfl)
            have Hpn1 := Lib.hid (fun h => Hpn.out fun _ => h)
            have Hn1' := Lib.hid (Hn1.out rfl)
            have Hn2' := Lib.hid (Hn2.out rfl)
            clear Hpn Hn1 Hn2 Hx0 Hy0 Hx1' Hy1'
            obtain ⟨i0, i1, i2, i3⟩ := me
            obtain ⟨x, y, u, v⟩ := a
            have A0 := Lib.hid HR3.out.cells.1
            have A1 := Lib.hid HR3.out.cells.2.1
            have A2 := Lib.hid HR3.out.cells.2.2.1
            have A3 := Lib.hid HR3.out.cells.2.2.2
            have h := Harr.out
            simp only [h] at Cm
            clear h
            unfold Rect.arr at Cm
            dsimp only at Cm Cq Z0 Z1 Z2 Z3
            go_wp2_with (fail)
            refine wp_region_ord 10 [(0, true), (1, true), (2, true), (3, true), (4, true), (5, true), (6, true), (7, true), (8, true), (9, false), (10, false), (11, false)] (by kernel_rfl) (by kernel_rfl) ?_
            intro Wc hWc
            apply OrdAt.op (fun _ _ _ h => h) rfl rfl rfl
            · intro X hB
              have s0 := rd (hWc.tr hB) A0.out
              have s1 := rd (hWc.tr hB) A1.out
              have s2 := rd (hWc.tr hB) A2.out
              have s3 := rd (hWc.tr hB) A3.out
              go_simp
              try rfl
            · dsimp only [List.set_cons_zero, List.set_cons_succ]
            iterate 3
              apply OrdAt.op (fun _ _ _ h => h) rfl rfl rfl
              · intro X hB
                go_simp
                try rfl
              · dsimp only [List.set_cons_zero, List.set_cons_succ]
            apply OrdAt.op (fun _ _ _ h => h) rfl rfl rfl
            · intro X hB
              have s0 := rd (hWc.tr hB) Z0.out
              have s1 := rd (hWc.tr hB) Z1.out
              have s2 := rd (hWc.tr hB) Z2.out
              have s3 := rd (hWc.tr hB) Z3.out
              go_simp
              try rfl
            · dsimp only [List.set_cons_zero, List.set_cons_succ]
            apply OrdAt.call (fun _ _ _ h => h) rfl rfl rfl
            · intro X hB
              go_simp
              first | exact ⟨rfl, rfl⟩ | rfl
            · intro X hB
              refine (Cm.out _).mono ?_; rintro e W1 ⟨rfl, hb⟩; exact ⟨rfl, hb⟩
            · dsimp only [List.set_cons_zero, List.set_cons_succ]
            iterate 3
              apply OrdAt.op (fun _ _ _ h => h) rfl rfl rfl
              · intro X hB
                go_simp
                try rfl
              · dsimp only [List.set_cons_zero, List.set_cons_succ]
            refine OrdAt.seq rfl rfl ?_
            intro X hB
            go_wp2_with (fail)
            have hW4 := hWc.tr hB
            have hnew := Lib.hid (RRow.new X ⟨0, 0, 0, 0⟩)
            unfold Rect.arr at hnew
            dsimp only at hnew
            have hb0 : w3.heap.size ≤ X.heap.size := hW4.size
            have hBX := Lib.hid (hW4.alloc hW4.size (.cells #[.int .i64 0, .int .i64 0, .int .i64 0, .int .i64 0] 47))
            refine ⟨.inr ((Below.refl _ X).alloc (Nat.le_refl _) _), ?_⟩
            clear hW4 hB
            generalize X.alloc (.cells #[.int .i64 0, .int .i64 0, .int .i64 0, .int .i64 0] 47) = X2 at *
            generalize X.heap.size = B12 at *
            refine OrdAt.seq rfl rfl ?_
            intro X hB
            have hz := hnew.out.turn hB
            have z0 := hz.cells.1
            have z1 := hz.cells.2.1
            have z2 := hz.cells.2.2.1
            have z3 := hz.cells.2.2.2
            have fz := hz.frozen
            try dsimp only at z0 z1 z2 z3
            go_wp2_with (fail)
            refine ⟨.inl (by decide), ?_⟩
            have hS := Lib.hid ((((hz.store_x i0).store_y i1).store_w i2).store_h i3)
            have hBS := Lib.hid (((((hBX.out.trans (hB.mono hBX.out.size)).setCell (p := ⟨B12, 0, none⟩) hb0 (.int .i64 i0)).setCell (p := ⟨B12, 1, none⟩) hb0 (.int .i64 i1)).setCell (p := ⟨B12, 2, none⟩) hb0 (.int .i64 i2)).setCell (p := ⟨B12, 3, none⟩) hb0 (.int .i64 i3))
            clear z0 z1 z2 z3 fz hz hB hBX hnew
            generalize ((((X.setCell ⟨B12, 0, none⟩ (.int .i64 i0)).setCell ⟨B12, 1, none⟩ (.int .i64 i1)).setCell ⟨B12, 2, none⟩ (.int .i64 i2)).setCell ⟨B12, 3, none⟩ (.int .i64 i3)) = X3 at *
            refine OrdAt.seq rfl rfl ?_
            intro X hB
            go_wp2_with (fail)
            refine ⟨.inl (by decide), OrdAt.done ?_⟩
            intro W9 hW9
            have HNb := Lib.hid ((hS.out.turn hB).turn hW9)
            have hX9 := hBS.out.trans (hB.mono hBS.out.size)
            have HE := Lib.hid (hX9.trans (hW9.mono hX9.size))
            clear hB hW9 hX9 hS hBS
            have HX4 := Lib.hid (HX3.out.turn HE.out (Nat.le_refl _))
            have HB4 := Lib.hid (HB3.out.trans (HE.out.mono HB3.out.size))
            have Hx4 := Lib.hid (Hx3.out.below HE.out)
            have HR4 := Lib.hid (HR3.out.turn HE.out)
            have Y0 := Lib.hid (rd HE.out Z0.out)
            have Y1 := Lib.hid (rd HE.out Z1.out)
            have Y2 := Lib.hid (rd HE.out Z2.out)
            have Y3 := Lib.hid (rd HE.out Z3.out)
            have N0 := Lib.hid HNb.out.cells.1
            have N1 := Lib.hid HNb.out.cells.2.1
            have N2 := Lib.hid HNb.out.cells.2.2.1
            have N3 := Lib.hid HNb.out.cells.2.2.2
            clear HE HX3 HB3 Hx3 HR3 Z0 Z1 Z2 Z3 A0 A1 A2 A3 HNb hb0 Cm
            dsimp only at N0 N1 N2 N3
            by_cases he : (⟨i0, i1, i2, i3⟩ : Rect) = ⟨x, y, u, v⟩
            · obtain ⟨rfl, rfl, rfl, rfl⟩ : x = i0 ∧ y = i1 ∧ u = i2 ∧ v = i3 := by simpa [eq_comm] using he
              clear he
              go_wp2_with (fail)
              refine wp_region_ord 6 [(0, true), (1, true), (2, true), (3, true), (4, true), (5, true)] (by kernel_rfl) (by kernel_rfl) ?_
              intro Wc hWc
              apply OrdAt.op (fun _ _ _ h => h) rfl rfl rfl
              · intro X hB
                have s0 := rd (hWc.tr hB) N0.out
                have s1 := rd (hWc.tr hB) N1.out
                have s2 := rd (hWc.tr hB) N2.out
                have s3 := rd (hWc.tr hB) N3.out
                go_simp
                try rfl
              · dsimp only [List.set_cons_zero, List.set_cons_succ]
              iterate 3
                apply OrdAt.op (fun _ _ _ h => h) rfl rfl rfl
                · intro X hB
                  go_simp
                  try rfl
                · dsimp only [List.set_cons_zero, List.set_cons_succ]
              apply OrdAt.op (fun _ _ _ h => h) rfl rfl rfl
              · intro X hB
                have s0 := rd (hWc.tr hB) Y0.out
                have s1 := rd (hWc.tr hB) Y1.out
                have s2 := rd (hWc.tr hB) Y2.out
                have s3 := rd (hWc.tr hB) Y3.out
                go_simp
                try rfl
              · dsimp only [List.set_cons_zero, List.set_cons_succ]
              apply OrdAt.op (fun _ _ _ h => h) rfl rfl rfl
              · intro X hB
                skip
                go_simp
                try rfl
              · dsimp only [List.set_cons_zero, List.set_cons_succ]
              refine OrdAt.done ?_
              intro W5 hW5
              have hW5 := hWc.tr hW5
              have HX5 := Lib.hid (HX4.out.turn hW5 (Nat.le_refl _))
              have HB5 := Lib.hid (HB4.out.trans (hW5.mono HB4.out.size))
              have Hx5 := Lib.hid (Hx4.out.below hW5)
              have HR5 := Lib.hid (HR4.out.turn hW5)
              have U0 := Lib.hid (rd hW5 Y0.out)
              have U1 := Lib.hid (rd hW5 Y1.out)
              have U2 := Lib.hid (rd hW5 Y2.out)
              have U3 := Lib.hid (rd hW5 Y3.out)
              clear hW5 HX4 HB4 Hx4 HR4 Y0 Y1 Y2 Y3 N0 N1 N2 N3
              go_wp2_with (fail)
              go_loopw [14] (fun i ws => ∃ q : Nat, q ≤ k ∧ i = .int .i64 q ∧ Hid (Below W5.heap.size W5 ws) ∧ Hid (∀ j, j < q → pts (meet (xs[j]?.getD default) ⟨x, y, u, v⟩) = false)) (fun i _ => k - (intOf i).toNat)
              case atStart => exact ⟨0, Nat.zero_le _, rfl, Lib.hid (Below.refl _ _), Lib.hid fun j hj => absurd hj (Nat.not_lt_zero j)⟩
              case round =>
                obtain ⟨q, hq, rfl, HBq, HPq⟩ := hrel
                obtain ⟨ws, hws⟩ : ∃ ws, ws = wr := ⟨_, rfl⟩
                subst hws
                have HXq := Lib.hid (HX5.out.turn HBq.out (Nat.le_refl _))
                by_cases hlq : q < k
                · have tq : decide ((q : Int) < (k : Int)) = true := decide_eq_true (by omega)
                  have hlx : q < xs.length := by omega
                  have tx : decide ((q : Int) < (xs.length : Int)) = true := decide_eq_true (by omega)
                  have hc2 := (Hx5.out.below HBq.out).cells_at hlx
                  have Cq2 := Lib.hid (Cq.out q hlq)
                  have Hm2 := Lib.hid (Hm.out q hlq)
                  have Hn3 := Lib.hid (Hn2'.out q hlq)
                  have Hpq : Hid (pts (meet (xs[q]?.getD default) ⟨x, y, u, v⟩) = false → ∀ j, j < q + 1 → pts (meet (xs[j]?.getD default) ⟨x, y, u, v⟩) = false) := Lib.hid fun h j hj => by
                    by_cases e : j = q
                    · subst e; exact h
                    · exact HPq.out j (by omega)
                  generalize xs[q]?.getD default = a2 at *
                  generalize meet a2 ⟨x, y, u, v⟩ = m2 at *
                  generalize erM a2 ⟨x, y, u, v⟩ = em2 at *
                  have Cn2 := Lib.hid (CN.out m2)
                  rw [Hm2.out] at Cn2
                  generalize pts m2 = pm at *
                  obtain ⟨i0, i1, i2, i3⟩ := m2
                  obtain ⟨x2, y2, u2, v2⟩ := a2
                  obtain ⟨d0, d1, d2, d3⟩ := hc2
                  unfold Rect.arr at Cq2 Cn2
                  dsimp only at Cq2 Cn2 d0 d1 d2 d3
                  have D0 := Lib.hid d0
                  have D1 := Lib.hid d1
                  have D2 := Lib.hid d2
                  have D3 := Lib.hid d3
                  have E0 := Lib.hid (rd HBq.out U0.out)
                  have E1 := Lib.hid (rd HBq.out U1.out)
                  have E2 := Lib.hid (rd HBq.out U2.out)
                  have E3 := Lib.hid (rd HBq.out U3.out)
                  clear d0 d1 d2 d3 Hm2 HPq
                  go_wp2_with (fail)
                  refine wp_region_ord 13 [(0, true), (1, true), (2, true), (3, true), (4, true), (5, true), (6, true), (7, true), (8, true), (9, true), (10, true), (11, true), (12, false), (13, false), (14, false)] (by kernel_rfl) (by kernel_rfl) ?_
                  intro Wc hWc
                  iterate 3
                    apply OrdAt.op (fun _ _ _ h => h) rfl rfl rfl
                    · intro X hB
                      go_simp
                      try rfl
                    · dsimp only [List.set_cons_zero, List.set_cons_succ]
                  apply OrdAt.op (fun _ _ _ h => h) rfl rfl rfl
                  · intro X hB
                    have s0 := rd (hWc.tr hB) D0.out
                    have s1 := rd (hWc.tr hB) D1.out
                    have s2 := rd (hWc.tr hB) D2.out
                    have s3 := rd (hWc.tr hB) D3.out
                    go_simp
                    try rfl
                  · dsimp only [List.set_cons_zero, List.set_cons_succ]
                  iterate 3
                    apply OrdAt.op (fun _ _ _ h => h) rfl rfl rfl
                    · intro X hB
                      go_simp
                      try rfl
                    · dsimp only [List.set_cons_zero, List.set_cons_succ]
                  apply OrdAt.op (fun _ _ _ h => h) rfl rfl rfl
                  · intro X hB
                    have s0 := rd (hWc.tr hB) E0.out
                    have s1 := rd (hWc.tr hB) E1.out
                    have s2 := rd (hWc.tr hB) E2.out
                    have s3 := rd (hWc.tr hB) E3.out
                    go_simp
                    try rfl
                  · dsimp only [List.set_cons_zero, List.set_cons_succ]
                  apply OrdAt.call (fun _ _ _ h => h) rfl rfl rfl
                  · intro X hB
                    go_simp
                    first | exact ⟨rfl, rfl⟩ | rfl
                  · intro X hB
                    refine (Cq2.out _).mono ?_; rintro e W1 ⟨rfl, hb⟩; exact ⟨rfl, hb⟩
                  · dsimp only [List.set_cons_zero, List.set_cons_succ]
                  iterate 3
                    apply OrdAt.op (fun _ _ _ h => h) rfl rfl rfl
                    · intro X hB
                      go_simp
                      try rfl
                    · dsimp only [List.set_cons_zero, List.set_cons_succ]
                  refine OrdAt.seq rfl rfl ?_
                  intro X hB
                  go_wp2_with (fail)
                  have hW4 := hWc.tr hB
                  have hnew := Lib.hid (RRow.new X ⟨0, 0, 0, 0⟩)
                  unfold Rect.arr at hnew
                  dsimp only at hnew
                  have hb0 : ws.heap.size ≤ X.heap.size := hW4.size
                  have hBX := Lib.hid (hW4.alloc hW4.size (.cells #[.int .i64 0, .int .i64 0, .int .i64 0, .int .i64 0] 47))
                  refine ⟨.inr ((Below.refl _ X).alloc (Nat.le_refl _) _), ?_⟩
                  clear hW4 hB
                  generalize X.alloc (.cells #[.int .i64 0, .int .i64 0, .int .i64 0, .int .i64 0] 47) = X2 at *
                  generalize X.heap.size = B12 at *
                  refine OrdAt.seq rfl rfl ?_
                  intro X hB
                  have hz := hnew.out.turn hB
                  have z0 := hz.cells.1
                  have z1 := hz.cells.2.1
                  have z2 := hz.cells.2.2.1
                  have z3 := hz.cells.2.2.2
                  have fz := hz.frozen
                  try dsimp only at z0 z1 z2 z3
                  go_wp2_with (fail)
                  refine ⟨.inl (by decide), ?_⟩
                  have hS := Lib.hid ((((hz.store_x i0).store_y i1).store_w i2).store_h i3)
                  have hBS := Lib.hid (((((hBX.out.trans (hB.mono hBX.out.size)).setCell (p := ⟨B12, 0, none⟩) hb0 (.int .i64 i0)).setCell (p := ⟨B12, 1, none⟩) hb0 (.int .i64 i1)).setCell (p := ⟨B12, 2, none⟩) hb0 (.int .i64 i2)).setCell (p := ⟨B12, 3, none⟩) hb0 (.int .i64 i3))
                  clear z0 z1 z2 z3 fz hz hB hBX hnew
                  generalize ((((X.setCell ⟨B12, 0, none⟩ (.int .i64 i0)).setCell ⟨B12, 1, none⟩ (.int .i64 i1)).setCell ⟨B12, 2, none⟩ (.int .i64 i2)).setCell ⟨B12, 3, none⟩ (.int .i64 i3)) = X3 at *
                  refine OrdAt.seq rfl rfl ?_
                  intro X hB
                  go_wp2_with (fail)
                  refine ⟨.inl (by decide), OrdAt.done ?_⟩
                  intro W9 hW9
                  have HNb := Lib.hid ((hS.out.turn hB).turn hW9)
                  have hX9 := hBS.out.trans (hB.mono hBS.out.size)
                  have HE := Lib.hid (hX9.trans (hW9.mono hX9.size))
                  clear hB hW9 hX9 hS hBS
                  have HBq2 := Lib.hid (HBq.out.trans (HE.out.mono HBq.out.size))
                  have n0 := HNb.out.cells.1
                  have n1 := HNb.out.cells.2.1
                  have n2 := HNb.out.cells.2.2.1
                  have n3 := HNb.out.cells.2.2.2
                  try dsimp only at n0 n1 n2 n3
                  clear HBq HE D0 D1 D2 D3 E0 E1 E2 E3 Cq2 HXq
                  go_wp2_with (fail)
                  refine (Cn2.out _).mono ?_
                  rintro e w7 ⟨rfl, hb⟩
                  have HBq3 := Lib.hid (HBq2.out.trans (hb.mono HBq2.out.size))
                  have HBq4 := Lib.hid (HB5.out.trans (HBq3.out.mono HB5.out.size))
                  clear hb HBq2 HNb Cn2 n0 n1 n2 n3
                  cases pm with
                  | true =>
                    have HTf := Lib.hid (Hn3.out rfl)
                    clear Hpq Hn3
                    go_wp2_with (fail)
                    rw [HTf.out]
                    exact ⟨rfl, _, results_tmp2 rfl _ _ _, rfl, HBq4.out⟩
                  | false =>
                    have Hpq1 := Lib.hid (Hpq.out rfl)
                    clear Hpq Hn3
                    go_wp2_with (fail)
                    go_roundw
                    case rel => exact ⟨q + 1, by omega, by go_num, HBq3, Hpq1⟩
                    case measure => simp [intOf]; omega
                · obtain rfl : q = k := by omega
                  have tq : decide ((q : Int) < (q : Int)) = false := decide_eq_false (by omega)
                  have Hpn2 := Lib.hid (Hpn1.out ⟨by first | trivial | rfl, HPq.out⟩)
                  have hbd := Hbd.out
                  try dsimp only at hbd
                  have wx : IntKind.i64.wrap (x + u) = x + u := IntWalk.i64_in _ (by omega)
                  have wy : IntKind.i64.wrap (y + v) = y + v := IntWalk.i64_in _ (by omega)
                  have V0 := Lib.hid (rd HBq.out U0.out)
                  have V1 := Lib.hid (rd HBq.out U1.out)
                  have V2 := Lib.hid (rd HBq.out U2.out)
                  have V3 := Lib.hid (rd HBq.out U3.out)
                  clear hbd HPq Hpn1
                  go_wp2_with (fail)
                  refine wp_region_ord 18 [(0, true), (1, true), (2, true), (3, true), (4, true), (5, true), (6, true), (7, true), (8, true), (9, true), (10, true), (11, true), (12, true), (13, true), (14, true), (15, true), (16, true), (17, false), (18, false), (19, false)] (by kernel_rfl) (by kernel_rfl) ?_
                  intro Wc hWc
                  iterate 5
                    apply OrdAt.op (fun _ _ _ h => h) rfl rfl rfl
                    · intro X hB
                      go_simp
                      try rfl
                    · dsimp only [List.set_cons_zero, List.set_cons_succ]
                  apply OrdAt.op (fun _ _ _ h => h) rfl rfl rfl
                  · intro X hB
                    have s := rd (hWc.tr hB) V0.out
                    go_simp
                    try rfl
                  · dsimp only [List.set_cons_zero, List.set_cons_succ]
                  iterate 4
                    apply OrdAt.op (fun _ _ _ h => h) rfl rfl rfl
                    · intro X hB
                      go_simp
                      try rfl
                    · dsimp only [List.set_cons_zero, List.set_cons_succ]
                  apply OrdAt.op (fun _ _ _ h => h) rfl rfl rfl
                  · intro X hB
                    have s := rd (hWc.tr hB) V0.out
                    go_simp
                    try rfl
                  · dsimp only [List.set_cons_zero, List.set_cons_succ]
                  iterate 4
                    apply OrdAt.op (fun _ _ _ h => h) rfl rfl rfl
                    · intro X hB
                      go_simp
                      try rfl
                    · dsimp only [List.set_cons_zero, List.set_cons_succ]
                  apply OrdAt.op (fun _ _ _ h => h) rfl rfl rfl
                  · intro X hB
                    have s := rd (hWc.tr hB) V2.out
                    go_simp
                    try rfl
                  · dsimp only [List.set_cons_zero, List.set_cons_succ]
                  apply OrdAt.op (fun _ _ _ h => h) rfl rfl rfl
                  · intro X hB
                    have s := wx
                    go_simp
                    try rfl
                  · dsimp only [List.set_cons_zero, List.set_cons_succ]
                  refine OrdAt.seq rfl rfl ?_
                  intro X hB
                  go_wp2_with (fail)
                  have hW4 := hWc.tr hB
                  have hnew := Lib.hid (heap_alloc_new X (.cells #[.int .i64 x, .int .i64 (x + u)] 2))
                  have HXa := Lib.hid ((HXq.out.turn hW4 (Nat.le_refl _)).turn ((Below.refl _ X).alloc (Nat.le_refl _) (.cells #[.int .i64 x, .int .i64 (x + u)] 2)) (Nat.le_refl _))
                  refine ⟨.inr ((Below.refl _ X).alloc (Nat.le_refl _) _), ?_⟩
                  clear hW4 hB
                  generalize X.alloc (.cells #[.int .i64 x, .int .i64 (x + u)] 2) = X2 at *
                  generalize X.heap.size = B13 at *
                  refine OrdAt.seq rfl rfl ?_
                  intro X hB
                  have hx := HXa.out.turn hB (Nat.le_refl _)
                  have hc := (hB.block _ (Array.getElem?_eq_some_iff.1 hnew.out).1).trans hnew.out
                  refine wp_app_two _ _ rfl W.heap.size _ _ (XR r xs q) rfl hx.ox B13 (x) ((x + u)) rfl hc (by omega) hx.below.size ?_
                  intro v9 W' h1 hg hv
                  have HXb := Lib.hid (hx.appx (Nat.le_refl _) hYl.1 h1 hg hv)
                  refine ⟨.inl (by decide), ?_⟩
                  clear hx hc h1 hg hv hB HXa hnew
                  refine OrdAt.seq rfl rfl ?_
                  intro X hB
                  have HXe := Lib.hid (HXb.out.turn hB (Nat.le_refl _))
                  clear hB HXb
                  go_wp2_with (fail)
                  refine ⟨.inl (by decide), OrdAt.done ?_⟩
                  intro W26 hW9
                  have HXc := Lib.hid (HXe.out.turn hW9 (Nat.le_refl _))
                  clear hW9 HXe
                  have V1 := Lib.hid (((Hx2.out.below HXc.out.below).cells_at hlt).2.1)
                  have V3 := Lib.hid (((Hx2.out.below HXc.out.below).cells_at hlt).2.2.2)
                  rw [← Hak.out] at V1 V3
                  dsimp only at V1 V3
                  go_wp2_with (fail)
                  refine wp_region_ord 18 [(0, true), (1, true), (2, true), (3, true), (4, true), (5, true), (6, true), (7, true), (8, true), (9, true), (10, true), (11, true), (12, true), (13, true), (14, true), (15, true), (16, true), (17, false), (18, false), (19, false)] (by kernel_rfl) (by kernel_rfl) ?_
                  intro Wc hWc
                  iterate 5
                    apply OrdAt.op (fun _ _ _ h => h) rfl rfl rfl
                    · intro X hB
                      go_simp
                      try rfl
                    · dsimp only [List.set_cons_zero, List.set_cons_succ]
                  apply OrdAt.op (fun _ _ _ h => h) rfl rfl rfl
                  · intro X hB
                    have s := rd (hWc.tr hB) V1.out
                    go_simp
                    try rfl
                  · dsimp only [List.set_cons_zero, List.set_cons_succ]
                  iterate 4
                    apply OrdAt.op (fun _ _ _ h => h) rfl rfl rfl
                    · intro X hB
                      go_simp
                      try rfl
                    · dsimp only [List.set_cons_zero, List.set_cons_succ]
                  apply OrdAt.op (fun _ _ _ h => h) rfl rfl rfl
                  · intro X hB
                    have s := rd (hWc.tr hB) V1.out
                    go_simp
                    try rfl
                  · dsimp only [List.set_cons_zero, List.set_cons_succ]
                  iterate 4
                    apply OrdAt.op (fun _ _ _ h => h) rfl rfl rfl
                    · intro X hB
                      go_simp
                      try rfl
                    · dsimp only [List.set_cons_zero, List.set_cons_succ]
                  apply OrdAt.op (fun _ _ _ h => h) rfl rfl rfl
                  · intro X hB
                    have s := rd (hWc.tr hB) V3.out
                    go_simp
                    try rfl
                  · dsimp only [List.set_cons_zero, List.set_cons_succ]
                  apply OrdAt.op (fun _ _ _ h => h) rfl rfl rfl
                  · intro X hB
                    have s := wy
                    go_simp
                    try rfl
                  · dsimp only [List.set_cons_zero, List.set_cons_succ]
                  refine OrdAt.seq rfl rfl ?_
                  intro X hB
                  go_wp2_with (fail)
                  have hW4 := hWc.tr hB
                  have hnew := Lib.hid (heap_alloc_new X (.cells #[.int .i64 y, .int .i64 (y + v)] 2))
                  have HXa := Lib.hid ((HXc.out.turn hW4 (Nat.le_refl _)).turn ((Below.refl _ X).alloc (Nat.le_refl _) (.cells #[.int .i64 y, .int .i64 (y + v)] 2)) (Nat.le_refl _))
                  refine ⟨.inr ((Below.refl _ X).alloc (Nat.le_refl _) _), ?_⟩
                  clear hW4 hB
                  generalize X.alloc (.cells #[.int .i64 y, .int .i64 (y + v)] 2) = X2 at *
                  generalize X.heap.size = B13 at *
                  refine OrdAt.seq rfl rfl ?_
                  intro X hB
                  have hx := HXa.out.turn hB (Nat.le_refl _)
                  have hc := (hB.block _ (Array.getElem?_eq_some_iff.1 hnew.out).1).trans hnew.out
                  refine wp_app_two _ _ rfl W.heap.size _ _ (YR r xs q) rfl hx.oy B13 (y) ((y + v)) rfl hc (by omega) hx.below.size ?_
                  intro v10 W' h1 hg hv
                  have HXb := Lib.hid (hx.appy (Nat.le_refl _) (show 0 < (XR r xs q ++ [x, x + u]).length from by rw [List.length_append]; omega) h1 hg hv)
                  refine ⟨.inl (by decide), ?_⟩
                  clear hx hc h1 hg hv hB HXa hnew
                  refine OrdAt.seq rfl rfl ?_
                  intro X hB
                  have HXe := Lib.hid (HXb.out.turn hB (Nat.le_refl _))
                  clear hB HXb
                  go_wp2_with (fail)
                  refine ⟨.inl (by decide), OrdAt.done ?_⟩
                  intro W27 hW9
                  have HXd := Lib.hid (HXe.out.turn hW9 (Nat.le_refl _))
                  clear hW9 HXe
                  have HX9 : Hid (XY W.heap.size W v9 v10 (XR r xs (q + 1)) (YR r xs (q + 1)) W27) := Lib.hid (by rw [Hx1.out, Hy1.out]; exact HXd.out)
                  go_wp2_with (fail)
                  go_roundw
                  case rel => exact ⟨q + 1, by omega, by go_num, HX9, Hpn2⟩
                  case measure => simp [intOf]; omega
            · have HTf := Lib.hid (Hn1'.out he)
              have hne := he
              clear he
              by_cases k0 : i0 = x
              case neg =>
                have tq : (i0 == x) = false := by rw [beq_eq_false_iff_ne]; exact k0
                have tn : (i0 = x) = False := by simp [k0]
                clear hne k0
                go_wp2_with (fail)
                refine wp_region_ord 6 [(0, true), (1, true), (2, true), (3, true), (4, true), (5, true)] (by kernel_rfl) (by kernel_rfl) ?_
                intro Wc hWc
                apply OrdAt.op (fun _ _ _ h => h) rfl rfl rfl
                · intro X hB
                  have s0 := rd (hWc.tr hB) N0.out
                  have s1 := rd (hWc.tr hB) N1.out
                  have s2 := rd (hWc.tr hB) N2.out
                  have s3 := rd (hWc.tr hB) N3.out
                  go_simp
                  try rfl
                · dsimp only [List.set_cons_zero, List.set_cons_succ]
                iterate 3
                  apply OrdAt.op (fun _ _ _ h => h) rfl rfl rfl
                  · intro X hB
                    go_simp
                    try rfl
                  · dsimp only [List.set_cons_zero, List.set_cons_succ]
                apply OrdAt.op (fun _ _ _ h => h) rfl rfl rfl
                · intro X hB
                  have s0 := rd (hWc.tr hB) Y0.out
                  have s1 := rd (hWc.tr hB) Y1.out
                  have s2 := rd (hWc.tr hB) Y2.out
                  have s3 := rd (hWc.tr hB) Y3.out
                  go_simp
                  try rfl
                · dsimp only [List.set_cons_zero, List.set_cons_succ]
                apply OrdAt.op (fun _ _ _ h => h) rfl rfl rfl
                · intro X hB
                  skip
                  go_simp
                  try rfl
                · dsimp only [List.set_cons_zero, List.set_cons_succ]
                refine OrdAt.done ?_
                intro W5 hW5
                have hW5 := hWc.tr hW5
                have HB5 := Lib.hid (HB4.out.trans (hW5.mono HB4.out.size))
                clear hW5
                go_wp2_with (fail)
                rw [HTf.out]
                exact ⟨rfl, _, results_tmp2 rfl _ _ _, rfl, HB5.out⟩
              by_cases k1 : i1 = y
              case neg =>
                obtain rfl : i0 = x := k0
                have tq : (i1 == y) = false := by rw [beq_eq_false_iff_ne]; exact k1
                have tn : (i1 = y) = False := by simp [k1]
                clear hne k1
                go_wp2_with (fail)
                refine wp_region_ord 6 [(0, true), (1, true), (2, true), (3, true), (4, true), (5, true)] (by kernel_rfl) (by kernel_rfl) ?_
                intro Wc hWc
                apply OrdAt.op (fun _ _ _ h => h) rfl rfl rfl
                · intro X hB
                  have s0 := rd (hWc.tr hB) N0.out
                  have s1 := rd (hWc.tr hB) N1.out
                  have s2 := rd (hWc.tr hB) N2.out
                  have s3 := rd (hWc.tr hB) N3.out
                  go_simp
                  try rfl
                · dsimp only [List.set_cons_zero, List.set_cons_succ]
                iterate 3
                  apply OrdAt.op (fun _ _ _ h => h) rfl rfl rfl
                  · intro X hB
                    go_simp
                    try rfl
                  · dsimp only [List.set_cons_zero, List.set_cons_succ]
                apply OrdAt.op (fun _ _ _ h => h) rfl rfl rfl
                · intro X hB
                  have s0 := rd (hWc.tr hB) Y0.out
                  have s1 := rd (hWc.tr hB) Y1.out
                  have s2 := rd (hWc.tr hB) Y2.out
                  have s3 := rd (hWc.tr hB) Y3.out
                  go_simp
                  try rfl
                · dsimp only [List.set_cons_zero, List.set_cons_succ]
                apply OrdAt.op (fun _ _ _ h => h) rfl rfl rfl
                · intro X hB
                  skip
                  go_simp
                  try rfl
                · dsimp only [List.set_cons_zero, List.set_cons_succ]
                refine OrdAt.done ?_
                intro W5 hW5
                have hW5 := hWc.tr hW5
                have HB5 := Lib.hid (HB4.out.trans (hW5.mono HB4.out.size))
                clear hW5
                go_wp2_with (fail)
                rw [HTf.out]
                exact ⟨rfl, _, results_tmp2 rfl _ _ _, rfl, HB5.out⟩
              by_cases k2 : i2 = u
              case neg =>
                obtain rfl : i0 = x := k0
                obtain rfl : i1 = y := k1
                have tq : (i2 == u) = false := by rw [beq_eq_false_iff_ne]; exact k2
                have tn : (i2 = u) = False := by simp [k2]
                clear hne k2
                go_wp2_with (fail)
                refine wp_region_ord 6 [(0, true), (1, true), (2, true), (3, true), (4, true), (5, true)] (by kernel_rfl) (by kernel_rfl) ?_
                intro Wc hWc
                apply OrdAt.op (fun _ _ _ h => h) rfl rfl rfl
                · intro X hB
                  have s0 := rd (hWc.tr hB) N0.out
                  have s1 := rd (hWc.tr hB) N1.out
                  have s2 := rd (hWc.tr hB) N2.out
                  have s3 := rd (hWc.tr hB) N3.out
                  go_simp
                  try rfl
                · dsimp only [List.set_cons_zero, List.set_cons_succ]
                iterate 3
                  apply OrdAt.op (fun _ _ _ h => h) rfl rfl rfl
                  · intro X hB
                    go_simp
                    try rfl
                  · dsimp only [List.set_cons_zero, List.set_cons_succ]
                apply OrdAt.op (fun _ _ _ h => h) rfl rfl rfl
                · intro X hB
                  have s0 := rd (hWc.tr hB) Y0.out
                  have s1 := rd (hWc.tr hB) Y1.out
                  have s2 := rd (hWc.tr hB) Y2.out
                  have s3 := rd (hWc.tr hB) Y3.out
                  go_simp
                  try rfl
                · dsimp only [List.set_cons_zero, List.set_cons_succ]
                apply OrdAt.op (fun _ _ _ h => h) rfl rfl rfl
                · intro X hB
                  skip
                  go_simp
                  try rfl
                · dsimp only [List.set_cons_zero, List.set_cons_succ]
                refine OrdAt.done ?_
                intro W5 hW5
                have hW5 := hWc.tr hW5
                have HB5 := Lib.hid (HB4.out.trans (hW5.mono HB4.out.size))
                clear hW5
                go_wp2_with (fail)
                rw [HTf.out]
                exact ⟨rfl, _, results_tmp2 rfl _ _ _, rfl, HB5.out⟩
              by_cases k3 : i3 = v
              case neg =>
                obtain rfl : i0 = x := k0
                obtain rfl : i1 = y := k1
                obtain rfl : i2 = u := k2
                have tq : (i3 == v) = false := by rw [beq_eq_false_iff_ne]; exact k3
                have tn : (i3 = v) = False := by simp [k3]
                clear hne k3
                go_wp2_with (fail)
                refine wp_region_ord 6 [(0, true), (1, true), (2, true), (3, true), (4, true), (5, true)] (by kernel_rfl) (by kernel_rfl) ?_
                intro Wc hWc
                apply OrdAt.op (fun _ _ _ h => h) rfl rfl rfl
                · intro X hB
                  have s0 := rd (hWc.tr hB) N0.out
                  have s1 := rd (hWc.tr hB) N1.out
                  have s2 := rd (hWc.tr hB) N2.out
                  have s3 := rd (hWc.tr hB) N3.out
                  go_simp
                  try rfl
                · dsimp only [List.set_cons_zero, List.set_cons_succ]
                iterate 3
                  apply OrdAt.op (fun _ _ _ h => h) rfl rfl rfl
                  · intro X hB
                    go_simp
                    try rfl
                  · dsimp only [List.set_cons_zero, List.set_cons_succ]
                apply OrdAt.op (fun _ _ _ h => h) rfl rfl rfl
                · intro X hB
                  have s0 := rd (hWc.tr hB) Y0.out
                  have s1 := rd (hWc.tr hB) Y1.out
                  have s2 := rd (hWc.tr hB) Y2.out
                  have s3 := rd (hWc.tr hB) Y3.out
                  go_simp
                  try rfl
                · dsimp only [List.set_cons_zero, List.set_cons_succ]
                apply OrdAt.op (fun _ _ _ h => h) rfl rfl rfl
                · intro X hB
                  skip
                  go_simp
                  try rfl
                · dsimp only [List.set_cons_zero, List.set_cons_succ]
                refine OrdAt.done ?_
                intro W5 hW5
                have hW5 := hWc.tr hW5
                have HB5 := Lib.hid (HB4.out.trans (hW5.mono HB4.out.size))
                clear hW5
                go_wp2_with (fail)
                rw [HTf.out]
                exact ⟨rfl, _, results_tmp2 rfl _ _ _, rfl, HB5.out⟩
              exact absurd (by rw [k0, k1, k2, k3]) hne
        · obtain rfl : k = xs.length := by omega
          have ti : decide ((xs.length : Int) < (xs.length : Int)) = false := decide_eq_false (by omega)
          have Hy3 := Lib.hid (Hyy.out HPk.out)
          have hXl := XR_len r xs xs.length
          have hYl := YR_len r xs xs.length
          obtain ⟨A9, c9, rfl, hi9⟩ := ints_of_row HXk.out.ox rfl
          obtain ⟨A10, c10, rfl, hi10⟩ := ints_of_row HXk.out.oy rfl
          have Hi9 := Lib.hid hi9
          have Hi10 := Lib.hid hi10
          clear hi9 hi10 HPk HXk HXY Hno1 Hno2 Hyy CM CN CX Hri
          generalize XR r xs xs.length = XL at *
          generalize YR r xs xs.length = YL at *
          obtain ⟨wb, hwb⟩ : ∃ wb, wb = wr := ⟨_, rfl⟩
          subst hwb
          go_wp2_with (fail)
          go_loopw [17] (fun i ws => ∃ p : Nat, p ≤ XL.length ∧ i = .int .i64 p ∧ Hid (Below wb.heap.size wb ws) ∧ Hid (∀ i, i < p → ∀ j, j < YL.length → atR r (XL[i]?.getD 0) (YL[j]?.getD 0) = true → hasR xs (XL[i]?.getD 0) (YL[j]?.getD 0) = true)) (fun i _ => XL.length - (intOf i).toNat)
          case atStart => exact ⟨0, Nat.zero_le _, rfl, Lib.hid (Below.refl _ _), Lib.hid fun i hi => absurd hi (Nat.not_lt_zero i)⟩
          case round =>
            obtain ⟨p, hp, rfl, HBp, HPp⟩ := hrel
            by_cases hlp : p < XL.length
            · have tp : decide ((p : Int) < (XL.length : Int)) = true := decide_eq_true (by omega)
              obtain ⟨px, bx, ox, hpx, rfl, hcx⟩ := (Hi9.out.below HBp.out).get p hlp
              have Hcx := Lib.hid hcx
              have Hno4 := Lib.hid (Hno3.out p hlp)
              have Hpp : Hid ((∀ j, j < YL.length → atR r (XL[p]?.getD 0) (YL[j]?.getD 0) = true → hasR xs (XL[p]?.getD 0) (YL[j]?.getD 0) = true) → ∀ i, i < p + 1 → ∀ j, j < YL.length → atR r (XL[i]?.getD 0) (YL[j]?.getD 0) = true → hasR xs (XL[i]?.getD 0) (YL[j]?.getD 0) = true) := Lib.hid fun h i hi => by
                by_cases e : i = p
                · subst e; exact h
                · exact HPp.out i (by omega)
              rw [hpx.out] at Hno4 Hpp
              have CA1 := Lib.hid (CA.out px)
              have CH1 := Lib.hid (fun A c => CH.out A c px)
              clear hpx hcx HPp
              obtain ⟨wc, hwc⟩ : ∃ wc, wc = wr := ⟨_, rfl⟩
              subst hwc
              go_wp2_with (fail)
              go_loopw [18] (fun i ws => ∃ q : Nat, q ≤ YL.length ∧ i = .int .i64 q ∧ Hid (Below wc.heap.size wc ws) ∧ Hid (∀ j, j < q → atR r px (YL[j]?.getD 0) = true → hasR xs px (YL[j]?.getD 0) = true)) (fun i _ => YL.length - (intOf i).toNat)
              case atStart => exact ⟨0, Nat.zero_le _, rfl, Lib.hid (Below.refl _ _), Lib.hid fun i hi => absurd hi (Nat.not_lt_zero i)⟩
              case round =>
                obtain ⟨q, hq, rfl, HBq, HPq⟩ := hrel
                have HBr := Lib.hid (HBp.out.trans (HBq.out.mono HBp.out.size))
                by_cases hlq : q < YL.length
                · have tq : decide ((q : Int) < (YL.length : Int)) = true := decide_eq_true (by omega)
                  obtain ⟨py, by', oy, hpy, rfl, hcy⟩ := (Hi10.out.below HBr.out).get q hlq
                  have F0 := Lib.hid (rd HBq.out Hcx.out)
                  have F1 := Lib.hid hcy
                  have Hrow := Lib.hid (HRk.out.turn HBr.out)
                  have A0 := Lib.hid Hrow.out.cells.1
                  have A1 := Lib.hid Hrow.out.cells.2.1
                  have A2 := Lib.hid Hrow.out.cells.2.2.1
                  have A3 := Lib.hid Hrow.out.cells.2.2.2
                  have Hxq := Lib.hid (Hxk.out.below HBr.out)
                  have HBo := Lib.hid (HBk.out.trans (HBr.out.mono HBk.out.size))
                  have Hno5 := Lib.hid (Hno4.out q hlq)
                  have Hpq : Hid ((atR r px (YL[q]?.getD 0) = true → hasR xs px (YL[q]?.getD 0) = true) → ∀ j, j < q + 1 → atR r px (YL[j]?.getD 0) = true → hasR xs px (YL[j]?.getD 0) = true) := Lib.hid fun h j hj => by
                    by_cases e : j = q
                    · subst e; exact h
                    · exact HPq.out j (by omega)
                  rw [hpy.out] at Hno5 Hpq
                  have CA2 := Lib.hid (CA1.out py)
                  have CH2 := Lib.hid (fun A c => CH1.out A c py)
                  generalize atR r px py = t at *
                  generalize hasR xs px py = s at *
                  clear hpy hcy HPq
                  cases t with
                  | false =>
                    have Hpq1 := Lib.hid (Hpq.out fun h => by cases h)
                    clear Hpq Hno5
                    go_wp2_with (fail)
                    refine wp_region_ord 23 [(0, true), (1, true), (2, true), (3, true), (4, true), (5, true), (6, true), (7, true), (8, true), (9, true), (10, true), (11, true), (12, true), (13, true), (14, true), (15, true), (16, true), (17, true), (18, true), (19, true), (20, true), (21, true), (22, true)] (by kernel_rfl) (by kernel_rfl) ?_
                    intro Wc hWc
                    apply OrdAt.op (fun _ _ _ h => h) rfl rfl rfl
                    · intro X hB
                      have s0 := rd (hWc.tr hB) A0.out
                      have s1 := rd (hWc.tr hB) A1.out
                      have s2 := rd (hWc.tr hB) A2.out
                      have s3 := rd (hWc.tr hB) A3.out
                      go_simp
                      try rfl
                    · dsimp only [List.set_cons_zero, List.set_cons_succ]
                    iterate 3
                      apply OrdAt.op (fun _ _ _ h => h) rfl rfl rfl
                      · intro X hB
                        go_simp
                        try rfl
                      · dsimp only [List.set_cons_zero, List.set_cons_succ]
                    apply OrdAt.op (fun _ _ _ h => h) rfl rfl rfl
                    · intro X hB
                      have s := rd (hWc.tr hB) F0.out
                      go_simp
                      try rfl
                    · dsimp only [List.set_cons_zero, List.set_cons_succ]
                    iterate 3
                      apply OrdAt.op (fun _ _ _ h => h) rfl rfl rfl
                      · intro X hB
                        go_simp
                        try rfl
                      · dsimp only [List.set_cons_zero, List.set_cons_succ]
                    apply OrdAt.op (fun _ _ _ h => h) rfl rfl rfl
                    · intro X hB
                      have s := rd (hWc.tr hB) F1.out
                      go_simp
                      try rfl
                    · dsimp only [List.set_cons_zero, List.set_cons_succ]
                    apply OrdAt.call (fun _ _ _ h => h) rfl rfl rfl
                    · intro X hB
                      go_simp
                      first | exact ⟨rfl, rfl⟩ | rfl
                    · intro X hB
                      refine (CA2.out _).mono ?_; rintro e W1 ⟨rfl, hb⟩; exact ⟨rfl, hb⟩
                    · dsimp only [List.set_cons_zero, List.set_cons_succ]
                    apply OrdAt.op (fun _ _ _ h => h) rfl rfl rfl
                    · intro X hB
                      go_simp
                      try rfl
                    · dsimp only [List.set_cons_zero, List.set_cons_succ]
                    apply OrdAt.op_not (fun _ _ _ h => h) rfl rfl rfl
                    · dsimp only [List.set_cons_zero, List.set_cons_succ]
                    apply OrdAt.op_not (fun _ _ _ h => h) rfl rfl rfl
                    · dsimp only [List.set_cons_zero, List.set_cons_succ]
                    apply OrdAt.op_not (fun _ _ _ h => h) rfl rfl rfl
                    · dsimp only [List.set_cons_zero, List.set_cons_succ]
                    apply OrdAt.op_not (fun _ _ _ h => h) rfl rfl rfl
                    · dsimp only [List.set_cons_zero, List.set_cons_succ]
                    apply OrdAt.op_not (fun _ _ _ h => h) rfl rfl rfl
                    · dsimp only [List.set_cons_zero, List.set_cons_succ]
                    apply OrdAt.op_not (fun _ _ _ h => h) rfl rfl rfl
                    · dsimp only [List.set_cons_zero, List.set_cons_succ]
                    apply OrdAt.op_not (fun _ _ _ h => h) rfl rfl rfl
                    · dsimp only [List.set_cons_zero, List.set_cons_succ]
                    apply OrdAt.op_not (fun _ _ _ h => h) rfl rfl rfl
                    · dsimp only [List.set_cons_zero, List.set_cons_succ]
                    apply OrdAt.op_not (fun _ _ _ h => h) rfl rfl rfl
                    · dsimp only [List.set_cons_zero, List.set_cons_succ]
                    apply OrdAt.op_not (fun _ _ _ h => h) rfl rfl rfl
                    · dsimp only [List.set_cons_zero, List.set_cons_succ]
                    apply OrdAt.op_not (fun _ _ _ h => h) rfl rfl rfl
                    · dsimp only [List.set_cons_zero, List.set_cons_succ]
                    apply OrdAt.op (fun _ _ _ h => h) rfl rfl rfl
                    · intro X hB
                      go_simp
                      try rfl
                    · dsimp only [List.set_cons_zero, List.set_cons_succ]
                    refine OrdAt.done ?_
                    intro W5 hW5
                    have HBs := Lib.hid (HBq.out.trans ((hWc.tr hW5).mono HBq.out.size))
                    clear hW5
                    go_wp2_with (fail)
                    go_roundw
                    case rel => exact ⟨q + 1, by omega, by go_num, HBs, Hpq1⟩
                    case measure => simp [intOf]; omega
                  | true =>
                    cases s with
                    | true =>
                      have Hpq1 := Lib.hid (Hpq.out fun _ => rfl)
                      clear Hpq Hno5
                      go_wp2_with (fail)
                      refine wp_region_ord 23 [(0, true), (1, true), (2, true), (3, true), (4, true), (5, true), (6, true), (7, true), (8, true), (9, true), (10, true), (11, true), (12, true), (13, true), (14, true), (15, true), (16, true), (17, true), (18, true), (19, true), (20, true), (21, true), (22, true)] (by kernel_rfl) (by kernel_rfl) ?_
                      intro Wc hWc
                      apply OrdAt.op (fun _ _ _ h => h) rfl rfl rfl
                      · intro X hB
                        have s0 := rd (hWc.tr hB) A0.out
                        have s1 := rd (hWc.tr hB) A1.out
                        have s2 := rd (hWc.tr hB) A2.out
                        have s3 := rd (hWc.tr hB) A3.out
                        go_simp
                        try rfl
                      · dsimp only [List.set_cons_zero, List.set_cons_succ]
                      iterate 3
                        apply OrdAt.op (fun _ _ _ h => h) rfl rfl rfl
                        · intro X hB
                          go_simp
                          try rfl
                        · dsimp only [List.set_cons_zero, List.set_cons_succ]
                      apply OrdAt.op (fun _ _ _ h => h) rfl rfl rfl
                      · intro X hB
                        have s := rd (hWc.tr hB) F0.out
                        go_simp
                        try rfl
                      · dsimp only [List.set_cons_zero, List.set_cons_succ]
                      iterate 3
                        apply OrdAt.op (fun _ _ _ h => h) rfl rfl rfl
                        · intro X hB
                          go_simp
                          try rfl
                        · dsimp only [List.set_cons_zero, List.set_cons_succ]
                      apply OrdAt.op (fun _ _ _ h => h) rfl rfl rfl
                      · intro X hB
                        have s := rd (hWc.tr hB) F1.out
                        go_simp
                        try rfl
                      · dsimp only [List.set_cons_zero, List.set_cons_succ]
                      apply OrdAt.call (fun _ _ _ h => h) rfl rfl rfl
                      · intro X hB
                        go_simp
                        first | exact ⟨rfl, rfl⟩ | rfl
                      · intro X hB
                        refine (CA2.out _).mono ?_; rintro e W1 ⟨rfl, hb⟩; exact ⟨rfl, hb⟩
                      · dsimp only [List.set_cons_zero, List.set_cons_succ]
                      apply OrdAt.op (fun _ _ _ h => h) rfl rfl rfl
                      · intro X hB
                        go_simp
                        try rfl
                      · dsimp only [List.set_cons_zero, List.set_cons_succ]
                      iterate 4
                        apply OrdAt.op_if (fun _ _ _ h => h) rfl rfl rfl
                        · intro X hB
                          go_simp
                          try rfl
                        · dsimp only [List.set_cons_zero, List.set_cons_succ]
                      apply OrdAt.op_if (fun _ _ _ h => h) rfl rfl rfl
                      · intro X hB
                        have s := rd (hWc.tr hB) F0.out
                        go_simp
                        try rfl
                      · dsimp only [List.set_cons_zero, List.set_cons_succ]
                      iterate 3
                        apply OrdAt.op_if (fun _ _ _ h => h) rfl rfl rfl
                        · intro X hB
                          go_simp
                          try rfl
                        · dsimp only [List.set_cons_zero, List.set_cons_succ]
                      apply OrdAt.op_if (fun _ _ _ h => h) rfl rfl rfl
                      · intro X hB
                        have s := rd (hWc.tr hB) F1.out
                        go_simp
                        try rfl
                      · dsimp only [List.set_cons_zero, List.set_cons_succ]
                      apply OrdAt.call (fun _ _ _ h => h) rfl rfl rfl
                      · intro X hB
                        go_simp
                        first | exact ⟨rfl, rfl⟩ | rfl
                      · intro X hB
                        refine (CH2.out _ _ _ (Hxq.out.below (hWc.tr hB))).mono ?_; rintro e W1 ⟨rfl, hb⟩; exact ⟨rfl, hb⟩
                      · dsimp only [List.set_cons_zero, List.set_cons_succ]
                      apply OrdAt.op_if (fun _ _ _ h => h) rfl rfl rfl
                      · intro X hB
                        go_simp
                        try rfl
                      · dsimp only [List.set_cons_zero, List.set_cons_succ]
                      apply OrdAt.op (fun _ _ _ h => h) rfl rfl rfl
                      · intro X hB
                        go_simp
                        try rfl
                      · dsimp only [List.set_cons_zero, List.set_cons_succ]
                      refine OrdAt.done ?_
                      intro W5 hW5
                      have HBs := Lib.hid (HBq.out.trans ((hWc.tr hW5).mono HBq.out.size))
                      clear hW5
                      go_wp2_with (fail)
                      go_roundw
                      case rel => exact ⟨q + 1, by omega, by go_num, HBs, Hpq1⟩
                      case measure => simp [intOf]; omega
                    | false =>
                      have HTf := Lib.hid (Hno5.out rfl rfl)
                      clear Hpq Hno5
                      go_wp2_with (fail)
                      refine wp_region_ord 23 [(0, true), (1, true), (2, true), (3, true), (4, true), (5, true), (6, true), (7, true), (8, true), (9, true), (10, true), (11, true), (12, true), (13, true), (14, true), (15, true), (16, true), (17, true), (18, true), (19, true), (20, true), (21, true), (22, true)] (by kernel_rfl) (by kernel_rfl) ?_
                      intro Wc hWc
                      apply OrdAt.op (fun _ _ _ h => h) rfl rfl rfl
                      · intro X hB
                        have s0 := rd (hWc.tr hB) A0.out
                        have s1 := rd (hWc.tr hB) A1.out
                        have s2 := rd (hWc.tr hB) A2.out
                        have s3 := rd (hWc.tr hB) A3.out
                        go_simp
                        try rfl
                      · dsimp only [List.set_cons_zero, List.set_cons_succ]
                      iterate 3
                        apply OrdAt.op (fun _ _ _ h => h) rfl rfl rfl
                        · intro X hB
                          go_simp
                          try rfl
                        · dsimp only [List.set_cons_zero, List.set_cons_succ]
                      apply OrdAt.op (fun _ _ _ h => h) rfl rfl rfl
                      · intro X hB
                        have s := rd (hWc.tr hB) F0.out
                        go_simp
                        try rfl
                      · dsimp only [List.set_cons_zero, List.set_cons_succ]
                      iterate 3
                        apply OrdAt.op (fun _ _ _ h => h) rfl rfl rfl
                        · intro X hB
                          go_simp
                          try rfl
                        · dsimp only [List.set_cons_zero, List.set_cons_succ]
                      apply OrdAt.op (fun _ _ _ h => h) rfl rfl rfl
                      · intro X hB
                        have s := rd (hWc.tr hB) F1.out
                        go_simp
                        try rfl
                      · dsimp only [List.set_cons_zero, List.set_cons_succ]
                      apply OrdAt.call (fun _ _ _ h => h) rfl rfl rfl
                      · intro X hB
                        go_simp
                        first | exact ⟨rfl, rfl⟩ | rfl
                      · intro X hB
                        refine (CA2.out _).mono ?_; rintro e W1 ⟨rfl, hb⟩; exact ⟨rfl, hb⟩
                      · dsimp only [List.set_cons_zero, List.set_cons_succ]
                      apply OrdAt.op (fun _ _ _ h => h) rfl rfl rfl
                      · intro X hB
                        go_simp
                        try rfl
                      · dsimp only [List.set_cons_zero, List.set_cons_succ]
                      iterate 4
                        apply OrdAt.op_if (fun _ _ _ h => h) rfl rfl rfl
                        · intro X hB
                          go_simp
                          try rfl
                        · dsimp only [List.set_cons_zero, List.set_cons_succ]
                      apply OrdAt.op_if (fun _ _ _ h => h) rfl rfl rfl
                      · intro X hB
                        have s := rd (hWc.tr hB) F0.out
                        go_simp
                        try rfl
                      · dsimp only [List.set_cons_zero, List.set_cons_succ]
                      iterate 3
                        apply OrdAt.op_if (fun _ _ _ h => h) rfl rfl rfl
                        · intro X hB
                          go_simp
                          try rfl
                        · dsimp only [List.set_cons_zero, List.set_cons_succ]
                      apply OrdAt.op_if (fun _ _ _ h => h) rfl rfl rfl
                      · intro X hB
                        have s := rd (hWc.tr hB) F1.out
                        go_simp
                        try rfl
                      · dsimp only [List.set_cons_zero, List.set_cons_succ]
                      apply OrdAt.call (fun _ _ _ h => h) rfl rfl rfl
                      · intro X hB
                        go_simp
                        first | exact ⟨rfl, rfl⟩ | rfl
                      · intro X hB
                        refine (CH2.out _ _ _ (Hxq.out.below (hWc.tr hB))).mono ?_; rintro e W1 ⟨rfl, hb⟩; exact ⟨rfl, hb⟩
                      · dsimp only [List.set_cons_zero, List.set_cons_succ]
                      apply OrdAt.op_if (fun _ _ _ h => h) rfl rfl rfl
                      · intro X hB
                        go_simp
                        try rfl
                      · dsimp only [List.set_cons_zero, List.set_cons_succ]
                      apply OrdAt.op (fun _ _ _ h => h) rfl rfl rfl
                      · intro X hB
                        go_simp
                        try rfl
                      · dsimp only [List.set_cons_zero, List.set_cons_succ]
                      refine OrdAt.done ?_
                      intro W5 hW5
                      have HBs := Lib.hid (HBo.out.trans ((hWc.tr hW5).mono HBo.out.size))
                      clear hW5
                      go_wp2_with (fail)
                      rw [HTf.out]
                      exact ⟨rfl, _, results_tmp2 rfl _ _ _, rfl, HBs.out⟩
                · obtain rfl : q = YL.length := by omega
                  have tq : decide ((YL.length : Int) < (YL.length : Int)) = false := decide_eq_false (by omega)
                  have Hpp1 := Lib.hid (Hpp.out HPq.out)
                  go_wp2_with (fail)
                  go_roundw
                  case rel => exact ⟨p + 1, by omega, by go_num, HBr, Hpp1⟩
                  case measure => simp [intOf]; omega
            · obtain rfl : p = XL.length := by omega
              have tp : decide ((XL.length : Int) < (XL.length : Int)) = false := decide_eq_false (by omega)
              have HTt := Lib.hid (Hy3.out HPp.out)
              have HBo := Lib.hid (HBk.out.trans (HBp.out.mono HBk.out.size))
              go_wp2_with (fail)
              rw [HTt.out]
              exact ⟨rfl, _, results_tmp2 rfl _ _ _, rfl, HBo.out⟩

theorem c20 (r : Rect) (A : Option Addr) (xs : List Rect) (c : Nat) (w : World) (hx : Rects w A xs) (hl : xs.length ≤ 1000000) :
    Calls Try.prog 26 #[.agg r.arr, .slice A xs.length c] w fun e w' => e = .returned (.tuple #[.bool (tiles r xs), .int .i64 (erT r xs)]) ∧ Below w.heap.size w w' := by
  unfold tiles erT
  cases ho : okT r xs with
  | false =>
    rw [if_neg (by simp), Bool.false_and]
    exact c20_wrong r A xs c w hx (by omega) ho
  | true =>
    rw [if_pos rfl, Bool.true_and]
    have h := okT_iff.1 ho
    exact c20_ok r A xs c w hx h.2.1 h.1 h.2.2

theorem cov_iff {r : Rect} {l : List Rect} : (∀ p ∈ cov r l r, ∃ a ∈ l, p ∈ cov r l a) ↔ ∀ x ∈ xsOf r l, ∀ y ∈ ysOf r l, atR r x y = true → ∃ a ∈ l, atR a x y = true := by
  unfold cov
  constructor
  · intro h x hx y hy ha
    obtain ⟨i, hi, rfl⟩ := List.getElem_of_mem hx
    obtain ⟨j, hj, rfl⟩ := List.getElem_of_mem hy
    have e1 : (xsOf r l)[i]?.getD 0 = (xsOf r l)[i] := by rw [List.getElem?_eq_getElem hi]; rfl
    have e2 : (ysOf r l)[j]?.getD 0 = (ysOf r l)[j] := by rw [List.getElem?_eq_getElem hj]; rfl
    obtain ⟨a, h1, h2⟩ := h (i, j) (covTo_mem.2 ⟨hi, hj, by rw [e1, e2]; exact ha⟩)
    have h3 := (covTo_mem.1 h2).2.2
    rw [e1, e2] at h3
    exact ⟨a, h1, h3⟩
  · intro h p hp
    obtain ⟨h1, h2, h3⟩ := covTo_mem.1 hp
    have e1 : (xsOf r l)[p.1]?.getD 0 = (xsOf r l)[p.1] := by rw [List.getElem?_eq_getElem h1]; rfl
    have e2 : (ysOf r l)[p.2]?.getD 0 = (ysOf r l)[p.2] := by rw [List.getElem?_eq_getElem h2]; rfl
    rw [e1, e2] at h3
    obtain ⟨a, h4, h5⟩ := h _ (List.getElem_mem h1) _ (List.getElem_mem h2) h3
    exact ⟨a, h4, covTo_mem.2 ⟨h1, h2, by rw [e1, e2]; exact h5⟩⟩

theorem tl_of {r : Rect} {l : List Rect} : Tl r l ↔ (∀ a ∈ l, meet r a = a) ∧ l.Pairwise (fun a b => pts (meet b a) = false) ∧ (∀ x ∈ xsOf r l, ∀ y ∈ ysOf r l, atR r x y = true → ∃ a ∈ l, atR a x y = true) := by
  unfold Tl
  rw [pair_iff, cov_iff]

theorem meet_within {r a : Rect} (hr : right r = true) (ha : right a = true) (hp : pts a = true) (h1 : r.x ≤ a.x) (h2 : a.x + a.w ≤ r.x + r.w) (h3 : r.y ≤ a.y) (h4 : a.y + a.h ≤ r.y + r.h) : meet r a = a := by
  unfold pts at hp
  simp only [Bool.and_eq_true, decide_eq_true_eq] at hp
  have m1 : max r.x a.x = a.x := by omega
  have m2 : max r.y a.y = a.y := by omega
  have m3 : min (r.x + r.w) (a.x + a.w) = a.x + a.w := by omega
  have m4 : min (r.y + r.h) (a.y + a.h) = a.y + a.h := by omega
  unfold meet
  rw [m1, m2, m3, m4, if_pos ⟨hr, ha, by omega, by omega⟩]
  obtain ⟨x, y, c, d⟩ := a
  simp only [Rect.mk.injEq, true_and]
  exact ⟨by omega, by omega⟩

theorem meet_apart {a b : Rect} (h : a.x + a.w ≤ b.x ∨ b.x + b.w ≤ a.x ∨ a.y + a.h ≤ b.y ∨ b.y + b.h ≤ a.y) : pts (meet a b) = false := by
  unfold meet
  rw [if_neg (by omega)]
  decide

theorem at_iff {a : Rect} {x y : Int} : atR a x y = true ↔ a.x ≤ x ∧ x < a.x + a.w ∧ a.y ≤ y ∧ y < a.y + a.h := by
  unfold atR
  simp only [Bool.and_eq_true, decide_eq_true_eq]
  omega

theorem grid_filter {l : List Rect} (h : ∀ a ∈ l, pts a = true) : l.filter pts = l := List.filter_eq_self.2 h

theorem okT_of {r : Rect} {l : List Rect} (hr : right r = true) (hl : l.length ≤ 400) (h : ∀ a ∈ l, right a = true) : okT r l = true := okT_iff.2 ⟨hr, hl, wrongs_iff.2 h⟩

theorem tiles_of {r : Rect} {l : List Rect} (hr : right r = true) (hl : l.length ≤ 400) (h : ∀ a ∈ l, right a = true) (hp : ∀ a ∈ l, pts a = true) : tiles r l = decide (Tl r l) ∧ erT r l = 0 := by
  have k := okT_of hr hl h
  unfold tiles erT
  rw [if_pos k, k, Bool.true_and, grid_filter hp]
  exact ⟨rfl, rfl⟩

/-- a piece of one axis across pieces of the other one -/
def mk (p q : Nat → Int) (k : Nat × Nat × Nat) : Rect := ⟨p k.1, q k.2.1, p (k.1 + 1) - p k.1, q k.2.2 - q k.2.1⟩
def apartK (k m : Nat × Nat × Nat) : Prop := k.1 ≠ m.1 ∨ k.2.2 ≤ m.2.1 ∨ m.2.2 ≤ k.2.1
theorem rise {p : Nat → Int} {N : Nat} (hp : ∀ j, j < N → p j ≤ p (j + 1)) {i : Nat} : ∀ d, i + d ≤ N → p i ≤ p (i + d)
  | 0, _ => Int.le_refl _
  | d + 1, h => Int.le_trans (rise hp d (by omega)) (hp (i + d) (by omega))
theorem rise_le {p : Nat → Int} {N : Nat} (hp : ∀ j, j < N → p j ≤ p (j + 1)) {i j : Nat} (hij : i ≤ j) (hj : j ≤ N) : p i ≤ p j := by
  have := rise hp (i := i) (j - i) (by omega)
  rwa [show i + (j - i) = j by omega] at this
theorem find_piece {p : Nat → Int} {x : Int} (h0 : p 0 ≤ x) : ∀ n, x < p n → ∃ j, j < n ∧ p j ≤ x ∧ x < p (j + 1)
  | 0, h => absurd h (by omega)
  | n + 1, h => by
    by_cases h1 : p n ≤ x
    · exact ⟨n, by omega, h1, h⟩
    · obtain ⟨j, a, b⟩ := find_piece h0 n (by omega)
      exact ⟨j, by omega, b⟩
theorem right_of {r : Rect} (h : -1152921504606846976 ≤ r.x ∧ r.x ≤ 1152921504606846975 ∧ -1152921504606846976 ≤ r.y ∧ r.y ≤ 1152921504606846975 ∧ 0 ≤ r.w ∧ r.w ≤ 1152921504606846975 ∧ 0 ≤ r.h ∧ r.h ≤ 1152921504606846975) : right r = true := by
  rw [right_iff]; omega

/-- keys that are apart and reach all pieces tile -/
theorem keys_tile (p q : Nat → Int) (N M : Nat) (hp : ∀ j, j < N → p j ≤ p (j + 1)) (hq : ∀ j, j < M → q j ≤ q (j + 1)) (p0 : p 0 = 0) (q0 : q 0 = 0)
    (pN : p N ≤ 1000000000000000) (qM : q M ≤ 1000000000000000) (K : List (Nat × Nat × Nat)) (hK : ∀ k ∈ K, k.1 < N ∧ k.2.1 ≤ k.2.2 ∧ k.2.2 ≤ M)
    (hA : K.Pairwise apartK) (hC : ∀ i j, i < N → j < M → p i < p (i + 1) → q j < q (j + 1) → ∃ k ∈ K, k.1 = i ∧ k.2.1 ≤ j ∧ j < k.2.2) (hlen : K.length ≤ 400) :
    tiles ⟨0, 0, p N, q M⟩ (K.map (mk p q)) = true ∧ erT ⟨0, 0, p N, q M⟩ (K.map (mk p q)) = 0 := by
  have hpN := rise_le hp (Nat.zero_le N) (Nat.le_refl _)
  have hqM := rise_le hq (Nat.zero_le M) (Nat.le_refl _)
  have hbd : ∀ k ∈ K, 0 ≤ p k.1 ∧ p k.1 ≤ p (k.1 + 1) ∧ p (k.1 + 1) ≤ p N ∧ 0 ≤ q k.2.1 ∧ q k.2.1 ≤ q k.2.2 ∧ q k.2.2 ≤ q M := fun k hk => by
    obtain ⟨h1, h2, h3⟩ := hK k hk
    have a1 := rise_le hp (Nat.zero_le k.1) (by omega)
    have a2 := hp k.1 h1
    have a3 := rise_le hp (i := k.1 + 1) (j := N) (by omega) (Nat.le_refl _)
    have a4 := rise_le hq (Nat.zero_le k.2.1) (by omega)
    have a5 := rise_le hq h2 h3
    have a6 := rise_le hq h3 (Nat.le_refl _)
    omega
  have hr : right ⟨0, 0, p N, q M⟩ = true := right_of (by dsimp only; omega)
  have hall : ∀ a ∈ K.map (mk p q), right a = true := fun a ha => by
    obtain ⟨k, hk, rfl⟩ := List.mem_map.1 ha
    have := hbd k hk
    exact right_of (by unfold mk; dsimp only; omega)
  have ok := okT_of hr (by simpa using hlen) hall
  unfold tiles erT
  rw [if_pos ok, ok, Bool.true_and]
  refine ⟨decide_eq_true (tl_of.2 ⟨fun a ha => ?_, ?_, fun x _ y _ hxy => ?_⟩), rfl⟩
  · obtain ⟨ha1, ha2⟩ := List.mem_filter.1 ha
    obtain ⟨k, hk, rfl⟩ := List.mem_map.1 ha1
    have := hbd k hk
    refine meet_within hr (hall _ ha1) ha2 ?_ ?_ ?_ ?_ <;> (unfold mk; dsimp only; omega)
  · refine List.Pairwise.filter _ (List.pairwise_map.2 ?_)
    refine List.Pairwise.imp_of_mem ?_ hA
    intro k m hk hm h
    refine meet_apart ?_
    obtain ⟨h1, h2, h3⟩ := hK k hk
    obtain ⟨m1, m2, m3⟩ := hK m hm
    unfold mk
    dsimp only
    rcases h with h | h | h
    · rcases Nat.lt_or_gt_of_ne h with h | h
      · have := rise_le hp (i := k.1 + 1) (j := m.1) (by omega) (by omega)
        omega
      · have := rise_le hp (i := m.1 + 1) (j := k.1) (by omega) (by omega)
        omega
    · have := rise_le hq h (by omega)
      omega
    · have := rise_le hq h (by omega)
      omega
  · have h1 := at_iff.1 hxy
    dsimp only at h1
    obtain ⟨i, hi, i1, i2⟩ := find_piece (p := p) (x := x) (by omega) N (by omega)
    obtain ⟨j, hj, j1, j2⟩ := find_piece (p := q) (x := y) (by omega) M (by omega)
    obtain ⟨k, hk, rfl, k2, k3⟩ := hC i j hi hj (by omega) (by omega)
    obtain ⟨h4, h5, h6⟩ := hK k hk
    have b1 := rise_le hq k2 (by omega)
    have b2 := rise_le hq (i := j + 1) (j := k.2.2) (by omega) h6
    have hat : atR (mk p q k) x y = true := at_iff.2 (by unfold mk; dsimp only; omega)
    exact ⟨_, List.mem_filter.2 ⟨List.mem_map_of_mem hk, atR_pts hat⟩, hat⟩

end Go.Proofs.Ytnjifmoclfgegaa.RT
