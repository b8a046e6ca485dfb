/- Rectangles in memory, and the contracts of rect.within, of rect.Right and of the reference's Right: any rectangle. -/
import Derived.Test.YtnlojbkjhlhogaaProg
import Derived.WalkKit
import Derived.KernelRfl
import Derived.WalkLawsBesides
import Derived.WalkSpells
import Derived.Deep.QuietTactic
import Derived.BigQuiet
import Derived.Deep.LoopGhost
import Derived.Lib.Hide
import Derived.Maps.AppendAt
import Derived.OwnWalk
import Derived.Below
import Derived.Orders
import Derived.RangeFuncCalls
namespace Go.Proofs.Ytnlojbkjhlhogaa
open Go Go.RowKit
set_option linter.unusedVariables false

def Ints (w : World) (A : Option Addr) (xs : List Int) : Prop :=
  ∀ j, j < xs.length → ∃ b off, A = some ⟨b, off, none⟩ ∧ w.cell? ⟨b, off + j, none⟩ = some (.int .i64 (xs[j]?.getD 0))
theorem Ints.get {w : World} {A : Option Addr} {xs : List Int} (h : Ints w A xs) (j : Nat) (hj : j < xs.length) :
    ∃ x b off, Hid (xs[j]?.getD 0 = x) ∧ A = some ⟨b, off, none⟩ ∧ w.cell? ⟨b, off + j, none⟩ = some (.int .i64 x) :=
  let ⟨b, off, hA, hc⟩ := h j hj; ⟨_, b, off, Lib.hid rfl, hA, hc⟩
theorem Ints.below {w w' : World} {A : Option Addr} {xs : List Int} (h : Ints w A xs) (hb : Below w.heap.size w w') : Ints w' A xs := fun j hj =>
  let ⟨b, off, hA, hc⟩ := h j hj
  ⟨b, off, hA, (hb.cell (p := ⟨b, off + j, none⟩) (World.block_lt_of_cell? w _ hc)).trans hc⟩

structure Rect where
  x : Int
  y : Int
  w : Int
  h : Int
deriving DecidableEq
instance : Inhabited Rect := ⟨⟨0, 0, 0, 0⟩⟩
def Rect.arr (p : Rect) : Array Value := #[.int .i64 p.x, .int .i64 p.y, .int .i64 p.w, .int .i64 p.h]
def Rect.cells (p : Rect) : List Value := [.int .i64 p.x, .int .i64 p.y, .int .i64 p.w, .int .i64 p.h]
def RectAt (w : World) (b o : Nat) (p : Rect) : Prop :=
  w.cell? ⟨b, o, none⟩ = some (.int .i64 p.x) ∧ w.cell? ⟨b, o + 1, none⟩ = some (.int .i64 p.y) ∧ w.cell? ⟨b, o + 2, none⟩ = some (.int .i64 p.w) ∧ w.cell? ⟨b, o + 3, none⟩ = some (.int .i64 p.h)
def Rects (w : World) (A : Option Addr) (xs : List Rect) : Prop :=
  ∀ j, j < xs.length → ∃ b off, A = some ⟨b, off, none⟩ ∧ RectAt w b (off + j * 4) (xs[j]?.getD default)
theorem Rects.get {w : World} {A : Option Addr} {xs : List Rect} (h : Rects w A xs) (j : Nat) (hj : j < xs.length) :
    ∃ x b off, Hid (xs[j]?.getD default = x) ∧ A = some ⟨b, off, none⟩ ∧ RectAt w b (off + j * 4) x :=
  let ⟨b, off, hA, hc⟩ := h j hj; ⟨_, b, off, Lib.hid rfl, hA, hc⟩
theorem RectAt.below {w w' : World} {b o : Nat} {s : Rect} (h : RectAt w b o s) {B : Nat} (hb : Below B w w') (hB : b < B) : RectAt w' b o s :=
  have f := fun i => hb.cell (p := ⟨b, i, none⟩) hB
  ⟨(f _).trans h.1, (f _).trans h.2.1, (f _).trans h.2.2.1, (f _).trans h.2.2.2⟩
theorem RectAt.lt {w : World} {b o : Nat} {s : Rect} (h : RectAt w b o s) : b < w.heap.size := World.block_lt_of_cell? w _ h.1
theorem Rects.below {w w' : World} {A : Option Addr} {xs : List Rect} (h : Rects w A xs) (hb : Below w.heap.size w w') : Rects w' A xs := fun j hj =>
  let ⟨b, off, hA, hc⟩ := h j hj
  ⟨b, off, hA, hc.below hb hc.lt⟩
theorem rects_nil (w : World) (A : Option Addr) : Rects w A [] := fun j hj => absurd hj (Nat.not_lt_zero j)
theorem ints_two (w : World) (a b : Int) (t : TypeId) : Ints (w.alloc (.cells #[.int .i64 a, .int .i64 b] t)) (some ⟨w.heap.size, 0, none⟩) [a, b] := fun j hj => by
  refine ⟨w.heap.size, 0, rfl, ?_⟩
  match j, hj with
  | 0, _ => unfold World.cell?; rw [heap_alloc_new]; rfl
  | 1, _ => unfold World.cell?; rw [heap_alloc_new]; rfl

/-- all numbers lie within bounds -/
def inB (lo hi : Int) (xs : List Int) : Bool := xs.all fun n => decide (lo ≤ n ∧ n ≤ hi)
theorem inB_no {lo hi : Int} {xs : List Int} {k : Nat} (hk : k < xs.length) (h : ¬ (lo ≤ xs[k]?.getD 0 ∧ xs[k]?.getD 0 ≤ hi)) : inB lo hi xs = false := by
  unfold inB
  rw [List.all_eq_false]
  refine ⟨xs[k], List.getElem_mem hk, ?_⟩
  simp only [List.getElem?_eq_getElem hk, Option.getD_some] at h
  simpa using h
theorem inB_yes {lo hi : Int} {xs : List Int} (h : ∀ j, j < xs.length → lo ≤ xs[j]?.getD 0 ∧ xs[j]?.getD 0 ≤ hi) : inB lo hi xs = true := by
  unfold inB
  rw [List.all_eq_true]
  intro x hx
  obtain ⟨j, hj, rfl⟩ := List.getElem_of_mem hx
  have := h j hj
  simp only [List.getElem?_eq_getElem hj, Option.getD_some] at this
  simpa using this

set_option maxHeartbeats 1000000 in
theorem c29 (A : Option Addr) (xs : List Int) (c : Nat) (lo hi : Int) (w : World) (hx : Ints w A xs) (hl : xs.length ≤ 17592186044416) :
    Calls Try.prog 29 #[.int .i64 lo, .int .i64 hi, .slice A xs.length c] w fun e w' => e = .returned (.bool (inB lo hi xs)) ∧ w = w' := by
  have Hx := Lib.hid hx
  clear hx
  go_enter Try.func29, Try.ntmps29
  go_wp2
  go_loop [11] (fun i => ∃ k : Nat, k ≤ xs.length ∧ i = .int .i64 k ∧ Hid (∀ j, j < k → lo ≤ xs[j]?.getD 0 ∧ xs[j]?.getD 0 ≤ hi)) (fun i => xs.length - (intOf i).toNat)
  case atStart => exact ⟨0, Nat.zero_le _, rfl, fun j hj => absurd hj (Nat.not_lt_zero j)⟩
  case round =>
    obtain ⟨k, hk, rfl, hp⟩ := hrel
    by_cases hlt : k < xs.length
    · obtain ⟨x, b, off, hxk, rfl, hc⟩ := Hx.out.get k hlt
      by_cases h1 : x < lo
      · have Hn : Hid (inB lo hi xs = false) := Lib.hid (inB_no hlt (by rw [hxk.out]; omega))
        have t1 : decide (x < lo) = true := decide_eq_true h1
        clear h1
        go_wp2
        go_ret
        rw [Hn.out]
        exact ⟨rfl, rfl⟩
      · by_cases h2 : hi < x
        · have Hn : Hid (inB lo hi xs = false) := Lib.hid (inB_no hlt (by rw [hxk.out]; omega))
          have t1 : decide (x < lo) = false := decide_eq_false h1
          have t2 : decide (hi < x) = true := decide_eq_true h2
          clear h1 h2
          go_wp2
          go_ret
          rw [Hn.out]
          exact ⟨rfl, rfl⟩
        · have hn : Hid (∀ j, j < k + 1 → lo ≤ xs[j]?.getD 0 ∧ xs[j]?.getD 0 ≤ hi) := fun j hj => by
            by_cases e : j = k
            · subst e; rw [hxk.out]; omega
            · exact hp.out j (by omega)
          have t1 : decide (x < lo) = false := decide_eq_false h1
          have t2 : decide (hi < x) = false := decide_eq_false h2
          clear h1 h2
          go_wp2
          go_round
          case rel => exact ⟨k + 1, by omega, by go_num, hn⟩
          case measure => simp [intOf]; omega
    · obtain rfl : k = xs.length := by omega
      have Hn : Hid (inB lo hi xs = true) := Lib.hid (inB_yes hp.out)
      go_wp2
      go_ret
      rw [Hn.out]
      exact ⟨rfl, rfl⟩

/-- as it is called: behind a slice of two that is new -/
theorem k29 (lo hi a b : Int) (w W : World) (h : Nat) (hh : w.heap.size = h) (hW : W = w.alloc (.cells #[.int .i64 a, .int .i64 b] 2)) :
    Calls Try.prog 29 #[.int .i64 lo, .int .i64 hi, .slice (some ⟨h, 0, none⟩) 2 2] W fun e w' => e = .returned (.bool (inB lo hi [a, b])) ∧ W = w' := by
  subst hW
  subst hh
  have h := c29 (some ⟨w.heap.size, 0, none⟩) [a, b] 2 lo hi (w.alloc (.cells #[.int .i64 a, .int .i64 b] 2)) (ints_two w a b 2) (by simp)
  rw [show ([a, b] : List Int).length = 2 from rfl] at h
  exact h

/-- a rectangle that is right -/
def right (r : Rect) : Bool := inB (-1152921504606846976) 1152921504606846975 [r.x, r.y] && inB 0 1152921504606846975 [r.w, r.h]
theorem right_iff {r : Rect} : right r = true ↔ (-1152921504606846976 ≤ r.x ∧ r.x ≤ 1152921504606846975) ∧ (-1152921504606846976 ≤ r.y ∧ r.y ≤ 1152921504606846975) ∧ (0 ≤ r.w ∧ r.w ≤ 1152921504606846975) ∧ (0 ≤ r.h ∧ r.h ≤ 1152921504606846975) := by
  unfold right inB
  simp only [List.all_cons, List.all_nil, Bool.and_true, Bool.and_eq_true, decide_eq_true_eq, and_assoc]

end Go.Proofs.Ytnlojbkjhlhogaa
