/- The contract of contest.Winner where there is no winner, what is equal, and of purflinglaw11.shown. -/
import Derived.Test.YtffnnfdlelaonaaE
namespace Go.Proofs.Ytffnnfdlelaonaa
open Go.RowKit Go.Shelf
set_option linter.unusedVariables false

theorem c15_empty (A : Option Addr) (c : Nat) (w : World) :
    Calls Try.prog 15 #[.slice A 0 c] w fun e w' => e = .returned (.tuple #[.agg (default : Side).arr, .int .i64 110]) ∧ Below w.heap.size w w' := by
  go_enter Try.func15, Try.ntmps15
  go_wp2
  refine wp_scope_straight ?_
  go_wp2
  rw [Exit.noGoto_ret]
  refine ⟨rfl, .tuple #[.agg (default : Side).arr, .int .i64 110], by simp [results, Try.results15, go_sem, Side.arr, default], rfl, ?_⟩
  exact (Below.refl _ w).alloc (Nat.le_refl _) _

theorem c15_wrong (A : Option Addr) (xs : List Side) (c : Nat) (w : World) (hx : Sides w A xs) (hl : xs.length ≤ 17592186044416) (hw : wrongs xs = true) :
    Calls Try.prog 15 #[.slice A xs.length c] w fun e w' => e = .returned (.tuple #[.agg (default : Side).arr, .int .i64 110]) ∧ Below w.heap.size w w' := by
  have hpos : 0 < xs.length := by
    cases xs with
    | nil => simp [wrongs] at hw
    | cons x l => simp
  have H25 := Lib.hid (fun W (h : Sides W A xs) => by have := c25 A xs c W h hl; rw [hw] at this; exact this)
  have hbw : Below w.heap.size w (w.alloc (.cells (default : Side).arr 30)) := (Below.refl _ w).alloc (Nat.le_refl _) _
  have Hx := Lib.hid (hx.below hbw)
  have Hbw := Lib.hid hbw
  have t1 : ((xs.length : Int) == 0) = false := by rw [beq_eq_false_iff_ne]; omega
  have t2 : (xs.length == 0) = false := by rw [beq_eq_false_iff_ne]; omega
  clear hx hbw hw hpos
  go_enter Try.func15, Try.ntmps15
  go_wp2
  refine wp_scope_straight ?_
  go_wp2_with (fail)
  refine (H25.out _ Hx.out).mono ?_
  rintro e w1 ⟨rfl, hb1⟩
  have R := (Row.new w default).turn hb1
  obtain ⟨z0, z1, z2, z3, z4, z5⟩ := R.side
  have f0 := R.frozen 0
  have f1 := R.frozen 1
  have f2 := R.frozen 2
  have f3 := R.frozen 3
  have f4 := R.frozen 4
  have f5 := R.frozen 5
  have hR := R.put default
  have hbl := (Hbw.out.trans (hb1.mono (by simp))).trans (put6_below (W := w1) (B := w.heap.size) (C := w.heap.size) default (Nat.le_refl _) (by have := hb1.size; rw [World.size_alloc] at this; omega))
  unfold put6 at hR hbl
  have HR := Lib.hid hR
  have Hbl := Lib.hid hbl
  clear hR hbl
  go_wp2
  rw [Exit.noGoto_ret]
  obtain ⟨W2, hW2⟩ : ∃ W2, ((((((w1.setCell ⟨w.heap.size, 0, none⟩ (.int .i64 0)).setCell ⟨w.heap.size, 1, none⟩ (.int .i64 0)).setCell ⟨w.heap.size, 2, none⟩ (.int .u32 0)).setCell ⟨w.heap.size, 3, none⟩ (.int .i64 0)).setCell ⟨w.heap.size, 4, none⟩ (.int .i64 0)).setCell ⟨w.heap.size, 5, none⟩ (.int .i64 0)) = W2 := ⟨_, rfl⟩
  rw [hW2]
  have hR2 : Row W2 w.heap.size default := by rw [← hW2]; exact HR.out
  have hB2 : Below w.heap.size w W2 := by rw [← hW2]; exact Hbl.out
  obtain ⟨z0, z1, z2, z3, z4, z5⟩ := hR2.side
  refine ⟨rfl, .tuple #[.agg (default : Side).arr, .int .i64 110], by simp [results, Try.results15, go_sem, Side.arr, *], rfl, hB2⟩

theorem eq30 (a b : Side) (w : World) : (Op.equalIn 10000 30 (.agg a.arr) (.agg b.arr)).run Try.prog w = .ok (decide (a = b)) w := by
  obtain ⟨a0, a1, a2, a3, a4, a5⟩ := a
  obtain ⟨b0, b1, b2, b3, b4, b5⟩ := b
  simp only [Side.arr]
  rw [show (10000 : Nat) = 9999 + 1 from rfl, Op.equalIn]
  simp only [Sem.run_bind, run_underlying Try.underlying30, Result.andThen_ok]
  go_simp
  by_cases h0 : a0 = b0 <;> by_cases h1 : a1 = b1 <;> by_cases h2 : a2 = b2 <;> by_cases h3 : a3 = b3 <;> by_cases h4 : a4 = b4 <;> by_cases h5 : a5 = b5 <;> simp [h0, h1, h2, h3, h4, h5]

def sTwo : Side := ⟨3, 2, 0, 0, 0, 0⟩
def sOne : Side := ⟨2, 1, 0, 0, 0, 0⟩
def sNone : Side := ⟨1, 0, 0, 5, 0, 0⟩
theorem sides_of (W : World) (l : List Side) (t : TypeId) (cs : Array Value) (hcs : ∀ j, j < l.length → ∀ i, i < 6 → cs[j * 6 + i]? = ((l[j]?.getD default).arr)[i]?) : Sides (W.alloc (.cells cs t)) (some ⟨W.heap.size, 0, none⟩) l := fun j hj => by
  refine ⟨W.heap.size, 0, rfl, ?_⟩
  have h := heap_alloc_new W (.cells cs t)
  obtain ⟨W', hW'⟩ : ∃ W', W.alloc (.cells cs t) = W' := ⟨_, rfl⟩
  rw [hW'] at h ⊢
  have h0 := hcs j hj 0 (by omega)
  have h1 := hcs j hj 1 (by omega)
  have h2 := hcs j hj 2 (by omega)
  have h3 := hcs j hj 3 (by omega)
  have h4 := hcs j hj 4 (by omega)
  have h5 := hcs j hj 5 (by omega)
  refine ⟨?_, ?_, ?_, ?_, ?_, ?_⟩
  · simp only [World.cell?, h, Nat.zero_add]; exact h0
  · simp only [World.cell?, h, Nat.zero_add]; exact h1
  · simp only [World.cell?, h, Nat.zero_add]; exact h2
  · simp only [World.cell?, h, Nat.zero_add]; exact h3
  · simp only [World.cell?, h, Nat.zero_add]; exact h4
  · simp only [World.cell?, h, Nat.zero_add]; exact h5

theorem h15a (W : World) : Calls Try.prog 15 #[.slice (some ⟨W.heap.size, 0, none⟩) 3 3] (W.alloc (.cells #[.int .i64 3, .int .i64 2, .int .u32 0, .int .i64 0, .int .i64 0, .int .i64 0, .int .i64 2, .int .i64 1, .int .u32 0, .int .i64 0, .int .i64 0, .int .i64 0, .int .i64 1, .int .i64 0, .int .u32 0, .int .i64 5, .int .i64 0, .int .i64 0] 30))
    fun e w' => e = .returned (.tuple #[.agg sNone.arr, .int .i64 0]) ∧ Below (W.heap.size + 1) (W.alloc (.cells #[.int .i64 3, .int .i64 2, .int .u32 0, .int .i64 0, .int .i64 0, .int .i64 0, .int .i64 2, .int .i64 1, .int .u32 0, .int .i64 0, .int .i64 0, .int .i64 0, .int .i64 1, .int .i64 0, .int .u32 0, .int .i64 5, .int .i64 0, .int .i64 0] 30)) w' := by
  have h := c15_right (some ⟨W.heap.size, 0, none⟩) [sTwo, sOne, sNone] 3 _ (sides_of W [sTwo, sOne, sNone] 30 #[.int .i64 3, .int .i64 2, .int .u32 0, .int .i64 0, .int .i64 0, .int .i64 0, .int .i64 2, .int .i64 1, .int .u32 0, .int .i64 0, .int .i64 0, .int .i64 0, .int .i64 1, .int .i64 0, .int .u32 0, .int .i64 5, .int .i64 0, .int .i64 0] (by
      intro j hj i hi
      match j, i with
      | 0, 0 => rfl
      | 0, 1 => rfl
      | 0, 2 => rfl
      | 0, 3 => rfl
      | 0, 4 => rfl
      | 0, 5 => rfl
      | 1, 0 => rfl
      | 1, 1 => rfl
      | 1, 2 => rfl
      | 1, 3 => rfl
      | 1, 4 => rfl
      | 1, 5 => rfl
      | 2, 0 => rfl
      | 2, 1 => rfl
      | 2, 2 => rfl
      | 2, 3 => rfl
      | 2, 4 => rfl
      | 2, 5 => rfl
      | _ + 3, _ => exact absurd hj (by simp)
      | _, _ + 6 => omega)) (by simp) (by simp [sTwo, sOne, sNone, Side.wf]) (by simp; decide) (by simp)
  have hl : led [sTwo, sOne, sNone] [sTwo, sOne, sNone].length = sNone := by decide
  rw [hl, World.size_alloc] at h
  exact h
theorem h15b (W : World) : Calls Try.prog 15 #[.slice (some ⟨W.heap.size, 0, none⟩) 2 2] (W.alloc (.cells #[.int .i64 2, .int .i64 1, .int .u32 0, .int .i64 0, .int .i64 0, .int .i64 0, .int .i64 3, .int .i64 2, .int .u32 0, .int .i64 0, .int .i64 0, .int .i64 0] 30))
    fun e w' => e = .returned (.tuple #[.agg sTwo.arr, .int .i64 0]) ∧ Below (W.heap.size + 1) (W.alloc (.cells #[.int .i64 2, .int .i64 1, .int .u32 0, .int .i64 0, .int .i64 0, .int .i64 0, .int .i64 3, .int .i64 2, .int .u32 0, .int .i64 0, .int .i64 0, .int .i64 0] 30)) w' := by
  have h := c15_right (some ⟨W.heap.size, 0, none⟩) [sOne, sTwo] 2 _ (sides_of W [sOne, sTwo] 30 #[.int .i64 2, .int .i64 1, .int .u32 0, .int .i64 0, .int .i64 0, .int .i64 0, .int .i64 3, .int .i64 2, .int .u32 0, .int .i64 0, .int .i64 0, .int .i64 0] (by
      intro j hj i hi
      match j, i with
      | 0, 0 => rfl
      | 0, 1 => rfl
      | 0, 2 => rfl
      | 0, 3 => rfl
      | 0, 4 => rfl
      | 0, 5 => rfl
      | 1, 0 => rfl
      | 1, 1 => rfl
      | 1, 2 => rfl
      | 1, 3 => rfl
      | 1, 4 => rfl
      | 1, 5 => rfl
      | _ + 2, _ => exact absurd hj (by simp)
      | _, _ + 6 => omega)) (by simp) (by simp [sTwo, sOne, Side.wf]) (by simp; decide) (by simp)
  have hl : led [sOne, sTwo] [sOne, sTwo].length = sTwo := by decide
  rw [hl, World.size_alloc] at h
  exact h

end Go.Proofs.Ytffnnfdlelaonaa
