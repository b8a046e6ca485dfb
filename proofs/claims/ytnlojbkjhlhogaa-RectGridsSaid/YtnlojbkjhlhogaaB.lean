/- Contracts of rect.Right, rect.areRight and the library's functions that it calls, of rect.hasPoints: any rectangles. -/
import Derived.Test.YtnlojbkjhlhogaaA
namespace Go.Proofs.Ytnlojbkjhlhogaa
open Go Go.RowKit
set_option linter.unusedVariables false

set_option maxHeartbeats 600000 in
theorem c14 (r : Rect) (w : World) : Calls Try.prog 14 #[.agg r.arr] w fun e w' => e = .returned (.bool (right r)) ∧ Below w.heap.size w w' := by
  obtain ⟨x, y, u, v⟩ := r
  unfold Rect.arr right
  dsimp only
  obtain ⟨X, hX⟩ : ∃ X, w.alloc (.cells #[.int .i64 x, .int .i64 y, .int .i64 u, .int .i64 v] 23) = X := ⟨_, rfl⟩
  have hB0 : Below w.heap.size w X := hX ▸ (Below.refl _ w).alloc (Nat.le_refl _) _
  have HB1 := Lib.hid (hB0.alloc (by have := hB0.size; omega) (.cells #[.int .i64 x, .int .i64 y] 2))
  have HB2 := Lib.hid (HB1.out.alloc (by have := HB1.out.size; omega) (.cells #[.int .i64 u, .int .i64 v] 2))
  have q : ∀ i, X.cell? ⟨w.heap.size, i, none⟩ = (#[.int .i64 x, .int .i64 y, .int .i64 u, .int .i64 v] : Array Value)[i]? := fun i => by
    rw [← hX]; unfold World.cell?; rw [heap_alloc_new]; rfl
  have q0 : (w.alloc (.cells #[.int .i64 x, .int .i64 y, .int .i64 u, .int .i64 v] 23)).cell? ⟨w.heap.size, 0, none⟩ = some (.int .i64 x) := by rw [hX]; exact q 0
  have q1 : (w.alloc (.cells #[.int .i64 x, .int .i64 y, .int .i64 u, .int .i64 v] 23)).cell? ⟨w.heap.size, 1, none⟩ = some (.int .i64 y) := by rw [hX]; exact q 1
  have hlt : w.heap.size < X.heap.size := by rw [← hX]; simp
  have y2 : ((w.alloc (.cells #[.int .i64 x, .int .i64 y, .int .i64 u, .int .i64 v] 23)).alloc (.cells #[.int .i64 x, .int .i64 y] 2)).cell? ⟨w.heap.size, 2, none⟩ = some (.int .i64 u) := by
    rw [hX]; exact (((Below.refl X.heap.size X).alloc (Nat.le_refl _) _).cell (p := ⟨w.heap.size, 2, none⟩) hlt).trans (q 2)
  have y3 : ((w.alloc (.cells #[.int .i64 x, .int .i64 y, .int .i64 u, .int .i64 v] 23)).alloc (.cells #[.int .i64 x, .int .i64 y] 2)).cell? ⟨w.heap.size, 3, none⟩ = some (.int .i64 v) := by
    rw [hX]; exact (((Below.refl X.heap.size X).alloc (Nat.le_refl _) _).cell (p := ⟨w.heap.size, 3, none⟩) hlt).trans (q 3)
  have HB1' := HB1.out
  rw [← hX] at HB1'
  have HC1 := Lib.hid HB1'
  have HB2' := HB2.out
  rw [← hX] at HB2'
  have HC := Lib.hid HB2'
  have K1 := Lib.hid (k29 (-1152921504606846976) 1152921504606846975 x y)
  have K2 := Lib.hid (k29 0 1152921504606846975 u v)
  clear HB2' HB1' HB1 HB2 q hB0 hlt
  clear hX
  generalize inB (-1152921504606846976) 1152921504606846975 [x, y] = p at *
  generalize inB 0 1152921504606846975 [u, v] = q at *
  go_enter Try.func14, Try.ntmps14
  go_wp2_with (fail)
  refine (K1.out (w.alloc (.cells #[.int .i64 x, .int .i64 y, .int .i64 u, .int .i64 v] 23)) _ _ (by simp) rfl).mono ?_
  rintro e w1 ⟨rfl, rfl⟩
  cases p with
  | false =>
    go_wp2_with (fail)
    go_ret
    exact ⟨rfl, HC1.out⟩
  | true =>
    go_wp2_with (fail)
    refine (K2.out ((w.alloc (.cells #[.int .i64 x, .int .i64 y, .int .i64 u, .int .i64 v] 23)).alloc (.cells #[.int .i64 x, .int .i64 y] 2)) _ _ (by simp) rfl).mono ?_
    rintro e w1 ⟨rfl, rfl⟩
    go_wp2_with (fail)
    go_ret
    exact ⟨rfl, HC.out⟩

def wrongs (xs : List Rect) : Bool := xs.any fun s => !right s
theorem wrongs_of {xs : List Rect} {k : Nat} (hk : k < xs.length) (h : right (xs[k]?.getD default) = false) : wrongs xs = true := by
  unfold wrongs
  rw [List.any_eq_true]
  refine ⟨xs[k], List.getElem_mem hk, ?_⟩
  simp [hk] at h
  simp [h]
theorem wrongs_none {xs : List Rect} (h : ∀ j, j < xs.length → right (xs[j]?.getD default) = true) : wrongs xs = false := by
  unfold wrongs
  rw [List.any_eq_false]
  intro x hx
  obtain ⟨j, hj, rfl⟩ := List.getElem_of_mem hx
  have := h j hj
  simp [hj] at this
  simp [this]
theorem wrongs_iff {xs : List Rect} : wrongs xs = false ↔ ∀ x ∈ xs, right x = true := by
  unfold wrongs
  rw [List.any_eq_false]
  simp

theorem c42 (s : Rect) (w : World) : Calls Try.prog 42 #[.agg s.arr] w fun e w' => e = .returned (.bool (!right s)) ∧ Below w.heap.size w w' := by
  have hB : Below w.heap.size w (w.alloc (.cells s.arr 23)) := (Below.refl _ _).alloc (Nat.le_refl _) _
  have H := Lib.hid (c14 s (w.alloc (.cells s.arr 23)))
  have HB := Lib.hid hB
  clear hB
  generalize hr : right s = r at *
  clear hr
  unfold Rect.arr at *
  go_enter Try.func42, Try.ntmps42
  go_wp2_with (go_at_call 14; refine H.out.mono ?_; rintro e w' ⟨rfl, hb⟩)
  go_ret
  exact ⟨rfl, HB.out.trans (hb.mono HB.out.size)⟩

def IdxSaid (xs : List Rect) (w : World) (e : Ending) (w' : World) : Prop := ∃ i : Int, e = .returned (.int .i64 i) ∧ decide (0 ≤ i) = wrongs xs ∧ Below w.heap.size w w'

set_option maxHeartbeats 400000 in
theorem c43 (A : Option Addr) (xs : List Rect) (c : Nat) (w : World) (hx : Rects w A xs) (hl : xs.length ≤ 17592186044416) :
    Calls Try.prog 43 #[.slice A xs.length c, .func (.func 42) #[] #[]] w (IdxSaid xs w) := by
  have Hx := Lib.hid hx
  clear hx
  go_enter Try.func43, Try.ntmps43
  go_wp2
  go_loopw [8] (fun i wr => ∃ k : Nat, k ≤ xs.length ∧ i = .int .i64 k ∧ Hid (∀ j, j < k → right (xs[j]?.getD default) = true) ∧ Below w.heap.size w wr) (fun i _ => xs.length - (intOf i).toNat)
  case atStart => exact ⟨0, Nat.zero_le _, rfl, fun j hj => absurd hj (Nat.not_lt_zero j), Below.refl _ _⟩
  case round =>
    obtain ⟨k, hk, rfl, hp, hB⟩ := hrel
    by_cases hlt : k < xs.length
    · obtain ⟨x, b, off, hxk, rfl, hc⟩ := (Hx.out.below hB).get k hlt
      obtain ⟨q0, q1, q2, q3⟩ := hc
      have h32 := c42 x wr
      cases hb : right x with
      | true =>
        rw [hb] at h32
        have Hb := Lib.hid hb
        clear hb
        have H32 := Lib.hid h32
        clear h32
        have hnext : Hid (∀ j, j < k + 1 → right (xs[j]?.getD default) = true) := fun j hj => by
          by_cases e : j = k
          · subst e; rw [hxk.out]; exact Hb.out
          · exact hp.out j (by omega)
        go_wp2_with (go_at_call 42; refine H32.out.mono ?_; rintro e w' ⟨rfl, hb'⟩)
        go_roundw
        case rel => exact ⟨k + 1, by omega, by go_num, hnext, hB.trans (hb'.mono hB.size)⟩
        case measure => simp [intOf]; omega
      | false =>
        rw [hb] at h32
        have Hb := Lib.hid hb
        clear hb
        have H32 := Lib.hid h32
        clear h32
        go_wp2_with (go_at_call 42; refine H32.out.mono ?_; rintro e w' ⟨rfl, hb'⟩)
        go_ret
        exact ⟨_, rfl, by rw [wrongs_of hlt (by rw [hxk.out]; exact Hb.out)]; simp, hB.trans (hb'.mono hB.size)⟩
    · obtain rfl : k = xs.length := by omega
      go_wp2
      go_ret
      exact ⟨_, rfl, by rw [wrongs_none hp.out]; decide, hB⟩

theorem c41 (A : Option Addr) (xs : List Rect) (c : Nat) (w : World) (hx : Rects w A xs) (hl : xs.length ≤ 17592186044416) :
    Calls Try.prog 41 #[.slice A xs.length c, .func (.func 42) #[] #[]] w fun e w' => e = .returned (.bool (wrongs xs)) ∧ Below w.heap.size w w' := by
  have H := Lib.hid (c43 A xs c w hx hl)
  clear hx
  go_enter Try.func41, Try.ntmps41
  go_wp2_with (go_at_call 43; refine H.out.mono ?_; rintro e w' ⟨i, rfl, hi, hb⟩; have Hi := Lib.hid hi; clear hi)
  all_goals go_ret
  all_goals rw [← Hi.out]
  all_goals exact ⟨rfl, hb⟩

/-- rect.areRight -/
theorem c25 (A : Option Addr) (xs : List Rect) (c : Nat) (w : World) (hx : Rects w A xs) (hl : xs.length ≤ 17592186044416) :
    Calls Try.prog 25 #[.slice A xs.length c] w fun e w' => e = .returned (.bool (!wrongs xs)) ∧ Below w.heap.size w w' := by
  have H := Lib.hid (c41 A xs c w hx hl)
  clear hx
  go_enter Try.func25, Try.ntmps25
  go_wp2_with (go_at_call 41; refine H.out.mono ?_; rintro e w' ⟨rfl, hb⟩)
  go_ret
  exact ⟨rfl, hb⟩

/-- a rectangle that has points -/
def pts (r : Rect) : Bool := decide (0 < r.w) && decide (0 < r.h)

theorem c33 (r : Rect) (w : World) : Calls Try.prog 33 #[.agg r.arr] w fun e w' => e = .returned (.bool (pts r)) ∧ Below w.heap.size w w' := by
  obtain ⟨x, y, u, v⟩ := r
  unfold Rect.arr pts
  dsimp only
  by_cases h1 : 0 < u
  · have t1 : decide (0 < u) = true := decide_eq_true h1
    by_cases h2 : 0 < v
    · have t2 : decide (0 < v) = true := decide_eq_true h2
      clear h1 h2
      go_enter Try.func33, Try.ntmps33
      go_wp2
      go_ret
      simp only [t1, t2]
      exact ⟨rfl, (Below.refl _ _).alloc (Nat.le_refl _) _⟩
    · have t2 : decide (0 < v) = false := decide_eq_false h2
      clear h1 h2
      go_enter Try.func33, Try.ntmps33
      go_wp2
      go_ret
      simp only [t1, t2]
      exact ⟨rfl, (Below.refl _ _).alloc (Nat.le_refl _) _⟩
  · have t1 : decide (0 < u) = false := decide_eq_false h1
    clear h1
    go_enter Try.func33, Try.ntmps33
    go_wp2
    go_ret
    simp only [t1]
    exact ⟨rfl, (Below.refl _ _).alloc (Nat.le_refl _) _⟩

theorem c32 (s : Rect) (w : World) : Calls Try.prog 32 #[.agg s.arr] w fun e w' => e = .returned (.bool (!pts s)) ∧ Below w.heap.size w w' := by
  have hB : Below w.heap.size w (w.alloc (.cells s.arr 23)) := (Below.refl _ _).alloc (Nat.le_refl _) _
  have H := Lib.hid (c33 s (w.alloc (.cells s.arr 23)))
  have HB := Lib.hid hB
  clear hB
  generalize hr : pts s = r at *
  clear hr
  unfold Rect.arr at *
  go_enter Try.func32, Try.ntmps32
  go_wp2_with (go_at_call 33; refine H.out.mono ?_; rintro e w' ⟨rfl, hb⟩)
  go_ret
  exact ⟨rfl, HB.out.trans (hb.mono HB.out.size)⟩

theorem c36 (s : Rect) (w : World) : Calls Try.prog 36 #[.agg s.arr] w fun e w' => e = .returned (.bool (!pts s)) ∧ Below w.heap.size w w' := by
  have hB : Below w.heap.size w (w.alloc (.cells s.arr 23)) := (Below.refl _ _).alloc (Nat.le_refl _) _
  have H := Lib.hid (c33 s (w.alloc (.cells s.arr 23)))
  have HB := Lib.hid hB
  clear hB
  generalize hr : pts s = r at *
  clear hr
  unfold Rect.arr at *
  go_enter Try.func36, Try.ntmps36
  go_wp2_with (go_at_call 33; refine H.out.mono ?_; rintro e w' ⟨rfl, hb⟩)
  go_ret
  exact ⟨rfl, HB.out.trans (hb.mono HB.out.size)⟩

end Go.Proofs.Ytnlojbkjhlhogaa
