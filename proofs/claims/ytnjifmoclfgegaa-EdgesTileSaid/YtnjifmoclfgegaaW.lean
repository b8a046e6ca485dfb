/- Contract of rect.within, where all numbers lie within their bounds. -/
import Derived.Test.YtnjifmoclfgegaaV
namespace Go.Proofs.Ytnjifmoclfgegaa
open Go.RowKit Go.Shelf
set_option linter.unusedVariables false

set_option maxHeartbeats 1000000 in
theorem c44_in (A : Option Addr) (xs : List Int) (c : Nat) (lo hi : Int) (w : World) (hx : Ints w A xs) (hl : xs.length ≤ 17592186044416) (hin : ∀ j, j < xs.length → lo ≤ xs[j]?.getD 0 ∧ xs[j]?.getD 0 ≤ hi) :
    Calls Try.prog 44 #[.int .i64 lo, .int .i64 hi, .slice A xs.length c] w fun e w' => e = .returned (.bool true) ∧ w = w' := by
  have Hx := Lib.hid hx
  have Hin := Lib.hid hin
  clear hx hin
  go_enter Try.func44, Try.ntmps44
  go_wp2
  go_loop [11] (fun i => ∃ k : Nat, k ≤ xs.length ∧ i = .int .i64 k) (fun i => xs.length - (intOf i).toNat)
  case atStart => exact ⟨0, Nat.zero_le _, rfl⟩
  case round =>
    obtain ⟨k, hk, rfl⟩ := hrel
    by_cases hlt : k < xs.length
    · obtain ⟨x, b, off, hxk, rfl, hc⟩ := Hx.out.get k hlt
      have hb := Hin.out k hlt
      rw [hxk.out] at hb
      have t1 : decide (x < lo) = false := decide_eq_false (by omega)
      have t2 : decide (hi < x) = false := decide_eq_false (by omega)
      clear hb
      go_wp2
      go_round
      case rel => exact ⟨k + 1, by omega, by go_num⟩
      case measure => simp [intOf]; omega
    · obtain rfl : k = xs.length := by omega
      go_wp2
      go_ret
      exact ⟨rfl, rfl⟩

theorem two_in {lo hi a b : Int} (h1 : lo ≤ a ∧ a ≤ hi) (h2 : lo ≤ b ∧ b ≤ hi) : ∀ j, j < [a, b].length → lo ≤ [a, b][j]?.getD 0 ∧ [a, b][j]?.getD 0 ≤ hi := fun j hj => by
  match j, hj with
  | 0, _ => exact h1
  | 1, _ => exact h2
theorem k44 (lo hi a b : Int) (w W : World) (h : Nat) (hh : w.heap.size = h) (hW : W = w.alloc (.cells #[.int .i64 a, .int .i64 b] 2)) (h1 : lo ≤ a ∧ a ≤ hi) (h2 : lo ≤ b ∧ b ≤ hi) :
    Calls Try.prog 44 #[.int .i64 lo, .int .i64 hi, .slice (some ⟨h, 0, none⟩) 2 2] W fun e w' => e = .returned (.bool true) ∧ W = w' := by
  subst hW
  subst hh
  have h := c44_in (some ⟨w.heap.size, 0, none⟩) [a, b] 2 lo hi (w.alloc (.cells #[.int .i64 a, .int .i64 b] 2)) (ints_two w a b 2) (by simp) (two_in h1 h2)
  rw [show ([a, b] : List Int).length = 2 from rfl] at h
  exact h

def Rect.small (r : Rect) : Prop := (-1152921504606846976 ≤ r.x ∧ r.x ≤ 1152921504606846975) ∧ (-1152921504606846976 ≤ r.y ∧ r.y ≤ 1152921504606846975) ∧ (0 ≤ r.w ∧ r.w ≤ 1152921504606846975) ∧ (0 ≤ r.h ∧ r.h ≤ 1152921504606846975)

set_option maxHeartbeats 600000 in
theorem c43_in (r : Rect) (w : World) (hs : r.small) : Calls Try.prog 43 #[.agg r.arr] w fun e w' => e = .returned (.bool true) ∧ Below w.heap.size w w' := by
  obtain ⟨x, y, u, v⟩ := r
  obtain ⟨h1, h2, h3, h4⟩ := hs
  dsimp only at h1 h2 h3 h4
  have H1 := Lib.hid h1
  have H2 := Lib.hid h2
  have H3 := Lib.hid h3
  have H4 := Lib.hid h4
  unfold Rect.arr
  dsimp only
  obtain ⟨X, hX⟩ : ∃ X, w.alloc (.cells #[.int .i64 x, .int .i64 y, .int .i64 u, .int .i64 v] 47) = X := ⟨_, rfl⟩
  have hB0 : Below w.heap.size w X := hX ▸ (Below.refl _ w).alloc (Nat.le_refl _) _
  have HB1 := Lib.hid (hB0.alloc (by have := hB0.size; omega) (.cells #[.int .i64 x, .int .i64 y] 2))
  have HB2 := Lib.hid (HB1.out.alloc (by have := HB1.out.size; omega) (.cells #[.int .i64 u, .int .i64 v] 2))
  have q : ∀ i, X.cell? ⟨w.heap.size, i, none⟩ = (#[.int .i64 x, .int .i64 y, .int .i64 u, .int .i64 v] : Array Value)[i]? := fun i => by
    rw [← hX]; unfold World.cell?; rw [heap_alloc_new]; rfl
  have q0 : (w.alloc (.cells #[.int .i64 x, .int .i64 y, .int .i64 u, .int .i64 v] 47)).cell? ⟨w.heap.size, 0, none⟩ = some (.int .i64 x) := by rw [hX]; exact q 0
  have q1 : (w.alloc (.cells #[.int .i64 x, .int .i64 y, .int .i64 u, .int .i64 v] 47)).cell? ⟨w.heap.size, 1, none⟩ = some (.int .i64 y) := by rw [hX]; exact q 1
  have hlt : w.heap.size < X.heap.size := by rw [← hX]; simp
  have y2 : ((w.alloc (.cells #[.int .i64 x, .int .i64 y, .int .i64 u, .int .i64 v] 47)).alloc (.cells #[.int .i64 x, .int .i64 y] 2)).cell? ⟨w.heap.size, 2, none⟩ = some (.int .i64 u) := by
    rw [hX]; exact (((Below.refl X.heap.size X).alloc (Nat.le_refl _) _).cell (p := ⟨w.heap.size, 2, none⟩) hlt).trans (q 2)
  have y3 : ((w.alloc (.cells #[.int .i64 x, .int .i64 y, .int .i64 u, .int .i64 v] 47)).alloc (.cells #[.int .i64 x, .int .i64 y] 2)).cell? ⟨w.heap.size, 3, none⟩ = some (.int .i64 v) := by
    rw [hX]; exact (((Below.refl X.heap.size X).alloc (Nat.le_refl _) _).cell (p := ⟨w.heap.size, 3, none⟩) hlt).trans (q 3)
  have HB2' := HB2.out
  rw [← hX] at HB2'
  have HC := Lib.hid HB2'
  clear HB2' HB1 HB2 q hB0 hlt h1 h2 h3 h4
  clear hX
  go_enter Try.func43, Try.ntmps43
  go_wp2_with (fail)
  refine (k44 _ _ x y (w.alloc (.cells #[.int .i64 x, .int .i64 y, .int .i64 u, .int .i64 v] 47)) _ _ (by simp) rfl H1.out H2.out).mono ?_
  rintro e w1 ⟨rfl, rfl⟩
  go_wp2_with (fail)
  refine (k44 _ _ u v ((w.alloc (.cells #[.int .i64 x, .int .i64 y, .int .i64 u, .int .i64 v] 47)).alloc (.cells #[.int .i64 x, .int .i64 y] 2)) _ _ (by simp) rfl H3.out H4.out).mono ?_
  rintro e w1 ⟨rfl, rfl⟩
  go_wp2_with (fail)
  go_ret
  exact ⟨rfl, HC.out⟩

end Go.Proofs.Ytnjifmoclfgegaa
