/- Contracts of fixed.Clamp, of align.within and what it calls: for every numbers and bounds. -/
import Derived.Test.YtgpcoljgpgamdaaD
namespace Go.Proofs.Ytgpcoljgpgamdaa
open Go.RowKit
set_option linter.unusedVariables false

theorem ret_int {k : IntKind} {a b : Int} (h : a = b) : Ending.returned (.int k a) = .returned (.int k b) := by rw [h]
/-- between two bounds -/
def inR (lo hi n : Int) : Bool := decide (lo ≤ n ∧ n ≤ hi)
theorem inR_iff {lo hi n : Int} : inR lo hi n = true ↔ lo ≤ n ∧ n ≤ hi := by unfold inR; rw [decide_eq_true_eq]

theorem clamp40 (n lo hi : Int) (w : World) : Calls Try.prog 40 #[.int .i64 n, .int .i64 lo, .int .i64 hi] w fun e w' => e = .returned (.int .i64 (max (min n hi) lo)) ∧ w = w' := by
  go_enter Try.func40, Try.ntmps40
  go_wp2
  all_goals go_ret
  all_goals exact ⟨ret_int (by omega), rfl⟩

theorem clamp_ne (n lo hi : Int) (h : lo ≤ hi) : (n != max (min n hi) lo) = !inR lo hi n := by
  by_cases h1 : lo ≤ n ∧ n ≤ hi
  · have : max (min n hi) lo = n := by omega
    rw [this, inR_iff.2 h1]; simp
  · have h2 : inR lo hi n = false := by cases h3 : inR lo hi n with
      | true => exact absurd (inR_iff.1 h3) h1
      | false => rfl
    rw [h2, Bool.not_false, bne_iff_ne]; omega

theorem c39w (n lo hi : Int) (h : lo ≤ hi) (p q : Addr) (w : World) (hp : w.cell? p = some (.int .i64 lo)) (hq : w.cell? q = some (.int .i64 hi)) :
    Calls Try.prog 39 #[.int .i64 n, .pointer (some p), .pointer (some q)] w fun e w' => e = .returned (.bool (!inR lo hi n)) ∧ w = w' := by
  have H := Lib.hid (clamp40 n lo hi w)
  have Hc := Lib.hid (clamp_ne n lo hi h)
  go_enter Try.func39, Try.ntmps39
  go_wp2_with (fail)
  refine H.out.mono ?_
  rintro e w' ⟨rfl, rfl⟩
  go_wp2_with (fail)
  go_ret
  rw [← Hc.out]
  exact ⟨rfl, rfl⟩

def outs (lo hi : Int) (xs : List Int) : Bool := xs.any fun n => !inR lo hi n
theorem outs_of {lo hi : Int} {xs : List Int} {k : Nat} (hk : k < xs.length) (h : inR lo hi (xs[k]?.getD 0) = false) : outs lo hi xs = true := by
  unfold outs
  rw [List.any_eq_true]
  refine ⟨xs[k], List.getElem_mem hk, ?_⟩
  simp [hk] at h
  simp [h]
theorem outs_none {lo hi : Int} {xs : List Int} (h : ∀ j, j < xs.length → inR lo hi (xs[j]?.getD 0) = true) : outs lo hi xs = false := by
  unfold outs
  rw [List.any_eq_false]
  intro x hx
  obtain ⟨j, hj, rfl⟩ := List.getElem_of_mem hx
  have := h j hj
  simp [hj] at this
  simp [this]
def OutIdx (lo hi : Int) (xs : List Int) (w : World) (e : Ending) (w' : World) : Prop := ∃ i : Int, e = .returned (.int .i64 i) ∧ decide (0 ≤ i) = outs lo hi xs ∧ w = w'

set_option maxHeartbeats 400000 in
theorem c44w (A : Option Addr) (xs : List Int) (c : Nat) (lo hi : Int) (h : lo ≤ hi) (p q : Addr) (w : World) (hx : Ints w A xs) (hl : xs.length ≤ 17592186044416) (hp : w.cell? p = some (.int .i64 lo)) (hq : w.cell? q = some (.int .i64 hi)) :
    Calls Try.prog 44 #[.slice A xs.length c, .func (.func 39) #[] #[.pointer (some p), .pointer (some q)]] w (OutIdx lo hi xs w) := by
  have Hx := Lib.hid hx
  have C := Lib.hid (fun n => c39w n lo hi h p q w hp hq)
  clear hx hp hq
  go_enter Try.func44, Try.ntmps44
  go_wp2
  go_loop [8] (fun i => ∃ k : Nat, k ≤ xs.length ∧ i = .int .i64 k ∧ Hid (∀ j, j < k → inR lo hi (xs[j]?.getD 0) = true)) (fun i => xs.length - (intOf i).toNat)
  case atStart => exact ⟨0, Nat.zero_le _, rfl, fun j hj => absurd hj (Nat.not_lt_zero j)⟩
  case round =>
    obtain ⟨k, hk, rfl, hp⟩ := hrel
    by_cases hlt : k < xs.length
    · obtain ⟨x, b, off, hxk, rfl, hc⟩ := Hx.out.get k hlt
      have hC := C.out x
      cases hb : inR lo hi x with
      | true =>
        rw [hb] at hC
        have Hb := Lib.hid hb
        have HC := Lib.hid hC
        clear hb hC
        have hnext : Hid (∀ j, j < k + 1 → inR lo hi (xs[j]?.getD 0) = true) := fun j hj => by
          by_cases e : j = k
          · subst e; rw [hxk.out]; exact Hb.out
          · exact hp.out j (by omega)
        go_wp2_with (fail)
        refine HC.out.mono ?_
        rintro e w' ⟨rfl, rfl⟩
        go_wp2_with (fail)
        go_round
        case rel => exact ⟨k + 1, by omega, by go_num, hnext⟩
        case measure => simp [intOf]; omega
      | false =>
        rw [hb] at hC
        have Hb := Lib.hid hb
        have HC := Lib.hid hC
        clear hb hC
        go_wp2_with (fail)
        refine HC.out.mono ?_
        rintro e w' ⟨rfl, rfl⟩
        go_wp2_with (fail)
        go_ret
        exact ⟨_, rfl, by rw [outs_of hlt (by rw [hxk.out]; exact Hb.out)]; simp, rfl⟩
    · obtain rfl : k = xs.length := by omega
      go_wp2
      go_ret
      exact ⟨_, rfl, by rw [outs_none hp.out]; decide, rfl⟩

theorem c38w (A : Option Addr) (xs : List Int) (c : Nat) (lo hi : Int) (h : lo ≤ hi) (p q : Addr) (w : World) (hx : Ints w A xs) (hl : xs.length ≤ 17592186044416) (hp : w.cell? p = some (.int .i64 lo)) (hq : w.cell? q = some (.int .i64 hi)) :
    Calls Try.prog 38 #[.slice A xs.length c, .func (.func 39) #[] #[.pointer (some p), .pointer (some q)]] w fun e w' => e = .returned (.bool (outs lo hi xs)) ∧ w = w' := by
  have H := Lib.hid (c44w A xs c lo hi h p q w hx hl hp hq)
  clear hx hp hq
  go_enter Try.func38, Try.ntmps38
  go_wp2_with (fail)
  refine H.out.mono ?_
  rintro e w' ⟨i, rfl, hi, rfl⟩
  have Hi := Lib.hid hi
  clear hi
  go_wp2_with (fail)
  all_goals go_ret
  all_goals rw [← Hi.out]
  all_goals exact ⟨rfl, rfl⟩

/-- align.within -/
theorem within26 (A : Option Addr) (xs : List Int) (c : Nat) (lo hi : Int) (h : lo ≤ hi) (w : World) (hx : Ints w A xs) (hl : xs.length ≤ 17592186044416) :
    Calls Try.prog 26 #[.int .i64 lo, .int .i64 hi, .slice A xs.length c] w fun e w' => e = .returned (.bool (!outs lo hi xs)) ∧ Below w.heap.size w w' := by
  have hB : Below w.heap.size w ((w.alloc (.cells #[.int .i64 lo] 2)).alloc (.cells #[.int .i64 hi] 2)) := ((Below.refl _ w).alloc (Nat.le_refl _) _).alloc (by simp) _
  have hb1 : Boxed ((w.alloc (.cells #[.int .i64 lo] 2)).alloc (.cells #[.int .i64 hi] 2)) w.heap.size 2 (.int .i64 lo) := (Boxed.new w 2 _).alloc _
  have hb2 : Boxed ((w.alloc (.cells #[.int .i64 lo] 2)).alloc (.cells #[.int .i64 hi] 2)) (w.heap.size + 1) 2 (.int .i64 hi) := by
    have := Boxed.new (w.alloc (.cells #[.int .i64 lo] 2)) 2 (.int .i64 hi)
    rw [World.size_alloc] at this; exact this
  have H := Lib.hid (c38w A xs c lo hi h ⟨w.heap.size, 0, none⟩ ⟨w.heap.size + 1, 0, none⟩ _ (hx.below hB) hl hb1.cell hb2.cell)
  have HB := Lib.hid hB
  clear hx hB hb1 hb2
  go_enter Try.func26, Try.ntmps26
  go_wp2_with (fail)
  refine H.out.mono ?_
  rintro e w' ⟨rfl, rfl⟩
  go_wp2_with (fail)
  go_ret
  exact ⟨rfl, HB.out⟩

end Go.Proofs.Ytgpcoljgpgamdaa
