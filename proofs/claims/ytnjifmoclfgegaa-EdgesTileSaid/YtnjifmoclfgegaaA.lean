/- Contracts of edges.Right and what it calls, of edges.bounds: what each call gives, for every slice of numbers and gap. -/
import Derived.Test.YtnjifmoclfgegaaProg
import Derived.WalkKit
import Derived.KernelRfl
import Derived.WalkLawsBesides
import Derived.WalkSpells
import Derived.Deep.QuietTactic
import Derived.BigQuiet
import Derived.Deep.LoopGhost
import Derived.Lib.Hide
namespace Go.Proofs.Ytnjifmoclfgegaa
open Go.RowKit

/-- a length -/
def isLen (n : Int) : Bool := decide (0 ≤ n ∧ n ≤ 1073741824)

theorem c42 (n : Int) (w : World) : Calls Try.prog 42 #[.int .i64 n] w fun e w' => e = .returned (.bool (!isLen n)) ∧ w = w' := by
  by_cases h1 : n < 0
  · have hr : isLen n = false := by simp [isLen]; omega
    have Hr := Lib.hid hr
    clear hr
    go_enter Try.func42, Try.ntmps42
    go_wp2
    go_ret
    rw [Hr.out]
    exact ⟨rfl, rfl⟩
  · by_cases h2 : 1073741824 < n
    · have hr : isLen n = false := by simp [isLen]; omega
      have Hr := Lib.hid hr
      clear hr
      go_enter Try.func42, Try.ntmps42
      go_wp2
      go_ret
      rw [Hr.out]
      exact ⟨rfl, rfl⟩
    · have hr : isLen n = true := by simp [isLen]; omega
      have Hr := Lib.hid hr
      clear hr
      go_enter Try.func42, Try.ntmps42
      go_wp2
      go_ret
      rw [Hr.out]
      exact ⟨rfl, rfl⟩


/-- the cells of a slice of ints -/
def Ints (w : World) (A : Option Addr) (xs : List Int) : Prop :=
  ∀ j, j < xs.length → ∃ b off, A = some ⟨b, off, none⟩ ∧ w.cell? ⟨b, off + j, none⟩ = some (.int .i64 (xs[j]?.getD 0))

theorem Ints.get {w : World} {A : Option Addr} {xs : List Int} (h : Ints w A xs) (j : Nat) (hj : j < xs.length) :
    ∃ x b off, Hid (xs[j]?.getD 0 = x) ∧ A = some ⟨b, off, none⟩ ∧ w.cell? ⟨b, off + j, none⟩ = some (.int .i64 x) :=
  let ⟨b, off, hA, hc⟩ := h j hj; ⟨_, b, off, Lib.hid rfl, hA, hc⟩

def wrongs (xs : List Int) : Bool := xs.any fun n => !isLen n
theorem wrongs_of {xs : List Int} {k : Nat} (hk : k < xs.length) (h : isLen (xs[k]?.getD 0) = false) : wrongs xs = true := by
  unfold wrongs
  rw [List.any_eq_true]
  refine ⟨xs[k], List.getElem_mem hk, ?_⟩
  simp [hk] at h
  simp [h]
theorem wrongs_none {xs : List Int} (h : ∀ j, j < xs.length → isLen (xs[j]?.getD 0) = true) : wrongs xs = false := by
  unfold wrongs
  rw [List.any_eq_false]
  intro x hx
  obtain ⟨j, hj, rfl⟩ := List.getElem_of_mem hx
  have := h j hj
  simp [hj] at this
  simp [this]

def IdxSaid (xs : List Int) (w : World) (e : Ending) (w' : World) : Prop := ∃ i : Int, e = .returned (.int .i64 i) ∧ decide (0 ≤ i) = wrongs xs ∧ w = w'

set_option maxHeartbeats 400000 in
theorem c45 (A : Option Addr) (xs : List Int) (c : Nat) (w : World) (hx : Ints w A xs) (hl : xs.length ≤ 17592186044416) :
    Calls Try.prog 45 #[.slice A xs.length c, .func (.func 42) #[] #[]] w (IdxSaid xs w) := by
  have Hx := Lib.hid hx
  clear hx
  go_enter Try.func45, Try.ntmps45
  go_wp2
  go_loop [8] (fun i => ∃ k : Nat, k ≤ xs.length ∧ i = .int .i64 k ∧ Hid (∀ j, j < k → isLen (xs[j]?.getD 0) = true)) (fun i => xs.length - (intOf i).toNat)
  case atStart => exact ⟨0, Nat.zero_le _, rfl, fun j hj => absurd hj (Nat.not_lt_zero j)⟩
  case round =>
    obtain ⟨k, hk, rfl, hp⟩ := hrel
    by_cases hlt : k < xs.length
    · obtain ⟨x, b, off, hxk, rfl, hc⟩ := Hx.out.get k hlt
      cases hb : isLen x with
      | true =>
        have Hb := Lib.hid hb
        clear hb
        have hnext : Hid (∀ j, j < k + 1 → isLen (xs[j]?.getD 0) = true) := fun j hj => by
          by_cases e : j = k
          · subst e; rw [hxk.out]; exact Hb.out
          · exact hp.out j (by omega)
        have h42 := c42 x w
        rw [Hb.out] at h42
        have H42 := Lib.hid h42
        clear h42
        go_wp2_with (go_at_call 42; refine H42.out.mono ?_; rintro e w' ⟨rfl, rfl⟩)
        go_round
        case rel => exact ⟨k + 1, by omega, by go_num, hnext⟩
        case measure => simp [intOf]; omega
      | false =>
        have Hb := Lib.hid hb
        clear hb
        have h42 := c42 x w
        rw [Hb.out] at h42
        have H42 := Lib.hid h42
        clear h42
        go_wp2_with (go_at_call 42; refine H42.out.mono ?_; rintro e w' ⟨rfl, rfl⟩)
        go_ret
        exact ⟨_, rfl, by rw [wrongs_of hlt (by rw [hxk.out]; exact Hb.out)]; simp, rfl⟩
    · obtain rfl : k = xs.length := by omega
      go_wp2
      go_ret
      exact ⟨_, rfl, by rw [wrongs_none hp.out]; decide, rfl⟩

theorem c41 (A : Option Addr) (xs : List Int) (c : Nat) (w : World) (hx : Ints w A xs) (hl : xs.length ≤ 17592186044416) :
    Calls Try.prog 41 #[.slice A xs.length c, .func (.func 42) #[] #[]] w fun e w' => e = .returned (.bool (wrongs xs)) ∧ w = w' := by
  have H := Lib.hid (c45 A xs c w hx hl)
  clear hx
  go_enter Try.func41, Try.ntmps41
  go_wp2_with (go_at_call 45; refine H.out.mono ?_; rintro e w' ⟨i, rfl, hi, rfl⟩; have Hi := Lib.hid hi; clear hi)
  all_goals go_ret
  all_goals rw [← Hi.out]
  all_goals exact ⟨rfl, rfl⟩

theorem c29 (A : Option Addr) (xs : List Int) (c : Nat) (w : World) (hx : Ints w A xs) (hl : xs.length ≤ 17592186044416) :
    Calls Try.prog 29 #[.slice A xs.length c] w fun e w' => e = .returned (.bool (!wrongs xs)) ∧ w = w' := by
  have H := Lib.hid (c41 A xs c w hx hl)
  clear hx
  go_enter Try.func29, Try.ntmps29
  go_wp2_with (go_at_call 41; refine H.out.mono ?_; rintro e w' ⟨rfl, rfl⟩)
  go_ret
  exact ⟨rfl, rfl⟩


def right (xs : List Int) (gap : Int) : Bool := decide (xs.length ≤ 10000) && (isLen gap && !wrongs xs)

theorem Ints.below {w w' : World} {A : Option Addr} {xs : List Int} (h : Ints w A xs) (hb : Below w.heap.size w w') : Ints w' A xs := fun j hj =>
  let ⟨b, off, hA, hc⟩ := h j hj
  ⟨b, off, hA, (hb.cell (p := ⟨b, off + j, none⟩) (World.block_lt_of_cell? w _ hc)).trans hc⟩

theorem ints_one (w : World) (n : Int) (t : TypeId) : Ints (w.alloc (.cells #[.int .i64 n] t)) (some ⟨w.heap.size, 0, none⟩) [n] := fun j hj => by
  have : j = 0 := by simp at hj; exact hj
  subst this
  exact ⟨w.heap.size, 0, rfl, by unfold World.cell?; rw [heap_alloc_new]; rfl⟩

theorem c16 (A : Option Addr) (xs : List Int) (c : Nat) (gap : Int) (w : World) (hx : Ints w A xs) (hl : xs.length ≤ 17592186044416) :
    Calls Try.prog 16 #[.slice A xs.length c, .int .i64 gap] w fun e w' => e = .returned (.bool (right xs gap)) ∧ Below w.heap.size w w' := by
  have hb1 : Below w.heap.size w (w.alloc (.cells #[.int .i64 gap] 2)) := (Below.refl _ _).alloc (Nat.le_refl _) _
  have H1 : Hid (Calls Try.prog 29 #[.slice (some ⟨w.heap.size, 0, none⟩) 1 1] (w.alloc (.cells #[.int .i64 gap] 2)) fun e w' => e = .returned (.bool (isLen gap)) ∧ (w.alloc (.cells #[.int .i64 gap] 2)) = w') := by
    have := c29 (some ⟨w.heap.size, 0, none⟩) [gap] 1 (w.alloc (.cells #[.int .i64 gap] 2)) (ints_one w gap 2) (by simp)
    refine Lib.hid ?_
    simpa [wrongs] using this
  have H2 := Lib.hid (c29 A xs c (w.alloc (.cells #[.int .i64 gap] 2)) (hx.below hb1) hl)
  have hb0 : Below w.heap.size w w := Below.refl _ _
  have HB1 := Lib.hid hb1
  have HB0 := Lib.hid hb0
  clear hx hb0 hb1
  by_cases h1 : xs.length ≤ 10000
  · cases hg : isLen gap with
    | true =>
      have hr : right xs gap = !wrongs xs := by simp [right, h1, hg]
      have Hr := Lib.hid hr
      rw [hg] at H1
      clear hr hg
      go_enter Try.func16, Try.ntmps16
      go_wp2_with (first | (go_at_call 29; refine H1.out.mono ?_; rintro e w' ⟨rfl, rfl⟩; clear H1) | (go_at_call 29; refine H2.out.mono ?_; rintro e w' ⟨rfl, rfl⟩))
      go_ret
      rw [Hr.out]
      exact ⟨rfl, HB1.out⟩
    | false =>
      have hr : right xs gap = false := by simp [right, h1, hg]
      have Hr := Lib.hid hr
      rw [hg] at H1
      clear hr hg
      go_enter Try.func16, Try.ntmps16
      go_wp2_with (go_at_call 29; refine H1.out.mono ?_; rintro e w' ⟨rfl, rfl⟩; clear H1)
      go_ret
      rw [Hr.out]
      exact ⟨rfl, HB1.out⟩
  · have hr : right xs gap = false := by simp [right, h1]
    have Hr := Lib.hid hr
    clear hr H1 H2
    go_enter Try.func16, Try.ntmps16
    go_wp2
    go_ret
    rw [Hr.out]
    exact ⟨rfl, HB0.out⟩

theorem c27 (A : Option Addr) (n c : Nat) (gap : Int) (w : World) :
    Calls Try.prog 27 #[.slice A n c, .int .i64 gap] w fun e w' => e = .returned (.func (.func 39) #[] #[.pointer (some ⟨w.heap.size + 1, 0, none⟩), .pointer (some ⟨w.heap.size, 0, none⟩)]) ∧
      (w.alloc (.cells #[.slice A n c] 22)).alloc (.cells #[.int .i64 gap] 2) = w' := by
  go_enter Try.func27, Try.ntmps27
  go_wp2
  go_ret
  exact ⟨rfl, rfl⟩

end Go.Proofs.Ytnjifmoclfgegaa
