/- Contracts of the functions of purflingref10 over bands: for right bands. -/
import Derived.Test.YtgpcoljgpgamdaaPF
namespace Go.Proofs.Ytgpcoljgpgamdaa
open Go.RowKit Go.Shelf
set_option linter.unusedVariables false

set_option maxHeartbeats 1000000 in
/-- purflingref10.Right -/
theorem c15 (A : Option Addr) (xs : List Int) (c : Nat) (gap : Int) (w : World) (hx : Ints w A xs) (hl : xs.length ≤ 17592186044416) :
    Calls Try.prog 20 #[.slice A xs.length c, .int .i64 gap] w fun e w' => e = .returned (.bool (right xs gap)) ∧ Dr w w' := by
  have Hx := Lib.hid hx
  clear hx
  by_cases h1 : 0 ≤ gap ∧ gap ≤ 1073741824 ∧ xs.length ≤ 10000
  · obtain ⟨g1, g2, g3⟩ := h1
    go_enter Try.func20, Try.ntmps20
    go_wp2
    go_loopw [5] (fun i wr => ∃ k : Nat, k ≤ xs.length ∧ i = .int .i64 k ∧ Hid (∀ j, j < k → 0 ≤ xs[j]?.getD 0 ∧ xs[j]?.getD 0 ≤ 1073741824) ∧ Dr w wr) (fun i _ => xs.length - (intOf i).toNat)
    case atStart => exact ⟨0, Nat.zero_le _, rfl, fun j hj => absurd hj (Nat.not_lt_zero j), Dr.refl _⟩
    case round =>
      obtain ⟨k, hk, rfl, hp, m, rfl⟩ := hrel
      by_cases hlt : k < xs.length
      · obtain ⟨x, b, off, hxk, rfl, hc⟩ := Hx.out.get k hlt
        by_cases hx0 : x < 0
        · have hr : right xs gap = false := by
            rw [← Bool.not_eq_true, right_iff]
            rintro ⟨_, _, h3⟩
            have := h3 k hlt
            rw [hxk.out] at this; omega
          have Hr := Lib.hid hr
          clear hr
          go_wp2
          repeat (go_quiet (fail); try go_wp2)
          go_ret
          rw [Hr.out]
          exact ⟨rfl, by repeat (first | exact Dr.refl _ | apply Dr.step | apply Dr.step1)⟩
        · by_cases hx1 : 1073741824 < x
          · have hr : right xs gap = false := by
              rw [← Bool.not_eq_true, right_iff]
              rintro ⟨_, _, h3⟩
              have := h3 k hlt
              rw [hxk.out] at this; omega
            have Hr := Lib.hid hr
            clear hr
            go_wp2
            repeat (go_quiet (fail); try go_wp2)
            go_ret
            rw [Hr.out]
            exact ⟨rfl, by repeat (first | exact Dr.refl _ | apply Dr.step | apply Dr.step1)⟩
          · have hnext : Hid (∀ j, j < k + 1 → 0 ≤ xs[j]?.getD 0 ∧ xs[j]?.getD 0 ≤ 1073741824) := fun j hj => by
              by_cases e : j = k
              · subst e; rw [hxk.out]; omega
              · exact hp.out j (by omega)
            go_wp2
            repeat (go_quiet (fail); try go_wp2)
            go_roundw
            case rel => exact ⟨k + 1, by omega, by go_num, hnext, by repeat (first | exact Dr.refl _ | apply Dr.step | apply Dr.step1)⟩
            case measure => simp [intOf]; omega
      · obtain rfl : k = xs.length := by omega
        have hr : right xs gap = true := right_iff.2 ⟨g3, ⟨g1, g2⟩, hp.out⟩
        have Hr := Lib.hid hr
        clear hr
        go_wp2
        go_ret
        rw [Hr.out]
        exact ⟨rfl, by repeat (first | exact Dr.refl _ | apply Dr.step | apply Dr.step1)⟩
  · have hr : right xs gap = false := by
      rw [← Bool.not_eq_true, right_iff]
      rintro ⟨h3, h4, _⟩; omega
    have Hr := Lib.hid hr
    clear hr
    by_cases g1 : gap < 0
    · go_enter Try.func20, Try.ntmps20
      go_wp2
      go_ret
      rw [Hr.out]
      exact ⟨rfl, Dr.refl _⟩
    · by_cases g2 : 1073741824 < gap
      · go_enter Try.func20, Try.ntmps20
        go_wp2
        go_ret
        rw [Hr.out]
        exact ⟨rfl, Dr.refl _⟩
      · have g3 : 10000 < xs.length := by omega
        clear h1
        go_enter Try.func20, Try.ntmps20
        go_wp2
        go_ret
        rw [Hr.out]
        exact ⟨rfl, Dr.refl _⟩

theorem appended_below {w W w1 : World} {e : TypeId} {size k : Nat} {v : Value} {xs : List Value} {o : Obj} (hrow : W.ownsRow w.heap.size e size v k xs) (hB : Below w.heap.size w W)
    (hgrow : (W.alloc o).grownBy w1 v.ownBlock) : Below w.heap.size w w1 :=
  (hB.alloc hB.size _).grown hgrow (by have := hB.size; simp; omega) fun j ej => by
    rcases hrow.2 with ⟨rfl, _⟩ | ⟨g, cap, cur, rfl, hb, _, _⟩
    · simp [Value.ownBlock] at ej
    · simp [Value.ownBlock] at ej; omega

/-- purflingref10.Span -/
theorem c20 (A : Option Addr) (xs : List Int) (c : Nat) (gap : Int) (s n : Nat) (w : World) (hx : Ints w A xs) (hr : right xs gap = true) (hs : s + n ≤ xs.length) :
    Calls Try.prog 22 #[.slice A xs.length c, .int .i64 gap, .int .i64 s, .int .i64 n] w fun e w' => e = .returned (.int .i64 (sp gap xs s n)) ∧ w = w' := by
  have Hx := Lib.hid hx
  have hlen := (right_iff.1 hr).1
  have hg := (right_iff.1 hr).2.1
  have Hxs := Lib.hid (right_iff.1 hr).2.2
  have Hsp := Lib.hid (fun k (h : s + k ≤ xs.length) => sp_bounds hr h)
  clear hx hr
  go_enter Try.func22, Try.ntmps22
  go_wp2
  go_loop [9, 10] (fun v i => ∃ k : Nat, k ≤ n ∧ i = .int .i64 k ∧ ∃ a, v = .int .i64 a ∧ Hid (a = sp gap xs s k)) (fun _ i => n - (intOf i).toNat)
  case atStart => exact ⟨0, Nat.zero_le _, rfl, _, rfl, Lib.hid (by unfold sp; rw [if_pos rfl])⟩
  case round =>
    obtain ⟨k, hk, rfl, a, rfl, ha⟩ := hrel
    have hab := Hsp.out k (by omega)
    rw [← ha.out] at hab
    by_cases hlt : k < n
    · obtain ⟨x, b, off, hxk, rfl, hc⟩ := Hx.out.get (s + k) (by omega)
      have hxb := Hxs.out (s + k) (by omega)
      rw [hxk.out] at hxb
      have hnext : sp gap xs s (k + 1) = a + (if k = 0 then 0 else gap) + x := by rw [sp_succ, hxk.out, ← ha.out]
      by_cases h0 : k = 0
      · rw [if_pos h0] at hnext
        have Hnext := Lib.hid hnext
        clear hnext
        subst h0
        rw [Nat.add_zero] at hc
        go_wp2
        go_round
        case rel => exact ⟨1, by omega, by go_num, _, rfl, by rw [Hnext.out]; refine Lib.hid ?_; omega⟩
        case measure => simp [intOf]; omega
      · rw [if_neg h0] at hnext
        have Hnext := Lib.hid hnext
        have h1 : 0 < k := by omega
        clear hnext h0
        go_wp2
        go_round
        case rel => exact ⟨k + 1, by omega, by go_num, _, rfl, by rw [Hnext.out]; refine Lib.hid ?_; omega⟩
        case measure => simp [intOf]; omega
    · obtain rfl : k = n := by omega
      go_wp2
      go_ret
      rw [← ha.out]
      exact ⟨rfl, rfl⟩

end Go.Proofs.Ytgpcoljgpgamdaa
