/- Contracts of the functions of purflingref10 over bands: for right bands. -/
import Derived.Test.YtnjifmoclfgegaaF
namespace Go.Proofs.Ytnjifmoclfgegaa
open Go.RowKit Go.Shelf
set_option linter.unusedVariables false

set_option maxHeartbeats 1000000 in
/-- purflingref10.Right -/
theorem c15 (A : Option Addr) (xs : List Int) (c : Nat) (gap : Int) (w : World) (hx : Ints w A xs) (hl : xs.length ≤ 17592186044416) :
    Calls Try.prog 15 #[.slice A xs.length c, .int .i64 gap] w fun e w' => e = .returned (.bool (right xs gap)) ∧ Dr w w' := by
  have Hx := Lib.hid hx
  clear hx
  by_cases h1 : 0 ≤ gap ∧ gap ≤ 1073741824 ∧ xs.length ≤ 10000
  · obtain ⟨g1, g2, g3⟩ := h1
    go_enter Try.func15, Try.ntmps15
    go_wp2
    go_loopw [5] (fun i wr => ∃ k : Nat, k ≤ xs.length ∧ i = .int .i64 k ∧ Hid (∀ j, j < k → 0 ≤ xs[j]?.getD 0 ∧ xs[j]?.getD 0 ≤ 1073741824) ∧ Dr w wr) (fun i _ => xs.length - (intOf i).toNat)
    case atStart => exact ⟨0, Nat.zero_le _, rfl, fun j hj => absurd hj (Nat.not_lt_zero j), Dr.refl _⟩
    case round =>
      obtain ⟨k, hk, rfl, hp, m, rfl⟩ := hrel
      by_cases hlt : k < xs.length
      · obtain ⟨x, b, off, hxk, rfl, hc⟩ := Hx.out.get k hlt
        by_cases hx0 : x < 0
        · have hr : right xs gap = false := by
            rw [← Bool.not_eq_true, right_iff]
            rintro ⟨_, _, h3⟩
            have := h3 k hlt
            rw [hxk.out] at this; omega
          have Hr := Lib.hid hr
          clear hr
          go_wp2
          repeat (go_quiet (fail); try go_wp2)
          go_ret
          rw [Hr.out]
          exact ⟨rfl, by repeat (first | exact Dr.refl _ | apply Dr.step | apply Dr.step1)⟩
        · by_cases hx1 : 1073741824 < x
          · have hr : right xs gap = false := by
              rw [← Bool.not_eq_true, right_iff]
              rintro ⟨_, _, h3⟩
              have := h3 k hlt
              rw [hxk.out] at this; omega
            have Hr := Lib.hid hr
            clear hr
            go_wp2
            repeat (go_quiet (fail); try go_wp2)
            go_ret
            rw [Hr.out]
            exact ⟨rfl, by repeat (first | exact Dr.refl _ | apply Dr.step | apply Dr.step1)⟩
          · have hnext : Hid (∀ j, j < k + 1 → 0 ≤ xs[j]?.getD 0 ∧ xs[j]?.getD 0 ≤ 1073741824) := fun j hj => by
              by_cases e : j = k
              · subst e; rw [hxk.out]; omega
              · exact hp.out j (by omega)
            go_wp2
            repeat (go_quiet (fail); try go_wp2)
            go_roundw
            case rel => exact ⟨k + 1, by omega, by go_num, hnext, by repeat (first | exact Dr.refl _ | apply Dr.step | apply Dr.step1)⟩
            case measure => simp [intOf]; omega
      · obtain rfl : k = xs.length := by omega
        have hr : right xs gap = true := right_iff.2 ⟨g3, ⟨g1, g2⟩, hp.out⟩
        have Hr := Lib.hid hr
        clear hr
        go_wp2
        go_ret
        rw [Hr.out]
        exact ⟨rfl, by repeat (first | exact Dr.refl _ | apply Dr.step | apply Dr.step1)⟩
  · have hr : right xs gap = false := by
      rw [← Bool.not_eq_true, right_iff]
      rintro ⟨h3, h4, _⟩; omega
    have Hr := Lib.hid hr
    clear hr
    by_cases g1 : gap < 0
    · go_enter Try.func15, Try.ntmps15
      go_wp2
      go_ret
      rw [Hr.out]
      exact ⟨rfl, Dr.refl _⟩
    · by_cases g2 : 1073741824 < gap
      · go_enter Try.func15, Try.ntmps15
        go_wp2
        go_ret
        rw [Hr.out]
        exact ⟨rfl, Dr.refl _⟩
      · have g3 : 10000 < xs.length := by omega
        clear h1
        go_enter Try.func15, Try.ntmps15
        go_wp2
        go_ret
        rw [Hr.out]
        exact ⟨rfl, Dr.refl _⟩

theorem appended_below {w W w1 : World} {e : TypeId} {size k : Nat} {v : Value} {xs : List Value} {o : Obj} (hrow : W.ownsRow w.heap.size e size v k xs) (hB : Below w.heap.size w W)
    (hgrow : (W.alloc o).grownBy w1 v.ownBlock) : Below w.heap.size w w1 :=
  (hB.alloc hB.size _).grown hgrow (by have := hB.size; simp; omega) fun j ej => by
    rcases hrow.2 with ⟨rfl, _⟩ | ⟨g, cap, cur, rfl, hb, _, _⟩
    · simp [Value.ownBlock] at ej
    · simp [Value.ownBlock] at ej; omega

set_option maxHeartbeats 1000000 in
/-- purflingref10.Begins -/
theorem c18 (A : Option Addr) (xs : List Int) (c : Nat) (gap : Int) (w : World) (hx : Ints w A xs) (hr : right xs gap = true) :
    Calls Try.prog 18 #[.slice A xs.length c, .int .i64 gap] w fun e w' => ∃ A' c', e = .returned (.slice A' xs.length c') ∧ Ints w' A' (upto (st gap xs) xs.length) ∧ Below w.heap.size w w' := by
  have Hx := Lib.hid hx
  have hlen := (right_iff.1 hr).1
  have hg := (right_iff.1 hr).2.1
  have Hxs := Lib.hid (right_iff.1 hr).2.2
  have Hst := Lib.hid (st_bounds hr)
  clear hx hr
  obtain ⟨i0, hi, hz0, hz1, hz2⟩ := info_parts Try.info2
  go_enter Try.func18, Try.ntmps18
  go_wp2
  go_loopw [5, 6, 7] (fun v at_ i wr => ∃ k : Nat, k ≤ xs.length ∧ i = .int .i64 k ∧ (∃ a, at_ = .int .i64 a ∧ Hid (a = st gap xs k)) ∧ wr.ownsRow w.heap.size 2 1 v k ((upto (st gap xs) k).map (Value.int .i64)) ∧ Below w.heap.size w wr)
    (fun _ _ i _ => xs.length - (intOf i).toNat)
  case atStart => exact ⟨0, Nat.zero_le _, rfl, ⟨_, rfl, Lib.hid rfl⟩, World.ownsRow_nil _ _ _ _, Below.refl _ _⟩
  case round =>
    obtain ⟨k, hk, rfl, ⟨a, rfl, ha⟩, hrow, hB⟩ := hrel
    have hab := Hst.out k hk
    rw [← ha.out] at hab
    by_cases hlt : k < xs.length
    · obtain ⟨x, b, off, hxk, rfl, hc⟩ := (Hx.out.below hB).get k hlt
      have hxb := Hxs.out k hlt
      rw [hxk.out] at hxb
      have hnext : a + x + gap = st gap xs (k + 1) := by simp only [st]; rw [hxk.out, ← ha.out]; omega
      have Hnext := Lib.hid hnext
      have hup := upto_succ (st gap xs) k
      rw [← ha.out] at hup
      have Hup := Lib.hid hup
      clear hnext hup
      go_wp2_with (at_builtin; go_must (refine wpList_append_own _ rfl _ _ 22 rfl w.heap.size 2 i0 (.int .i64 0) 1 8 Try.underlying22 hi hz0 hz1 hz2 rfl (by decide) _ _ _ rfl (hrow.alloc _) ⟨wr.heap.size, 0, none⟩ 1 1 [.int .i64 a] rfl rfl (cell_one_new _ _ _) (by simp [Value.oneCell']) (by unfold maxLen; omega) (by omega) (by have := hB.size; simp; omega) ?_); intro v' w1 hown1 hgrow _; have hB1 := appended_below hrow hB hgrow; obtain ⟨b', off', hA', hc1⟩ := (Hx.out.below hB1) k hlt; cases hA'; rw [hxk.out] at hc1)
      go_roundw
      case rel => exact ⟨k + 1, by omega, by go_num, ⟨_, rfl, Hnext⟩, by rw [Hup.out]; simpa using hown1, hB1⟩
      case measure => simp [intOf]; omega
    · obtain rfl : k = xs.length := by omega
      obtain ⟨A', c', rfl, hac, hcm, hin, _⟩ := ints_of_own hrow (upto_length _ _)
      have Hin := Lib.hid hin
      clear hin
      go_wp2
      go_ret
      exact ⟨A', c', rfl, Hin.out, hB⟩

/-- purflingref10.Extent -/
theorem c19 (A : Option Addr) (xs : List Int) (c : Nat) (gap : Int) (w : World) (hx : Ints w A xs) (hr : right xs gap = true) :
    Calls Try.prog 19 #[.slice A xs.length c, .int .i64 gap] w fun e w' => e = .returned (.int .i64 (ext gap xs)) ∧ w = w' := by
  have Hx := Lib.hid hx
  have hlen := (right_iff.1 hr).1
  have hg := (right_iff.1 hr).2.1
  have Hxs := Lib.hid (right_iff.1 hr).2.2
  have Hst := Lib.hid (st_bounds hr)
  clear hx hr
  by_cases h0 : xs.length = 0
  · have t1 : (xs.length == 0) = true := by rw [beq_iff_eq]; exact h0
    have t2 : ((xs.length : Int) == 0) = true := by rw [beq_iff_eq]; omega
    have he : ext gap xs = 0 := by unfold ext; rw [if_pos h0]
    have He := Lib.hid he
    clear he h0
    go_enter Try.func19, Try.ntmps19
    go_wp2
    go_ret
    rw [He.out]
    exact ⟨rfl, rfl⟩
  · have t1 : (xs.length == 0) = false := by rw [beq_eq_false_iff_ne]; exact h0
    have t2 : ((xs.length : Int) == 0) = false := by rw [beq_eq_false_iff_ne]; omega
    have he : ext gap xs = st gap xs xs.length := by unfold ext; rw [if_neg h0]
    have He := Lib.hid he
    clear he h0
    go_enter Try.func19, Try.ntmps19
    go_wp2
    go_loop [5, 6] (fun v i => ∃ k : Nat, k ≤ xs.length ∧ i = .int .i64 k ∧ ∃ a, v = .int .i64 a ∧ Hid (a = st gap xs k)) (fun _ i => xs.length - (intOf i).toNat)
    case atStart => exact ⟨0, Nat.zero_le _, rfl, _, rfl, Lib.hid rfl⟩
    case round =>
      obtain ⟨k, hk, rfl, a, rfl, ha⟩ := hrel
      have hab := Hst.out k hk
      rw [← ha.out] at hab
      by_cases hlt : k < xs.length
      · obtain ⟨x, b, off, hxk, rfl, hc⟩ := Hx.out.get k hlt
        have hxb := Hxs.out k hlt
        rw [hxk.out] at hxb
        have hnext : a + x + gap = st gap xs (k + 1) := by simp only [st]; rw [hxk.out, ← ha.out]; omega
        have Hnext := Lib.hid hnext
        clear hnext
        go_wp2
        go_round
        case rel => exact ⟨k + 1, by omega, by go_num, _, rfl, Hnext⟩
        case measure => simp [intOf]; omega
      · obtain rfl : k = xs.length := by omega
        go_wp2
        go_ret
        rw [He.out, ← ha.out]
        exact ⟨rfl, rfl⟩

/-- purflingref10.Span -/
theorem c20 (A : Option Addr) (xs : List Int) (c : Nat) (gap : Int) (s n : Nat) (w : World) (hx : Ints w A xs) (hr : right xs gap = true) (hs : s + n ≤ xs.length) :
    Calls Try.prog 20 #[.slice A xs.length c, .int .i64 gap, .int .i64 s, .int .i64 n] w fun e w' => e = .returned (.int .i64 (sp gap xs s n)) ∧ w = w' := by
  have Hx := Lib.hid hx
  have hlen := (right_iff.1 hr).1
  have hg := (right_iff.1 hr).2.1
  have Hxs := Lib.hid (right_iff.1 hr).2.2
  have Hsp := Lib.hid (fun k (h : s + k ≤ xs.length) => sp_bounds hr h)
  clear hx hr
  go_enter Try.func20, Try.ntmps20
  go_wp2
  go_loop [9, 10] (fun v i => ∃ k : Nat, k ≤ n ∧ i = .int .i64 k ∧ ∃ a, v = .int .i64 a ∧ Hid (a = sp gap xs s k)) (fun _ i => n - (intOf i).toNat)
  case atStart => exact ⟨0, Nat.zero_le _, rfl, _, rfl, Lib.hid (by unfold sp; rw [if_pos rfl])⟩
  case round =>
    obtain ⟨k, hk, rfl, a, rfl, ha⟩ := hrel
    have hab := Hsp.out k (by omega)
    rw [← ha.out] at hab
    by_cases hlt : k < n
    · obtain ⟨x, b, off, hxk, rfl, hc⟩ := Hx.out.get (s + k) (by omega)
      have hxb := Hxs.out (s + k) (by omega)
      rw [hxk.out] at hxb
      have hnext : sp gap xs s (k + 1) = a + (if k = 0 then 0 else gap) + x := by rw [sp_succ, hxk.out, ← ha.out]
      by_cases h0 : k = 0
      · rw [if_pos h0] at hnext
        have Hnext := Lib.hid hnext
        clear hnext
        subst h0
        rw [Nat.add_zero] at hc
        go_wp2
        go_round
        case rel => exact ⟨1, by omega, by go_num, _, rfl, by rw [Hnext.out]; refine Lib.hid ?_; omega⟩
        case measure => simp [intOf]; omega
      · rw [if_neg h0] at hnext
        have Hnext := Lib.hid hnext
        have h1 : 0 < k := by omega
        clear hnext h0
        go_wp2
        go_round
        case rel => exact ⟨k + 1, by omega, by go_num, _, rfl, by rw [Hnext.out]; refine Lib.hid ?_; omega⟩
        case measure => simp [intOf]; omega
    · obtain rfl : k = n := by omega
      go_wp2
      go_ret
      rw [← ha.out]
      exact ⟨rfl, rfl⟩

end Go.Proofs.Ytnjifmoclfgegaa
