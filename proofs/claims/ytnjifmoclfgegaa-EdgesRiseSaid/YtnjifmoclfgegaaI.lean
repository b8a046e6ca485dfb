/- The walks of the laws EdgesSpans and EdgesRise by the contracts: they return true, whatever the input. -/
import Derived.Test.YtnjifmoclfgegaaH
namespace Go.Proofs.Ytnjifmoclfgegaa
open Go.RowKit Go.Shelf
set_option linter.unusedVariables false

theorem sp_join {gap : Int} {xs : List Int} (a n : Nat) (hn : 0 < n) : ∀ m, 0 < m → sp gap xs a (n + m) = sp gap xs a n + gap + sp gap xs (a + n) m
  | 1, _ => by
    rw [sp_succ, if_neg (by omega)]
    have : sp gap xs (a + n) 1 = xs[a + n]?.getD 0 := by rw [sp_succ, if_pos rfl]; simp [sp]
    rw [this]
  | m + 2, _ => by
    have ih := sp_join (gap := gap) (xs := xs) a n hn (m + 1) (by omega)
    rw [show n + (m + 2) = (n + (m + 1)) + 1 by omega, sp_succ, if_neg (by omega), ih, sp_succ (a := a + n) (i := m + 1), if_neg (by omega), show a + (n + (m + 1)) = a + n + (m + 1) by omega]
    omega

set_option maxRecDepth 100000 in
set_option maxHeartbeats 2000000 in
theorem spans_walk (A : Option Addr) (xs0 : List Int) (c : Nat) (gap n m : Int) (w : World) (hx0 : Ints w A xs0) (hc : xs0.length ≤ c) (hl : xs0.length ≤ 17592186044416) :
    Calls Try.prog 4 #[.slice A xs0.length c, .int .i64 gap, .int .i64 n, .int .i64 m] w fun e w' => e = .returned (.bool true) ∧ Below w.heap.size w w' := by
  obtain ⟨xs, hxs⟩ : ∃ xs, xs0.take 100 = xs := ⟨_, rfl⟩
  have hx := hx0.take 100
  have hm : xs.length = min xs0.length 100 := by rw [← hxs, List.length_take]; omega
  rw [hxs] at hx
  have Hx := Lib.hid hx
  have Hm := Lib.hid hm
  have hxl : xs.length ≤ 17592186044416 := by omega
  have hB0 : Below w.heap.size w w := Below.refl _ _
  clear hx hx0 hm hxs
  by_cases h1 : n < 1
  · go_enter Try.func4, Try.ntmps4
    go_wp2_with (fail)
    refine (c10 _).mono ?_
    rintro e w1 ⟨rfl, hb1⟩
    have hB1 := hB0.trans (hb1.mono hB0.size)
    go_wp2_with (fail)
    refine (c11 _ _ _ _ hc hl).mono ?_
    rintro e w9 ⟨m_, ⟨hm, rfl⟩, rfl⟩
    obtain rfl : m_ = xs.length := by rw [hm]; exact Hm.out.symm
    clear hm
    go_wp2
    go_ret
    exact ⟨rfl, hB1⟩
  · by_cases h2 : m < 1
    · go_enter Try.func4, Try.ntmps4
      go_wp2_with (fail)
      refine (c10 _).mono ?_
      rintro e w1 ⟨rfl, hb1⟩
      have hB1 := hB0.trans (hb1.mono hB0.size)
      go_wp2_with (fail)
      refine (c11 _ _ _ _ hc hl).mono ?_
      rintro e w9 ⟨m_, ⟨hm, rfl⟩, rfl⟩
      obtain rfl : m_ = xs.length := by rw [hm]; exact Hm.out.symm
      clear hm
      go_wp2
      go_ret
      exact ⟨rfl, hB1⟩
    · by_cases h3 : (xs.length : Int) < n
      · go_enter Try.func4, Try.ntmps4
        go_wp2_with (fail)
        refine (c10 _).mono ?_
        rintro e w1 ⟨rfl, hb1⟩
        have hB1 := hB0.trans (hb1.mono hB0.size)
        go_wp2_with (fail)
        refine (c11 _ _ _ _ hc hl).mono ?_
        rintro e w9 ⟨m_, ⟨hm, rfl⟩, rfl⟩
        obtain rfl : m_ = xs.length := by rw [hm]; exact Hm.out.symm
        clear hm
        go_wp2
        go_ret
        exact ⟨rfl, hB1⟩
      · by_cases h4 : (xs.length : Int) - n < m
        · go_enter Try.func4, Try.ntmps4
          go_wp2_with (fail)
          refine (c10 _).mono ?_
          rintro e w1 ⟨rfl, hb1⟩
          have hB1 := hB0.trans (hb1.mono hB0.size)
          go_wp2_with (fail)
          refine (c11 _ _ _ _ hc hl).mono ?_
          rintro e w9 ⟨m_, ⟨hm, rfl⟩, rfl⟩
          obtain rfl : m_ = xs.length := by rw [hm]; exact Hm.out.symm
          clear hm
          go_wp2
          go_ret
          exact ⟨rfl, hB1⟩
        · obtain ⟨n, rfl⟩ := Int.eq_ofNat_of_zero_le (show 0 ≤ n by omega)
          obtain ⟨m, rfl⟩ := Int.eq_ofNat_of_zero_le (show 0 ≤ m by omega)
          have hnm : n + m ≤ xs.length := by omega
          cases hr : right xs gap with
          | false =>
            have Hr := Lib.hid hr
            clear hr
            go_enter Try.func4, Try.ntmps4
            go_wp2_with (fail)
            refine (c10 _).mono ?_
            rintro e w1 ⟨rfl, hb1⟩
            have hB1 := hB0.trans (hb1.mono hB0.size)
            go_wp2_with (fail)
            refine (c11 _ _ _ _ hc hl).mono ?_
            rintro e w9 ⟨m_, ⟨hm, rfl⟩, rfl⟩
            obtain rfl : m_ = xs.length := by rw [hm]; exact Hm.out.symm
            clear hm
            go_wp2_with (fail)
            refine (c14_wrong _ _ _ _ _ _ _ (Hx.out.below hB1) hxl (.inl Hr.out)).mono ?_
            rintro e w2 ⟨rfl, hb2⟩
            have hB2 := hB1.trans (hb2.mono hB1.size)
            go_wp2_with (fail)
            refine (c14_wrong _ _ _ _ _ _ _ (Hx.out.below hB2) hxl (.inl Hr.out)).mono ?_
            rintro e w3 ⟨rfl, hb3⟩
            have hB3 := hB2.trans (hb3.mono hB2.size)
            go_wp2_with (fail)
            refine (c14_wrong _ _ _ _ _ _ _ (Hx.out.below hB3) hxl (.inl Hr.out)).mono ?_
            rintro e w4 ⟨rfl, hb4⟩
            have hB4 := hB3.trans (hb4.mono hB3.size)
            go_wp2_with (fail)
            refine (c14_wrong _ _ _ _ _ _ _ (Hx.out.below hB4) hxl (.inl Hr.out)).mono ?_
            rintro e w5 ⟨rfl, hb5⟩
            have hB5 := hB4.trans (hb5.mono hB4.size)
            go_wp2_with (fail)
            refine (c13_wrong _ _ _ _ _ (Hx.out.below hB5) hxl Hr.out).mono ?_
            rintro e w6 ⟨rfl, hb6⟩
            have hB6 := hB5.trans (hb6.mono hB5.size)
            go_wp2
            go_ret
            exact ⟨rfl, hB6⟩
          | true =>
            have hj := sp_join (gap := gap) (xs := xs) 0 n (by omega) m (by omega)
            rw [Nat.zero_add] at hj
            have he := ext_sp (gap := gap) (xs := xs) (by omega)
            have b1 := sp_bounds hr (a := 0) (n := n) (by omega)
            have b2 := sp_bounds hr (a := n) (n := m) (by omega)
            have b3 := sp_bounds hr (a := 0) (n := xs.length) (by omega)
            have hg := (right_iff.1 hr).2.1
            have H1 := Lib.hid (fun W (h : Ints W A xs) => (c14_right A xs c gap 0 n W h hr (by omega) : Calls Try.prog 14 #[.slice A xs.length c, .int .i64 gap, .int .i64 0, .int .i64 n] W _))
            have H3 := Lib.hid (fun W (h : Ints W A xs) => (c14_right A xs c gap 0 (n + m) W h hr (by omega) : Calls Try.prog 14 #[.slice A xs.length c, .int .i64 gap, .int .i64 0, .int .i64 ((n + m : Nat) : Int)] W _))
            have H4 := Lib.hid (fun W (h : Ints W A xs) => (c14_right A xs c gap 0 xs.length W h hr (by omega) : Calls Try.prog 14 #[.slice A xs.length c, .int .i64 gap, .int .i64 0, .int .i64 xs.length] W _))
            have H5 := Lib.hid (fun W (h : Ints W A xs) => c13_right A xs c gap W h hr)
            have H2 := Lib.hid (fun W (h : Ints W A xs) => c14_right A xs c gap n m W h hr (by omega))
            clear hr
            rw [hj] at H3
            rw [he] at H5
            clear hj he
            rw [Int.natCast_add] at H3
            generalize sp gap xs 0 n = p at *
            generalize sp gap xs n m = q at *
            generalize sp gap xs 0 xs.length = z at *
            have e1 : (z + gap + gap == z + 2 * gap) = true := by rw [beq_iff_eq]; omega
            go_enter Try.func4, Try.ntmps4
            go_wp2_with (fail)
            refine (c10 _).mono ?_
            rintro e w1 ⟨rfl, hb1⟩
            have hB1 := hB0.trans (hb1.mono hB0.size)
            go_wp2_with (fail)
            refine (c11 _ _ _ _ hc hl).mono ?_
            rintro e w9 ⟨m_, ⟨hm, rfl⟩, rfl⟩
            obtain rfl : m_ = xs.length := by rw [hm]; exact Hm.out.symm
            clear hm
            go_wp2_with (fail)
            refine (H1.out _ (Hx.out.below hB1)).mono ?_
            rintro e w2 ⟨rfl, hb2⟩
            have hB2 := hB1.trans (hb2.mono hB1.size)
            go_wp2_with (fail)
            refine (H2.out _ (Hx.out.below hB2)).mono ?_
            rintro e w3 ⟨rfl, hb3⟩
            have hB3 := hB2.trans (hb3.mono hB2.size)
            go_wp2_with (fail)
            refine (H3.out _ (Hx.out.below hB3)).mono ?_
            rintro e w4 ⟨rfl, hb4⟩
            have hB4 := hB3.trans (hb4.mono hB3.size)
            go_wp2_with (fail)
            refine (H4.out _ (Hx.out.below hB4)).mono ?_
            rintro e w5 ⟨rfl, hb5⟩
            have hB5 := hB4.trans (hb5.mono hB4.size)
            go_wp2_with (fail)
            refine (H5.out _ (Hx.out.below hB5)).mono ?_
            rintro e w6 ⟨rfl, hb6⟩
            have hB6 := hB5.trans (hb6.mono hB5.size)
            go_wp2
            go_ret
            exact ⟨rfl, hB6⟩

set_option maxRecDepth 100000 in
set_option maxHeartbeats 2000000 in
theorem rise_walk (A : Option Addr) (xs0 : List Int) (c : Nat) (gap : Int) (w : World) (hx0 : Ints w A xs0) (hc : xs0.length ≤ c) (hl : xs0.length ≤ 17592186044416) :
    Calls Try.prog 5 #[.slice A xs0.length c, .int .i64 gap] w fun e w' => e = .returned (.bool true) ∧ Below w.heap.size w w' := by
  obtain ⟨xs, hxs⟩ : ∃ xs, xs0.take 100 = xs := ⟨_, rfl⟩
  have hx := hx0.take 100
  have hm : xs.length = min xs0.length 100 := by rw [← hxs, List.length_take]; omega
  rw [hxs] at hx
  have Hx := Lib.hid hx
  have Hm := Lib.hid hm
  have hxl : xs.length ≤ 17592186044416 := by omega
  have hB0 : Below w.heap.size w w := Below.refl _ _
  clear hx hx0 hm hxs
  cases hr : right xs gap with
  | false =>
    have Hr := Lib.hid hr
    clear hr
    go_enter Try.func5, Try.ntmps5
    go_wp2_with (fail)
    refine (c10 _).mono ?_
    rintro e w1 ⟨rfl, hb1⟩
    have hB1 := hB0.trans (hb1.mono hB0.size)
    go_wp2_with (fail)
    refine (c11 _ _ _ _ hc hl).mono ?_
    rintro e w9 ⟨m_, ⟨hm, rfl⟩, rfl⟩
    obtain rfl : m_ = xs.length := by rw [hm]; exact Hm.out.symm
    clear hm
    go_wp2_with (fail)
    refine (c12_wrong _ _ _ _ _ (Hx.out.below hB1) hxl Hr.out).mono ?_
    rintro e w2 ⟨rfl, hb2⟩
    have hB2 := hB1.trans (hb2.mono hB1.size)
    go_wp2_with (fail)
    refine (c13_wrong _ _ _ _ _ (Hx.out.below hB2) hxl Hr.out).mono ?_
    rintro e w3 ⟨rfl, hb3⟩
    have hB3 := hB2.trans (hb3.mono hB2.size)
    go_wp2
    go_ret
    exact ⟨rfl, hB3⟩
  | true =>
    have hlen := (right_iff.1 hr).1
    have hg := (right_iff.1 hr).2.1
    have Hxs := Lib.hid (right_iff.1 hr).2.2
    have Hst := Lib.hid (st_bounds hr)
    have Hr := Lib.hid hr
    have het : Hid (ext gap xs = if xs.length = 0 then 0 else st gap xs xs.length) := Lib.hid rfl
    clear hr
    go_enter Try.func5, Try.ntmps5
    go_wp2_with (fail)
    refine (c10 _).mono ?_
    rintro e w1 ⟨rfl, hb1⟩
    have hB1 := hB0.trans (hb1.mono hB0.size)
    go_wp2_with (fail)
    refine (c11 _ _ _ _ hc hl).mono ?_
    rintro e w9 ⟨m_, ⟨hm, rfl⟩, rfl⟩
    obtain rfl : m_ = xs.length := by rw [hm]; exact Hm.out.symm
    clear hm
    go_wp2_with (fail)
    refine (c12_right _ _ _ _ _ (Hx.out.below hB1) Hr.out).mono ?_
    rintro e w2 ⟨A', c', rfl, -, hin, hb2⟩
    have hB2 := hB1.trans (hb2.mono hB1.size)
    have Hin := Lib.hid hin
    clear hin
    go_wp2_with (fail)
    refine (c13_right _ _ _ _ _ (Hx.out.below hB2) Hr.out).mono ?_
    rintro e w3 ⟨rfl, hb3⟩
    have hB3 := hB2.trans (hb3.mono hB2.size)
    have hin3 := Hin.out.below hb3
    have hx3 := Hx.out.below hB3
    have Hin3 := Lib.hid hin3
    have Hx3 := Lib.hid hx3
    clear hin3 hx3
    have t0 : (xs.length == xs.length) = true := by rw [beq_iff_eq]
    go_wp2
    go_loop [10, 11] (fun v i => ∃ k : Nat, k ≤ xs.length ∧ i = .int .i64 k ∧ ∃ a, v = .int .i64 a ∧ Hid (a = st gap xs k)) (fun _ i => xs.length - (intOf i).toNat)
    case atStart => exact ⟨0, Nat.zero_le _, rfl, _, rfl, Lib.hid rfl⟩
    case round =>
      obtain ⟨k, hk, rfl, a, rfl, ha⟩ := hrel
      have hab := Hst.out k hk
      rw [← ha.out] at hab
      by_cases hlt : k < xs.length
      · obtain ⟨x, b, off, hxk, rfl, hc⟩ := Hx3.out.get k hlt
        have hxb := Hxs.out k hlt
        rw [hxk.out] at hxb
        obtain ⟨y, b', off', hyk, rfl, hc'⟩ := Hin3.out.get k (by rw [upto_length]; exact hlt)
        have hya : y = a := by rw [← hyk.out, ha.out]; simp [upto, hlt]
        subst hya
        have hnext : y + x + gap = st gap xs (k + 1) := by simp only [st]; rw [hxk.out, ← ha.out]; omega
        have Hnext := Lib.hid hnext
        clear hnext
        go_wp2
        go_round
        case rel => exact ⟨k + 1, by omega, by go_num, _, rfl, Hnext⟩
        case measure => simp [intOf]; omega
      · obtain rfl : k = xs.length := by omega
        by_cases h0 : xs.length = 0
        · have he : ext gap xs = 0 := by unfold ext; rw [if_pos h0]
          rw [he]
          have t1 : (xs.length == 0) = true := by rw [beq_iff_eq]; exact h0
          have t2 : ((xs.length : Int) == 0) = true := by rw [beq_iff_eq]; omega
          clear h0 he
          by_cases t3 : (0 : Int) = a
          · have t4 : ((0 : Int) == a) = true := by rw [beq_iff_eq]; exact t3
            have T3 := Lib.hid t3
            clear t3
            go_wp2
            go_ret
            exact ⟨rfl, hB3⟩
          · have t4 : ((0 : Int) == a) = false := by rw [beq_eq_false_iff_ne]; exact t3
            have T3 := Lib.hid t3
            clear t3
            go_wp2
            go_ret
            exact ⟨rfl, hB3⟩
        · have he : ext gap xs = a := by unfold ext; rw [if_neg h0, ha.out]
          rw [he]
          have t4 : (a == a) = true := by rw [beq_iff_eq]
          clear h0 he
          go_wp2
          go_ret
          exact ⟨rfl, hB3⟩

end Go.Proofs.Ytnjifmoclfgegaa
