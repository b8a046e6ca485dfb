/- The walk of the law EdgesBands by the contracts: it returns true, whatever the slice, gap, place, number. -/
import Derived.Test.YtnjifmoclfgegaaG
namespace Go.Proofs.Ytnjifmoclfgegaa
open Go.RowKit Go.Shelf
set_option linter.unusedVariables false

def CutSaid (A : Option Addr) (n c : Nat) (w : World) (e : Ending) (w' : World) : Prop := ∃ m, (m = min n 100 ∧ e = .returned (.slice A m c)) ∧ w = w'
/-- purflinglaw10.cut -/
theorem c11 (A : Option Addr) (n c : Nat) (w : World) (hc : n ≤ c) (hl : n ≤ 17592186044416) :
    Calls Try.prog 11 #[.slice A n c] w (CutSaid A n c w) := by
  by_cases h : n ≤ 100
  · go_enter Try.func11, Try.ntmps11
    go_wp2
    go_ret
    exact ⟨_, ⟨by omega, rfl⟩, rfl⟩
  · go_enter Try.func11, Try.ntmps11
    go_wp2
    go_ret
    exact ⟨_, ⟨by omega, rfl⟩, rfl⟩

theorem Ints.take {w : World} {A : Option Addr} {xs : List Int} (h : Ints w A xs) (n : Nat) : Ints w A (xs.take n) := fun j hj => by
  obtain ⟨b, off, hA, hc⟩ := h j (by rw [List.length_take] at hj; omega)
  refine ⟨b, off, hA, ?_⟩
  rw [hc, List.getElem?_take, if_pos (by rw [List.length_take] at hj; omega)]

theorem right57 : right [5, 7] 2 = true := by decide
theorem ints_nil (w : World) (A : Option Addr) : Ints w A [] := fun j hj => absurd hj (Nat.not_lt_zero j)

theorem h12 (W : World) : Calls Try.prog 12 #[.slice (some ⟨W.heap.size, 0, none⟩) 2 2, .int .i64 2] (W.alloc (.cells #[.int .i64 5, .int .i64 7] 2)) fun e w' =>
    (∃ A' c', e = .returned (.tuple #[.slice A' 2 c', .int .i64 0]) ∧ Ints w' A' [2, 9]) ∧ Below (W.heap.size + 1) (W.alloc (.cells #[.int .i64 5, .int .i64 7] 2)) w' := by
  have h := c12_right (some ⟨W.heap.size, 0, none⟩) [5, 7] 2 2 (W.alloc (.cells #[.int .i64 5, .int .i64 7] 2)) (ints_two W 5 7 2) right57
  refine h.mono ?_
  rintro e w' ⟨A', c', h1, _, h3, h4⟩
  rw [World.size_alloc] at h4
  exact ⟨⟨A', c', h1, h3⟩, h4⟩
theorem h13 (W : World) : Calls Try.prog 13 #[.slice (some ⟨W.heap.size, 0, none⟩) 2 2, .int .i64 2] (W.alloc (.cells #[.int .i64 5, .int .i64 7] 2)) fun e w' =>
    e = .returned (.tuple #[.int .i64 18, .int .i64 0]) ∧ Below (W.heap.size + 1) (W.alloc (.cells #[.int .i64 5, .int .i64 7] 2)) w' := by
  have h := c13_right (some ⟨W.heap.size, 0, none⟩) [5, 7] 2 2 (W.alloc (.cells #[.int .i64 5, .int .i64 7] 2)) (ints_two W 5 7 2) right57
  refine h.mono ?_
  rintro e w' ⟨h1, h4⟩
  rw [World.size_alloc] at h4
  exact ⟨h1, h4⟩
theorem h13n (W : World) : Calls Try.prog 13 #[.slice none 0 0, .int .i64 (-1)] W fun e w' => e = .returned (.tuple #[.int .i64 0, .int .i64 100]) ∧ Below W.heap.size W w' :=
  c13_wrong none [] 0 (-1) W (ints_nil _ _) (by simp) (by decide)
theorem h17 (W : World) (A : Option Addr) (c : Nat) (hA : Ints W A [2, 9]) : Calls Try.prog 17 #[.slice A 2 c, .slice (some ⟨W.heap.size, 0, none⟩) 2 2] (W.alloc (.cells #[.int .i64 2, .int .i64 9] 2)) fun e w' =>
    e = .returned (.bool true) ∧ Below (W.heap.size + 1) (W.alloc (.cells #[.int .i64 2, .int .i64 9] 2)) w' := by
  have h := c17 A (some ⟨W.heap.size, 0, none⟩) [2, 9] [2, 9] c 2 (W.alloc (.cells #[.int .i64 2, .int .i64 9] 2)) (hA.below ((Below.refl _ _).alloc (Nat.le_refl _) _)) (ints_two W 2 9 2) (by simp) (by simp)
  refine h.mono ?_
  rintro e w' ⟨h1, h4⟩
  exact ⟨by rw [h1, decide_eq_true rfl], h4.below _⟩

/-- purflinglaw10.shown -/
theorem c10 (w : World) : Calls Try.prog 10 #[] w fun e w' => e = .returned (.bool true) ∧ Below w.heap.size w w' := by
  go_enter Try.func10, Try.ntmps10
  go_wp2_with (fail)
  refine (h12 _).mono ?_
  rintro e w1 ⟨⟨A', c', rfl, hin⟩, hb1⟩
  have Hin := Lib.hid hin
  clear hin
  have hB1 : Below w.heap.size w w1 := (((Below.refl _ _).alloc (Nat.le_refl _) _)).trans (hb1.mono (by omega))
  go_wp2_with (fail)
  refine (h13 _).mono ?_
  rintro e w2 ⟨rfl, hb2⟩
  have hB2' : Below w1.heap.size w1 w2 := (((Below.refl _ _).alloc (Nat.le_refl _) _)).trans (hb2.mono (by omega))
  go_wp2_with (fail)
  refine (h13n _).mono ?_
  rintro e w3 ⟨rfl, hb3⟩
  have hB3' : Below w1.heap.size w1 w3 := hB2'.trans (hb3.mono hB2'.size)
  have hin3 := Hin.out.below hB3'
  have Hin3 := Lib.hid hin3
  clear hin3
  go_wp2_with (fail)
  refine (h17 _ _ _ Hin3.out).mono ?_
  rintro e w4 ⟨rfl, hb4⟩
  have hB4' : Below w3.heap.size w3 w4 := (((Below.refl _ _).alloc (Nat.le_refl _) _)).trans (hb4.mono (by omega))
  go_wp2
  go_ret
  exact ⟨rfl, (hB1.trans (hB3'.mono hB1.size)).trans (hB4'.mono (hB1.trans (hB3'.mono hB1.size)).size)⟩

set_option maxRecDepth 100000 in
set_option maxHeartbeats 2000000 in
theorem bands_walk (A : Option Addr) (xs0 : List Int) (c : Nat) (gap a n : Int) (w : World) (hx0 : Ints w A xs0) (hc : xs0.length ≤ c) (hl : xs0.length ≤ 17592186044416) :
    Calls Try.prog 3 #[.slice A xs0.length c, .int .i64 gap, .int .i64 a, .int .i64 n] w fun e w' => e = .returned (.bool true) ∧ Below w.heap.size w w' := by
  obtain ⟨xs, hxs⟩ : ∃ xs, xs0.take 100 = xs := ⟨_, rfl⟩
  have hx := hx0.take 100
  have hm : xs.length = min xs0.length 100 := by rw [← hxs, List.length_take]; omega
  rw [hxs] at hx
  have Hx := Lib.hid hx
  have Hm := Lib.hid hm
  have hxl : xs.length ≤ 17592186044416 := by omega
  have hB0 : Below w.heap.size w w := Below.refl _ _
  clear hx hx0 hm hxs
  cases hr : right xs gap with
  | false =>
    have H15 := Lib.hid (fun W (h : Ints W A xs) => by have := c15 A xs c gap W h hxl; rw [hr] at this; exact this)
    have H16 := Lib.hid (fun W (h : Ints W A xs) => by have := c16 A xs c gap W h hxl; rw [hr] at this; exact this)
    have Hr := Lib.hid hr
    clear hr
    go_enter Try.func3, Try.ntmps3
    go_wp2_with (fail)
    refine (c10 _).mono ?_
    rintro e w1 ⟨rfl, hb1⟩
    have hB1 := hB0.trans (hb1.mono hB0.size)
    go_wp2_with (fail)
    refine (c11 _ _ _ _ hc hl).mono ?_
    rintro e w9 ⟨m, ⟨hm, rfl⟩, rfl⟩
    obtain rfl : m = xs.length := by rw [hm]; exact Hm.out.symm
    clear hm
    go_wp2_with (fail)
    refine (c12_wrong _ _ _ _ _ (Hx.out.below hB1) hxl Hr.out).mono ?_
    rintro e w2 ⟨rfl, hb2⟩
    have hB2 := hB1.trans (hb2.mono hB1.size)
    go_wp2_with (fail)
    refine (c13_wrong _ _ _ _ _ (Hx.out.below hB2) hxl Hr.out).mono ?_
    rintro e w3 ⟨rfl, hb3⟩
    have hB3 := hB2.trans (hb3.mono hB2.size)
    go_wp2_with (fail)
    refine (c14_wrong _ _ _ _ _ _ _ (Hx.out.below hB3) hxl (.inl Hr.out)).mono ?_
    rintro e w4 ⟨rfl, hb4⟩
    have hB4 := hB3.trans (hb4.mono hB3.size)
    go_wp2_with (fail)
    refine (H15.out _ (Hx.out.below hB4)).mono ?_
    rintro e w5 ⟨rfl, hd5⟩
    have hB5 := hB4.trans (hd5.below _)
    go_wp2_with (fail)
    refine (H16.out _ (Hx.out.below hB5)).mono ?_
    rintro e w6 ⟨rfl, hb6⟩
    have hB6 := hB5.trans (hb6.mono hB5.size)
    go_wp2
    go_ret
    exact ⟨rfl, hB6⟩
  | true =>
    have H15 := Lib.hid (fun W (h : Ints W A xs) => by have := c15 A xs c gap W h hxl; rw [hr] at this; exact this)
    have H16 := Lib.hid (fun W (h : Ints W A xs) => by have := c16 A xs c gap W h hxl; rw [hr] at this; exact this)
    have H17 := Lib.hid (fun W A' B' c' d' (h : Ints W A' (upto (st gap xs) xs.length)) (h' : Ints W B' (upto (st gap xs) xs.length)) => by
      have := c17 A' B' _ _ c' d' W h h' (by rw [upto_length]; exact hxl) (by rw [upto_length]; exact hxl); rw [decide_eq_true rfl, upto_length] at this; exact this)
    have Hr := Lib.hid hr
    clear hr
    by_cases hs : inSpan xs a n
    · obtain ⟨s1, s2, s3, s4⟩ := hs
      obtain ⟨a, rfl⟩ := Int.eq_ofNat_of_zero_le s1
      obtain ⟨n, rfl⟩ := Int.eq_ofNat_of_zero_le s3
      have hs : a + n ≤ xs.length := by omega
      go_enter Try.func3, Try.ntmps3
      go_wp2_with (fail)
      refine (c10 _).mono ?_
      rintro e w1 ⟨rfl, hb1⟩
      have hB1 := hB0.trans (hb1.mono hB0.size)
      go_wp2_with (fail)
      refine (c11 _ _ _ _ hc hl).mono ?_
      rintro e w9 ⟨m, ⟨hm, rfl⟩, rfl⟩
      obtain rfl : m = xs.length := by rw [hm]; exact Hm.out.symm
      clear hm
      go_wp2_with (fail)
      refine (c12_right _ _ _ _ _ (Hx.out.below hB1) Hr.out).mono ?_
      rintro e w2 ⟨A', c', rfl, -, hin, hb2⟩
      have hB2 := hB1.trans (hb2.mono hB1.size)
      have Hin := Lib.hid hin
      clear hin
      go_wp2_with (fail)
      refine (c13_right _ _ _ _ _ (Hx.out.below hB2) Hr.out).mono ?_
      rintro e w3 ⟨rfl, hb3⟩
      have hB3 := hB2.trans (hb3.mono hB2.size)
      go_wp2_with (fail)
      refine (c14_right _ _ _ _ _ _ _ (Hx.out.below hB3) Hr.out hs).mono ?_
      rintro e w4 ⟨rfl, hb4⟩
      have hB4 := hB3.trans (hb4.mono hB3.size)
      go_wp2_with (fail)
      refine (H15.out _ (Hx.out.below hB4)).mono ?_
      rintro e w5 ⟨rfl, hd5⟩
      have hB5 := hB4.trans (hd5.below _)
      go_wp2_with (fail)
      refine (H16.out _ (Hx.out.below hB5)).mono ?_
      rintro e w6 ⟨rfl, hb6⟩
      have hB6 := hB5.trans (hb6.mono hB5.size)
      go_wp2_with (fail)
      refine (c18 _ _ _ _ _ (Hx.out.below hB6) Hr.out).mono ?_
      rintro e w7 ⟨A2, c2, rfl, hin2, hb7⟩
      have hB7 := hB6.trans (hb7.mono hB6.size)
      have Hin2 := Lib.hid hin2
      clear hin2
      have hB27 : Below w2.heap.size w2 w7 := (((hb3.trans (hb4.mono hb3.size)).trans ((hd5.below _))).trans (hb6.mono (Nat.le_trans hb3.size (Nat.le_trans hb4.size (hd5.below 0).size)))).trans (hb7.mono (Nat.le_trans hb3.size (Nat.le_trans hb4.size (Nat.le_trans (hd5.below 0).size hb6.size))))
      go_wp2_with (fail)
      refine (H17.out _ _ _ _ _ (Hin.out.below hB27) Hin2.out).mono ?_
      rintro e w8 ⟨rfl, hd8⟩
      have hB8 := hB7.trans (hd8.below _)
      go_wp2_with (fail)
      refine (c19 _ _ _ _ _ (Hx.out.below hB8) Hr.out).mono ?_
      rintro e w9 ⟨rfl, rfl⟩
      go_wp2_with (fail)
      refine (c20 _ _ _ _ _ _ _ (Hx.out.below hB8) Hr.out hs).mono ?_
      rintro e w10 ⟨rfl, rfl⟩
      go_wp2
      go_ret
      exact ⟨rfl, hB8⟩
    · have Hs := Lib.hid hs
      have h4 : a < 0 ∨ (0 ≤ a ∧ (xs.length : Int) < a) ∨ (0 ≤ a ∧ a ≤ xs.length ∧ n < 0) ∨ (0 ≤ a ∧ a ≤ xs.length ∧ 0 ≤ n ∧ (xs.length : Int) - a < n) := by unfold inSpan at hs; omega
      clear hs
      rcases h4 with h1 | ⟨h1, h2⟩ | ⟨h1, h2, h3⟩ | ⟨h1, h2, h3, h4⟩
      · go_enter Try.func3, Try.ntmps3
        go_wp2_with (fail)
        refine (c10 _).mono ?_
        rintro e w1 ⟨rfl, hb1⟩
        have hB1 := hB0.trans (hb1.mono hB0.size)
        go_wp2_with (fail)
        refine (c11 _ _ _ _ hc hl).mono ?_
        rintro e w9 ⟨m, ⟨hm, rfl⟩, rfl⟩
        obtain rfl : m = xs.length := by rw [hm]; exact Hm.out.symm
        clear hm
        go_wp2_with (fail)
        refine (c12_right _ _ _ _ _ (Hx.out.below hB1) Hr.out).mono ?_
        rintro e w2 ⟨A', c', rfl, -, hin, hb2⟩
        have hB2 := hB1.trans (hb2.mono hB1.size)
        have Hin := Lib.hid hin
        clear hin
        go_wp2_with (fail)
        refine (c13_right _ _ _ _ _ (Hx.out.below hB2) Hr.out).mono ?_
        rintro e w3 ⟨rfl, hb3⟩
        have hB3 := hB2.trans (hb3.mono hB2.size)
        go_wp2_with (fail)
        refine (c14_wrong _ _ _ _ _ _ _ (Hx.out.below hB3) hxl (.inr Hs.out)).mono ?_
        rintro e w4 ⟨rfl, hb4⟩
        have hB4 := hB3.trans (hb4.mono hB3.size)
        go_wp2_with (fail)
        refine (H15.out _ (Hx.out.below hB4)).mono ?_
        rintro e w5 ⟨rfl, hd5⟩
        have hB5 := hB4.trans (hd5.below _)
        go_wp2_with (fail)
        refine (H16.out _ (Hx.out.below hB5)).mono ?_
        rintro e w6 ⟨rfl, hb6⟩
        have hB6 := hB5.trans (hb6.mono hB5.size)
        go_wp2_with (fail)
        refine (c18 _ _ _ _ _ (Hx.out.below hB6) Hr.out).mono ?_
        rintro e w7 ⟨A2, c2, rfl, hin2, hb7⟩
        have hB7 := hB6.trans (hb7.mono hB6.size)
        have Hin2 := Lib.hid hin2
        clear hin2
        have hB27 : Below w2.heap.size w2 w7 := (((hb3.trans (hb4.mono hb3.size)).trans ((hd5.below _))).trans (hb6.mono (Nat.le_trans hb3.size (Nat.le_trans hb4.size (hd5.below 0).size)))).trans (hb7.mono (Nat.le_trans hb3.size (Nat.le_trans hb4.size (Nat.le_trans (hd5.below 0).size hb6.size))))
        go_wp2_with (fail)
        refine (H17.out _ _ _ _ _ (Hin.out.below hB27) Hin2.out).mono ?_
        rintro e w8 ⟨rfl, hd8⟩
        have hB8 := hB7.trans (hd8.below _)
        go_wp2_with (fail)
        refine (c19 _ _ _ _ _ (Hx.out.below hB8) Hr.out).mono ?_
        rintro e w9 ⟨rfl, rfl⟩
        go_wp2
        go_ret
        exact ⟨rfl, hB8⟩
      · go_enter Try.func3, Try.ntmps3
        go_wp2_with (fail)
        refine (c10 _).mono ?_
        rintro e w1 ⟨rfl, hb1⟩
        have hB1 := hB0.trans (hb1.mono hB0.size)
        go_wp2_with (fail)
        refine (c11 _ _ _ _ hc hl).mono ?_
        rintro e w9 ⟨m, ⟨hm, rfl⟩, rfl⟩
        obtain rfl : m = xs.length := by rw [hm]; exact Hm.out.symm
        clear hm
        go_wp2_with (fail)
        refine (c12_right _ _ _ _ _ (Hx.out.below hB1) Hr.out).mono ?_
        rintro e w2 ⟨A', c', rfl, -, hin, hb2⟩
        have hB2 := hB1.trans (hb2.mono hB1.size)
        have Hin := Lib.hid hin
        clear hin
        go_wp2_with (fail)
        refine (c13_right _ _ _ _ _ (Hx.out.below hB2) Hr.out).mono ?_
        rintro e w3 ⟨rfl, hb3⟩
        have hB3 := hB2.trans (hb3.mono hB2.size)
        go_wp2_with (fail)
        refine (c14_wrong _ _ _ _ _ _ _ (Hx.out.below hB3) hxl (.inr Hs.out)).mono ?_
        rintro e w4 ⟨rfl, hb4⟩
        have hB4 := hB3.trans (hb4.mono hB3.size)
        go_wp2_with (fail)
        refine (H15.out _ (Hx.out.below hB4)).mono ?_
        rintro e w5 ⟨rfl, hd5⟩
        have hB5 := hB4.trans (hd5.below _)
        go_wp2_with (fail)
        refine (H16.out _ (Hx.out.below hB5)).mono ?_
        rintro e w6 ⟨rfl, hb6⟩
        have hB6 := hB5.trans (hb6.mono hB5.size)
        go_wp2_with (fail)
        refine (c18 _ _ _ _ _ (Hx.out.below hB6) Hr.out).mono ?_
        rintro e w7 ⟨A2, c2, rfl, hin2, hb7⟩
        have hB7 := hB6.trans (hb7.mono hB6.size)
        have Hin2 := Lib.hid hin2
        clear hin2
        have hB27 : Below w2.heap.size w2 w7 := (((hb3.trans (hb4.mono hb3.size)).trans ((hd5.below _))).trans (hb6.mono (Nat.le_trans hb3.size (Nat.le_trans hb4.size (hd5.below 0).size)))).trans (hb7.mono (Nat.le_trans hb3.size (Nat.le_trans hb4.size (Nat.le_trans (hd5.below 0).size hb6.size))))
        go_wp2_with (fail)
        refine (H17.out _ _ _ _ _ (Hin.out.below hB27) Hin2.out).mono ?_
        rintro e w8 ⟨rfl, hd8⟩
        have hB8 := hB7.trans (hd8.below _)
        go_wp2_with (fail)
        refine (c19 _ _ _ _ _ (Hx.out.below hB8) Hr.out).mono ?_
        rintro e w9 ⟨rfl, rfl⟩
        go_wp2
        go_ret
        exact ⟨rfl, hB8⟩
      · go_enter Try.func3, Try.ntmps3
        go_wp2_with (fail)
        refine (c10 _).mono ?_
        rintro e w1 ⟨rfl, hb1⟩
        have hB1 := hB0.trans (hb1.mono hB0.size)
        go_wp2_with (fail)
        refine (c11 _ _ _ _ hc hl).mono ?_
        rintro e w9 ⟨m, ⟨hm, rfl⟩, rfl⟩
        obtain rfl : m = xs.length := by rw [hm]; exact Hm.out.symm
        clear hm
        go_wp2_with (fail)
        refine (c12_right _ _ _ _ _ (Hx.out.below hB1) Hr.out).mono ?_
        rintro e w2 ⟨A', c', rfl, -, hin, hb2⟩
        have hB2 := hB1.trans (hb2.mono hB1.size)
        have Hin := Lib.hid hin
        clear hin
        go_wp2_with (fail)
        refine (c13_right _ _ _ _ _ (Hx.out.below hB2) Hr.out).mono ?_
        rintro e w3 ⟨rfl, hb3⟩
        have hB3 := hB2.trans (hb3.mono hB2.size)
        go_wp2_with (fail)
        refine (c14_wrong _ _ _ _ _ _ _ (Hx.out.below hB3) hxl (.inr Hs.out)).mono ?_
        rintro e w4 ⟨rfl, hb4⟩
        have hB4 := hB3.trans (hb4.mono hB3.size)
        go_wp2_with (fail)
        refine (H15.out _ (Hx.out.below hB4)).mono ?_
        rintro e w5 ⟨rfl, hd5⟩
        have hB5 := hB4.trans (hd5.below _)
        go_wp2_with (fail)
        refine (H16.out _ (Hx.out.below hB5)).mono ?_
        rintro e w6 ⟨rfl, hb6⟩
        have hB6 := hB5.trans (hb6.mono hB5.size)
        go_wp2_with (fail)
        refine (c18 _ _ _ _ _ (Hx.out.below hB6) Hr.out).mono ?_
        rintro e w7 ⟨A2, c2, rfl, hin2, hb7⟩
        have hB7 := hB6.trans (hb7.mono hB6.size)
        have Hin2 := Lib.hid hin2
        clear hin2
        have hB27 : Below w2.heap.size w2 w7 := (((hb3.trans (hb4.mono hb3.size)).trans ((hd5.below _))).trans (hb6.mono (Nat.le_trans hb3.size (Nat.le_trans hb4.size (hd5.below 0).size)))).trans (hb7.mono (Nat.le_trans hb3.size (Nat.le_trans hb4.size (Nat.le_trans (hd5.below 0).size hb6.size))))
        go_wp2_with (fail)
        refine (H17.out _ _ _ _ _ (Hin.out.below hB27) Hin2.out).mono ?_
        rintro e w8 ⟨rfl, hd8⟩
        have hB8 := hB7.trans (hd8.below _)
        go_wp2_with (fail)
        refine (c19 _ _ _ _ _ (Hx.out.below hB8) Hr.out).mono ?_
        rintro e w9 ⟨rfl, rfl⟩
        go_wp2
        go_ret
        exact ⟨rfl, hB8⟩
      · go_enter Try.func3, Try.ntmps3
        go_wp2_with (fail)
        refine (c10 _).mono ?_
        rintro e w1 ⟨rfl, hb1⟩
        have hB1 := hB0.trans (hb1.mono hB0.size)
        go_wp2_with (fail)
        refine (c11 _ _ _ _ hc hl).mono ?_
        rintro e w9 ⟨m, ⟨hm, rfl⟩, rfl⟩
        obtain rfl : m = xs.length := by rw [hm]; exact Hm.out.symm
        clear hm
        go_wp2_with (fail)
        refine (c12_right _ _ _ _ _ (Hx.out.below hB1) Hr.out).mono ?_
        rintro e w2 ⟨A', c', rfl, -, hin, hb2⟩
        have hB2 := hB1.trans (hb2.mono hB1.size)
        have Hin := Lib.hid hin
        clear hin
        go_wp2_with (fail)
        refine (c13_right _ _ _ _ _ (Hx.out.below hB2) Hr.out).mono ?_
        rintro e w3 ⟨rfl, hb3⟩
        have hB3 := hB2.trans (hb3.mono hB2.size)
        go_wp2_with (fail)
        refine (c14_wrong _ _ _ _ _ _ _ (Hx.out.below hB3) hxl (.inr Hs.out)).mono ?_
        rintro e w4 ⟨rfl, hb4⟩
        have hB4 := hB3.trans (hb4.mono hB3.size)
        go_wp2_with (fail)
        refine (H15.out _ (Hx.out.below hB4)).mono ?_
        rintro e w5 ⟨rfl, hd5⟩
        have hB5 := hB4.trans (hd5.below _)
        go_wp2_with (fail)
        refine (H16.out _ (Hx.out.below hB5)).mono ?_
        rintro e w6 ⟨rfl, hb6⟩
        have hB6 := hB5.trans (hb6.mono hB5.size)
        go_wp2_with (fail)
        refine (c18 _ _ _ _ _ (Hx.out.below hB6) Hr.out).mono ?_
        rintro e w7 ⟨A2, c2, rfl, hin2, hb7⟩
        have hB7 := hB6.trans (hb7.mono hB6.size)
        have Hin2 := Lib.hid hin2
        clear hin2
        have hB27 : Below w2.heap.size w2 w7 := (((hb3.trans (hb4.mono hb3.size)).trans ((hd5.below _))).trans (hb6.mono (Nat.le_trans hb3.size (Nat.le_trans hb4.size (hd5.below 0).size)))).trans (hb7.mono (Nat.le_trans hb3.size (Nat.le_trans hb4.size (Nat.le_trans (hd5.below 0).size hb6.size))))
        go_wp2_with (fail)
        refine (H17.out _ _ _ _ _ (Hin.out.below hB27) Hin2.out).mono ?_
        rintro e w8 ⟨rfl, hd8⟩
        have hB8 := hB7.trans (hd8.below _)
        go_wp2_with (fail)
        refine (c19 _ _ _ _ _ (Hx.out.below hB8) Hr.out).mono ?_
        rintro e w9 ⟨rfl, rfl⟩
        go_wp2
        go_ret
        exact ⟨rfl, hB8⟩

end Go.Proofs.Ytnjifmoclfgegaa
