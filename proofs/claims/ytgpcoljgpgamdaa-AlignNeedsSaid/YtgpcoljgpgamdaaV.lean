/- The walks of the laws AlignLines and AlignDowns by the contracts: they return true, whatever the input. -/
import Derived.Test.YtgpcoljgpgamdaaU
import Derived.Test.YtgpcoljgpgamdaaN
import Derived.Test.YtgpcoljgpgamdaaO
namespace Go.Proofs.Ytgpcoljgpgamdaa
open Go.RowKit Go.Shelf
set_option linter.unusedVariables false

theorem lines_len (R : Nat) (xs : List Cell) : (linesC R xs).length = R := linesOf_len R xs _

set_option maxRecDepth 100000 in
set_option maxHeartbeats 8000000 in
theorem lines_walk (A : Option Addr) (xs0 : List Cell) (c : Nat) (rows : Int) (w : World) (hx0 : Cells w A xs0) (hc : xs0.length ≤ c) (hl : xs0.length ≤ 17592186044416) :
    Calls Try.prog 3 #[.int .i64 rows, .slice A xs0.length c] w fun e w' => e = .returned (.bool true) ∧ Below w.heap.size w w' := by
  obtain ⟨xs, hxs⟩ : ∃ xs, xs0.take 100 = xs := ⟨_, rfl⟩
  have hx := hx0.take 100
  have hm : xs.length = min xs0.length 100 := by rw [← hxs, List.length_take]; omega
  rw [hxs] at hx
  have Hx := Lib.hid hx
  have Hm := Lib.hid hm
  have hxl : xs.length ≤ 17592186044416 := by omega
  have hx1 : xs.length ≤ 1000 := by omega
  have hB0 : Below w.heap.size w w := Below.refl _ _
  clear hx hx0 hm hxs
  by_cases h1 : rows ≤ 200
  · cases hr : rightC rows xs with
    | false =>
      have Hr := Lib.hid hr
      clear hr
      go_enter Try.func3, Try.ntmps3
      go_wp2_with (fail)
      refine (shown10 _).mono ?_
      rintro e w1 ⟨rfl, hb1⟩
      have hB1 := hB0.trans (hb1.mono hB0.size)
      clear hb1
      go_wp2_with (fail)
      refine (cut11 _ _ _ _ hc hl).mono ?_
      rintro e w9 ⟨m_, ⟨hm, rfl⟩, rfl⟩
      obtain rfl : m_ = xs.length := by rw [hm]; exact Hm.out.symm
      clear hm
      go_wp2_with (fail)
      refine (lines12_wrong _ _ _ _ _ (Hx.out.below hB1) hxl Hr.out).mono ?_
      rintro e w2 ⟨rfl, hb2⟩
      have hB2 := hB1.trans (hb2.mono hB1.size)
      clear hb2
      go_wp2_with (fail)
      refine (needs13_wrong _ _ _ _ _ (Hx.out.below hB2) hxl Hr.out).mono ?_
      rintro e w3 ⟨rfl, hb3⟩
      have hB3 := hB2.trans (hb3.mono hB2.size)
      clear hb3
      go_wp2_with (fail)
      refine (right14 _ _ _ _ _ (Hx.out.below hB3) hxl).mono ?_
      rintro e w4 ⟨rfl, hb4⟩
      have hB4 := hB3.trans (hb4.mono hB3.size)
      clear hb4
      rw [Hr.out]
      go_wp2_with (fail)
      refine (right15 _ _ _ _ _ (Hx.out.below hB4) hxl).mono ?_
      rintro e w5 ⟨rfl, hb5⟩
      have hB5 := hB4.trans (hb5.mono hB4.size)
      clear hb5
      rw [Hr.out]
      go_wp2
      go_ret
      exact ⟨rfl, hB5⟩
    | true =>
      have hR : 0 ≤ rows := by
        unfold rightC at hr
        rw [Bool.and_eq_true] at hr
        exact (inR_iff.1 hr.1).1
      obtain ⟨R, rfl⟩ := Int.eq_ofNat_of_zero_le hR
      have Hr := Lib.hid hr
      clear hr hR
      go_enter Try.func3, Try.ntmps3
      go_wp2_with (fail)
      refine (shown10 _).mono ?_
      rintro e w1 ⟨rfl, hb1⟩
      have hB1 := hB0.trans (hb1.mono hB0.size)
      clear hb1
      go_wp2_with (fail)
      refine (cut11 _ _ _ _ hc hl).mono ?_
      rintro e w9 ⟨m_, ⟨hm, rfl⟩, rfl⟩
      obtain rfl : m_ = xs.length := by rw [hm]; exact Hm.out.symm
      clear hm
      go_wp2_with (fail)
      refine (lines12_right _ _ _ R _ (Hx.out.below hB1) hxl Hr.out).mono ?_
      rintro e w2 ⟨g, rfl, hr2, -, hb2⟩
      have hB2 := hB1.trans (hb2.mono hB1.size)
      change RowB w2 g (linesC R xs) at hr2
      have HR2 := Lib.hid hr2
      clear hb2 hr2
      go_wp2_with (fail)
      refine (needs13_right _ _ _ R _ (Hx.out.below hB2) hx1 Hr.out).mono ?_
      rintro e w3 ⟨A3, c3, rfl, -, hr3, -, hb3⟩
      have hB3 := hB2.trans (hb3.mono hB2.size)
      have HR23 := Lib.hid (HR2.out.below hb3 HR2.out.lt)
      have HR3 := Lib.hid hr3
      clear hb3 hr3
      go_wp2_with (fail)
      refine (right14 _ _ _ _ _ (Hx.out.below hB3) hxl).mono ?_
      rintro e w4 ⟨rfl, hb4⟩
      have hB4 := hB3.trans (hb4.mono hB3.size)
      have HR24 := Lib.hid (HR23.out.below hb4 HR23.out.lt)
      have HR34 := Lib.hid (HR3.out.below hb4)
      clear hb4
      rw [Hr.out]
      go_wp2_with (fail)
      refine (right15 _ _ _ _ _ (Hx.out.below hB4) hxl).mono ?_
      rintro e w5 ⟨rfl, hb5⟩
      have hB5 := hB4.trans (hb5.mono hB4.size)
      have HR25 := Lib.hid (HR24.out.below hb5 HR24.out.lt)
      have HR35 := Lib.hid (HR34.out.below hb5)
      clear hb5
      rw [Hr.out]
      go_wp2_with (fail)
      refine (rlines17 _ _ _ R _ (Hx.out.below hB5) hxl Hr.out).mono ?_
      rintro e w6 ⟨g6, rfl, hr6, -, hb6⟩
      have hB6 := hB5.trans (hb6.mono hB5.size)
      have HR26 := Lib.hid (HR25.out.below hb6 HR25.out.lt)
      have HR36 := Lib.hid (HR35.out.below hb6)
      have HR6 := Lib.hid hr6
      clear hb6 hr6
      go_wp2_with (fail)
      have hs := same16 _ _ _ _ R R w6 HR26.out.ints HR6.out.ints (by rw [lines_len]; omega) (by rw [lines_len]; omega) rfl
      rw [lines_len] at hs
      refine hs.mono ?_
      clear hs
      rintro e w7 ⟨rfl, hb7⟩
      have hB7 := hB6.trans (hb7.mono hB6.size)
      have HR37 := Lib.hid (HR36.out.below hb7)
      clear hb7
      go_wp2_with (fail)
      refine (rneeds18 _ _ _ R _ (Hx.out.below hB7) hx1 Hr.out).mono ?_
      rintro e w8 ⟨A8, c8, rfl, hr8, hb8⟩
      have hB8 := hB7.trans (hb8.mono hB7.size)
      have HR38 := Lib.hid (HR37.out.below hb8)
      have HR8 := Lib.hid hr8
      clear hb8 hr8
      go_wp2_with (fail)
      have hs := same16 _ _ _ _ c3 c8 w8 HR38.out HR8.out (by rw [List.length_map]; omega) (by rw [List.length_map]; omega) rfl
      rw [List.length_map] at hs
      try rw [List.length_map]
      refine hs.mono ?_
      clear hs
      rintro e w10 ⟨rfl, hb10⟩
      have hB10 := hB8.trans (hb10.mono hB8.size)
      clear hb10
      go_wp2
      go_ret
      exact ⟨rfl, hB10⟩
  · by_cases h2 : rows ≤ 10000
    · go_enter Try.func3, Try.ntmps3
      go_wp2_with (fail)
      refine (shown10 _).mono ?_
      rintro e w1 ⟨rfl, hb1⟩
      have hB1 := hB0.trans (hb1.mono hB0.size)
      clear hb1
      go_wp2_with (fail)
      refine (cut11 _ _ _ _ hc hl).mono ?_
      rintro e w9 ⟨m_, ⟨hm, rfl⟩, rfl⟩
      obtain rfl : m_ = xs.length := by rw [hm]; exact Hm.out.symm
      clear hm
      go_wp2
      go_ret
      exact ⟨rfl, hB1⟩
    · have Hr : Hid (rightC rows xs = false) := Lib.hid (by
        cases hr : rightC rows xs with
        | false => rfl
        | true =>
          unfold rightC at hr
          rw [Bool.and_eq_true] at hr
          exact absurd (inR_iff.1 hr.1).2 h2)
      go_enter Try.func3, Try.ntmps3
      go_wp2_with (fail)
      refine (shown10 _).mono ?_
      rintro e w1 ⟨rfl, hb1⟩
      have hB1 := hB0.trans (hb1.mono hB0.size)
      clear hb1
      go_wp2_with (fail)
      refine (cut11 _ _ _ _ hc hl).mono ?_
      rintro e w9 ⟨m_, ⟨hm, rfl⟩, rfl⟩
      obtain rfl : m_ = xs.length := by rw [hm]; exact Hm.out.symm
      clear hm
      go_wp2_with (fail)
      refine (lines12_wrong _ _ _ _ _ (Hx.out.below hB1) hxl Hr.out).mono ?_
      rintro e w2 ⟨rfl, hb2⟩
      have hB2 := hB1.trans (hb2.mono hB1.size)
      clear hb2
      go_wp2_with (fail)
      refine (needs13_wrong _ _ _ _ _ (Hx.out.below hB2) hxl Hr.out).mono ?_
      rintro e w3 ⟨rfl, hb3⟩
      have hB3 := hB2.trans (hb3.mono hB2.size)
      clear hb3
      go_wp2_with (fail)
      refine (right14 _ _ _ _ _ (Hx.out.below hB3) hxl).mono ?_
      rintro e w4 ⟨rfl, hb4⟩
      have hB4 := hB3.trans (hb4.mono hB3.size)
      clear hb4
      rw [Hr.out]
      go_wp2_with (fail)
      refine (right15 _ _ _ _ _ (Hx.out.below hB4) hxl).mono ?_
      rintro e w5 ⟨rfl, hb5⟩
      have hB5 := hB4.trans (hb5.mono hB4.size)
      clear hb5
      rw [Hr.out]
      go_wp2
      go_ret
      exact ⟨rfl, hB5⟩

end Go.Proofs.Ytgpcoljgpgamdaa
