/- The walk of the law AlignDowns by the contracts: it returns true, whatever the input. -/
import Derived.Test.YtgpcoljgpgamdaaV
namespace Go.Proofs.Ytgpcoljgpgamdaa
open Go.RowKit Go.Shelf
set_option linter.unusedVariables false

theorem Ints.take {w : World} {A : Option Addr} {xs : List Int} (h : Ints w A xs) (n : Nat) : Ints w A (xs.take n) := fun j hj => by
  obtain ⟨b, off, hA, hc⟩ := h j (by rw [List.length_take] at hj; omega)
  refine ⟨b, off, hA, ?_⟩
  rw [hc, List.getElem?_take, if_pos (by rw [List.length_take] at hj; omega)]
theorem d19_wrong (A Ar : Option Addr) (xs : List Cell) (c cr : Nat) (rows : List Int) (gap : Int) (w : World) (n : Nat) (hx : Cells w A xs) (hl : xs.length ≤ 1000) (hrows : Ints w Ar rows) (hlr : rows.length ≤ 17592186044416) (hr : rightC rows.length xs = false ∨ right rows gap = false) (hn : rows.length = n) :
    Calls Try.prog 19 #[.slice Ar n cr, .int .i64 gap, .slice A xs.length c] w fun e w' => e = .returned (.tuple #[.slice none 0 0, .int .i64 170]) ∧ Below w.heap.size w w' := by
  subst hn; exact downs19_wrong A Ar xs c cr rows gap w hx hl hrows hlr hr
theorem d19_right (A Ar : Option Addr) (xs : List Cell) (c cr : Nat) (rows : List Int) (gap : Int) (w : World) (n : Nat) (hx : Cells w A xs) (hl : xs.length ≤ 1000) (hrows : Ints w Ar rows) (hr : rightC rows.length xs = true) (hb : right rows gap = true) (hn : rows.length = n) :
    Calls Try.prog 19 #[.slice Ar n cr, .int .i64 gap, .slice A xs.length c] w (DownsSaid xs rows gap w) := by
  subst hn; exact downs19_right A Ar xs c cr rows gap w hx hl hrows hr hb
theorem k21 (A Ar : Option Addr) (xs : List Cell) (c cr : Nat) (rows : List Int) (gap : Int) (w : World) (n : Nat) (hx : Cells w A xs) (hl : xs.length ≤ 1000) (hrows : Ints w Ar rows) (hr : rightC rows.length xs = true) (hb : right rows gap = true) (hn : rows.length = n) :
    Calls Try.prog 21 #[.slice Ar n cr, .int .i64 gap, .slice A xs.length c] w (OwnInts (xs.map (downOf (linesC rows.length xs) rows gap)) w) := by
  subst hn; exact rdowns21 A Ar xs c cr rows gap w hx hl hrows hr hb
theorem k15 (A : Option Addr) (xs : List Int) (c : Nat) (gap : Int) (w : World) (n : Nat) (hx : Ints w A xs) (hl : xs.length ≤ 17592186044416) (hn : xs.length = n) :
    Calls Try.prog 20 #[.slice A n c, .int .i64 gap] w fun e w' => e = .returned (.bool (right xs gap)) ∧ Dr w w' := by
  subst hn; exact c15 A xs c gap w hx hl
theorem k14 {A : Option Addr} {xs : List Cell} {rows : List Int} (c : Nat) (R : Int) (w : World) (b : Bool) (hx : Cells w A xs) (hl : xs.length ≤ 17592186044416) (hn : R = rows.length) (hb : rightC rows.length xs = b) :
    Calls Try.prog 14 #[.int .i64 R, .slice A xs.length c] w fun e w' => e = .returned (.bool b) ∧ Below w.heap.size w w' := by
  subst hn hb; exact right14 A xs c rows.length w hx hl

set_option maxRecDepth 100000 in
set_option maxHeartbeats 8000000 in
theorem downs_walk (Ar A : Option Addr) (rows0 : List Int) (cr : Nat) (xs0 : List Cell) (c : Nat) (gap : Int) (w : World) (hr0 : Ints w Ar rows0) (hcr : rows0.length ≤ cr) (hlr : rows0.length ≤ 17592186044416) (hx0 : Cells w A xs0) (hc2 : xs0.length ≤ c) (hl2 : xs0.length ≤ 17592186044416) :
    Calls Try.prog 4 #[.slice Ar rows0.length cr, .int .i64 gap, .slice A xs0.length c] w fun e w' => e = .returned (.bool true) ∧ Below w.heap.size w w' := by
  obtain ⟨xs, hxs⟩ : ∃ xs, xs0.take 100 = xs := ⟨_, rfl⟩
  have hx := hx0.take 100
  have hm : xs.length = min xs0.length 100 := by rw [← hxs, List.length_take]; omega
  rw [hxs] at hx
  have Hx := Lib.hid hx
  have Hm := Lib.hid hm
  have hxl : xs.length ≤ 17592186044416 := by omega
  have hx1 : xs.length ≤ 1000 := by omega
  have hB0 : Below w.heap.size w w := Below.refl _ _
  clear hx hx0 hm hxs
  obtain ⟨rows, hrs⟩ : ∃ rows, rows0.take 100 = rows := ⟨_, rfl⟩
  have hr := hr0.take 100
  have hmr : rows.length = min rows0.length 100 := by rw [← hrs, List.length_take]; omega
  rw [hrs] at hr
  have Hr := Lib.hid hr
  have hrl : rows.length ≤ 17592186044416 := by omega
  clear hr hr0 hrs
  by_cases h100 : rows0.length ≤ 100
  · have hn : rows.length = rows0.length := by omega
    clear hmr
    cases hg : right rows gap with
    | false =>
      have Hg := Lib.hid hg
      have Hw : Hid (rightC rows.length xs = false ∨ right rows gap = false) := Lib.hid (.inr hg)
      clear hg
      cases hcc : rightC rows.length xs with
      | false =>
        have Hc := Lib.hid hcc
        clear hcc
        go_enter Try.func4, Try.ntmps4
        go_wp2_with (fail)
        refine (shown10 _).mono ?_
        rintro e w1 ⟨rfl, hb1⟩
        have hB1 := hB0.trans (hb1.mono hB0.size)
        clear hb1
        go_wp2_with (fail)
        refine (cut11 _ _ _ _ hc2 hl2).mono ?_
        rintro e w9 ⟨m_, ⟨hm, rfl⟩, rfl⟩
        obtain rfl : m_ = xs.length := by rw [hm]; exact Hm.out.symm
        clear hm
        go_wp2_with (fail)
        refine (d19_wrong _ _ _ _ _ _ _ _ _ (Hx.out.below hB1) hx1 (Hr.out.below hB1) hrl Hw.out hn).mono ?_
        rintro e w2 ⟨rfl, hb2⟩
        have hB2 := hB1.trans (hb2.mono hB1.size)
        clear hb2
        go_wp2_with (fail)
        refine (k15 _ _ _ _ _ _ (Hr.out.below hB2) hrl hn).mono ?_
        rintro e w3 ⟨rfl, hd3⟩
        have hb3 := dr_below hd3
        have hB3 := hB2.trans (hb3.mono hB2.size)
        clear hb3 hd3
        rw [Hg.out]
        go_wp2_with (fail)
        refine (k14 _ _ _ _ (Hx.out.below hB3) hxl (by omega) Hc.out).mono ?_
        rintro e w4 ⟨rfl, hb4⟩
        have hB4 := hB3.trans (hb4.mono hB3.size)
        clear hb4
        go_wp2
        go_ret
        exact ⟨rfl, hB4⟩
      | true =>
        have Hc := Lib.hid hcc
        clear hcc
        go_enter Try.func4, Try.ntmps4
        go_wp2_with (fail)
        refine (shown10 _).mono ?_
        rintro e w1 ⟨rfl, hb1⟩
        have hB1 := hB0.trans (hb1.mono hB0.size)
        clear hb1
        go_wp2_with (fail)
        refine (cut11 _ _ _ _ hc2 hl2).mono ?_
        rintro e w9 ⟨m_, ⟨hm, rfl⟩, rfl⟩
        obtain rfl : m_ = xs.length := by rw [hm]; exact Hm.out.symm
        clear hm
        go_wp2_with (fail)
        refine (d19_wrong _ _ _ _ _ _ _ _ _ (Hx.out.below hB1) hx1 (Hr.out.below hB1) hrl Hw.out hn).mono ?_
        rintro e w2 ⟨rfl, hb2⟩
        have hB2 := hB1.trans (hb2.mono hB1.size)
        clear hb2
        go_wp2_with (fail)
        refine (k15 _ _ _ _ _ _ (Hr.out.below hB2) hrl hn).mono ?_
        rintro e w3 ⟨rfl, hd3⟩
        have hb3 := dr_below hd3
        have hB3 := hB2.trans (hb3.mono hB2.size)
        clear hb3 hd3
        rw [Hg.out]
        go_wp2_with (fail)
        refine (k14 _ _ _ _ (Hx.out.below hB3) hxl (by omega) Hc.out).mono ?_
        rintro e w4 ⟨rfl, hb4⟩
        have hB4 := hB3.trans (hb4.mono hB3.size)
        clear hb4
        go_wp2
        go_ret
        exact ⟨rfl, hB4⟩
    | true =>
      have Hg := Lib.hid hg
      clear hg
      cases hcc : rightC rows.length xs with
      | false =>
        have Hc := Lib.hid hcc
        have Hw : Hid (rightC rows.length xs = false ∨ right rows gap = false) := Lib.hid (.inl hcc)
        clear hcc
        go_enter Try.func4, Try.ntmps4
        go_wp2_with (fail)
        refine (shown10 _).mono ?_
        rintro e w1 ⟨rfl, hb1⟩
        have hB1 := hB0.trans (hb1.mono hB0.size)
        clear hb1
        go_wp2_with (fail)
        refine (cut11 _ _ _ _ hc2 hl2).mono ?_
        rintro e w9 ⟨m_, ⟨hm, rfl⟩, rfl⟩
        obtain rfl : m_ = xs.length := by rw [hm]; exact Hm.out.symm
        clear hm
        go_wp2_with (fail)
        refine (d19_wrong _ _ _ _ _ _ _ _ _ (Hx.out.below hB1) hx1 (Hr.out.below hB1) hrl Hw.out hn).mono ?_
        rintro e w2 ⟨rfl, hb2⟩
        have hB2 := hB1.trans (hb2.mono hB1.size)
        clear hb2
        go_wp2_with (fail)
        refine (k15 _ _ _ _ _ _ (Hr.out.below hB2) hrl hn).mono ?_
        rintro e w3 ⟨rfl, hd3⟩
        have hb3 := dr_below hd3
        have hB3 := hB2.trans (hb3.mono hB2.size)
        clear hb3 hd3
        rw [Hg.out]
        go_wp2_with (fail)
        refine (k14 _ _ _ _ (Hx.out.below hB3) hxl (by omega) Hc.out).mono ?_
        rintro e w4 ⟨rfl, hb4⟩
        have hB4 := hB3.trans (hb4.mono hB3.size)
        clear hb4
        go_wp2
        go_ret
        exact ⟨rfl, hB4⟩
      | true =>
        have Hc := Lib.hid hcc
        clear hcc
        go_enter Try.func4, Try.ntmps4
        go_wp2_with (fail)
        refine (shown10 _).mono ?_
        rintro e w1 ⟨rfl, hb1⟩
        have hB1 := hB0.trans (hb1.mono hB0.size)
        clear hb1
        go_wp2_with (fail)
        refine (cut11 _ _ _ _ hc2 hl2).mono ?_
        rintro e w9 ⟨m_, ⟨hm, rfl⟩, rfl⟩
        obtain rfl : m_ = xs.length := by rw [hm]; exact Hm.out.symm
        clear hm
        go_wp2_with (fail)
        refine (d19_right _ _ _ _ _ _ _ _ _ (Hx.out.below hB1) hx1 (Hr.out.below hB1) Hc.out Hg.out hn).mono ?_
        rintro e w2 ⟨A3, c3, rfl, -, hr3, hb2⟩
        have hB2 := hB1.trans (hb2.mono hB1.size)
        have HR2 := Lib.hid hr3
        clear hb2 hr3
        go_wp2_with (fail)
        refine (k15 _ _ _ _ _ _ (Hr.out.below hB2) hrl hn).mono ?_
        rintro e w3 ⟨rfl, hd3⟩
        have hb3 := dr_below hd3
        have hB3 := hB2.trans (hb3.mono hB2.size)
        have HR3 := Lib.hid (HR2.out.below hb3)
        clear hb3 hd3
        rw [Hg.out]
        go_wp2_with (fail)
        refine (k14 _ _ _ _ (Hx.out.below hB3) hxl (by omega) Hc.out).mono ?_
        rintro e w4 ⟨rfl, hb4⟩
        have hB4 := hB3.trans (hb4.mono hB3.size)
        have HR4 := Lib.hid (HR3.out.below hb4)
        clear hb4
        go_wp2_with (fail)
        refine (k21 _ _ _ _ _ _ _ _ _ (Hx.out.below hB4) hx1 (Hr.out.below hB4) Hc.out Hg.out hn).mono ?_
        rintro e w8 ⟨A8, c8, rfl, hr8, hb8⟩
        have hB8 := hB4.trans (hb8.mono hB4.size)
        have HR38 := Lib.hid (HR4.out.below hb8)
        have HR8 := Lib.hid hr8
        clear hb8 hr8
        go_wp2_with (fail)
        have hs := same16 _ _ _ _ c3 c8 w8 HR38.out HR8.out (by rw [List.length_map]; omega) (by rw [List.length_map]; omega) rfl
        rw [List.length_map] at hs
        try rw [List.length_map]
        refine hs.mono ?_
        clear hs
        rintro e w10 ⟨rfl, hb10⟩
        have hB10 := hB8.trans (hb10.mono hB8.size)
        clear hb10
        go_wp2
        go_ret
        exact ⟨rfl, hB10⟩
  · have hn : rows.length = 100 := by omega
    clear hmr
    cases hg : right rows gap with
    | false =>
      have Hg := Lib.hid hg
      have Hw : Hid (rightC rows.length xs = false ∨ right rows gap = false) := Lib.hid (.inr hg)
      clear hg
      cases hcc : rightC rows.length xs with
      | false =>
        have Hc := Lib.hid hcc
        clear hcc
        go_enter Try.func4, Try.ntmps4
        go_wp2_with (fail)
        refine (shown10 _).mono ?_
        rintro e w1 ⟨rfl, hb1⟩
        have hB1 := hB0.trans (hb1.mono hB0.size)
        clear hb1
        go_wp2_with (fail)
        refine (cut11 _ _ _ _ hc2 hl2).mono ?_
        rintro e w9 ⟨m_, ⟨hm, rfl⟩, rfl⟩
        obtain rfl : m_ = xs.length := by rw [hm]; exact Hm.out.symm
        clear hm
        go_wp2_with (fail)
        refine (d19_wrong _ _ _ _ _ _ _ _ _ (Hx.out.below hB1) hx1 (Hr.out.below hB1) hrl Hw.out hn).mono ?_
        rintro e w2 ⟨rfl, hb2⟩
        have hB2 := hB1.trans (hb2.mono hB1.size)
        clear hb2
        go_wp2_with (fail)
        refine (k15 _ _ _ _ _ _ (Hr.out.below hB2) hrl hn).mono ?_
        rintro e w3 ⟨rfl, hd3⟩
        have hb3 := dr_below hd3
        have hB3 := hB2.trans (hb3.mono hB2.size)
        clear hb3 hd3
        rw [Hg.out]
        go_wp2_with (fail)
        refine (k14 _ _ _ _ (Hx.out.below hB3) hxl (by omega) Hc.out).mono ?_
        rintro e w4 ⟨rfl, hb4⟩
        have hB4 := hB3.trans (hb4.mono hB3.size)
        clear hb4
        go_wp2
        go_ret
        exact ⟨rfl, hB4⟩
      | true =>
        have Hc := Lib.hid hcc
        clear hcc
        go_enter Try.func4, Try.ntmps4
        go_wp2_with (fail)
        refine (shown10 _).mono ?_
        rintro e w1 ⟨rfl, hb1⟩
        have hB1 := hB0.trans (hb1.mono hB0.size)
        clear hb1
        go_wp2_with (fail)
        refine (cut11 _ _ _ _ hc2 hl2).mono ?_
        rintro e w9 ⟨m_, ⟨hm, rfl⟩, rfl⟩
        obtain rfl : m_ = xs.length := by rw [hm]; exact Hm.out.symm
        clear hm
        go_wp2_with (fail)
        refine (d19_wrong _ _ _ _ _ _ _ _ _ (Hx.out.below hB1) hx1 (Hr.out.below hB1) hrl Hw.out hn).mono ?_
        rintro e w2 ⟨rfl, hb2⟩
        have hB2 := hB1.trans (hb2.mono hB1.size)
        clear hb2
        go_wp2_with (fail)
        refine (k15 _ _ _ _ _ _ (Hr.out.below hB2) hrl hn).mono ?_
        rintro e w3 ⟨rfl, hd3⟩
        have hb3 := dr_below hd3
        have hB3 := hB2.trans (hb3.mono hB2.size)
        clear hb3 hd3
        rw [Hg.out]
        go_wp2_with (fail)
        refine (k14 _ _ _ _ (Hx.out.below hB3) hxl (by omega) Hc.out).mono ?_
        rintro e w4 ⟨rfl, hb4⟩
        have hB4 := hB3.trans (hb4.mono hB3.size)
        clear hb4
        go_wp2
        go_ret
        exact ⟨rfl, hB4⟩
    | true =>
      have Hg := Lib.hid hg
      clear hg
      cases hcc : rightC rows.length xs with
      | false =>
        have Hc := Lib.hid hcc
        have Hw : Hid (rightC rows.length xs = false ∨ right rows gap = false) := Lib.hid (.inl hcc)
        clear hcc
        go_enter Try.func4, Try.ntmps4
        go_wp2_with (fail)
        refine (shown10 _).mono ?_
        rintro e w1 ⟨rfl, hb1⟩
        have hB1 := hB0.trans (hb1.mono hB0.size)
        clear hb1
        go_wp2_with (fail)
        refine (cut11 _ _ _ _ hc2 hl2).mono ?_
        rintro e w9 ⟨m_, ⟨hm, rfl⟩, rfl⟩
        obtain rfl : m_ = xs.length := by rw [hm]; exact Hm.out.symm
        clear hm
        go_wp2_with (fail)
        refine (d19_wrong _ _ _ _ _ _ _ _ _ (Hx.out.below hB1) hx1 (Hr.out.below hB1) hrl Hw.out hn).mono ?_
        rintro e w2 ⟨rfl, hb2⟩
        have hB2 := hB1.trans (hb2.mono hB1.size)
        clear hb2
        go_wp2_with (fail)
        refine (k15 _ _ _ _ _ _ (Hr.out.below hB2) hrl hn).mono ?_
        rintro e w3 ⟨rfl, hd3⟩
        have hb3 := dr_below hd3
        have hB3 := hB2.trans (hb3.mono hB2.size)
        clear hb3 hd3
        rw [Hg.out]
        go_wp2_with (fail)
        refine (k14 _ _ _ _ (Hx.out.below hB3) hxl (by omega) Hc.out).mono ?_
        rintro e w4 ⟨rfl, hb4⟩
        have hB4 := hB3.trans (hb4.mono hB3.size)
        clear hb4
        go_wp2
        go_ret
        exact ⟨rfl, hB4⟩
      | true =>
        have Hc := Lib.hid hcc
        clear hcc
        go_enter Try.func4, Try.ntmps4
        go_wp2_with (fail)
        refine (shown10 _).mono ?_
        rintro e w1 ⟨rfl, hb1⟩
        have hB1 := hB0.trans (hb1.mono hB0.size)
        clear hb1
        go_wp2_with (fail)
        refine (cut11 _ _ _ _ hc2 hl2).mono ?_
        rintro e w9 ⟨m_, ⟨hm, rfl⟩, rfl⟩
        obtain rfl : m_ = xs.length := by rw [hm]; exact Hm.out.symm
        clear hm
        go_wp2_with (fail)
        refine (d19_right _ _ _ _ _ _ _ _ _ (Hx.out.below hB1) hx1 (Hr.out.below hB1) Hc.out Hg.out hn).mono ?_
        rintro e w2 ⟨A3, c3, rfl, -, hr3, hb2⟩
        have hB2 := hB1.trans (hb2.mono hB1.size)
        have HR2 := Lib.hid hr3
        clear hb2 hr3
        go_wp2_with (fail)
        refine (k15 _ _ _ _ _ _ (Hr.out.below hB2) hrl hn).mono ?_
        rintro e w3 ⟨rfl, hd3⟩
        have hb3 := dr_below hd3
        have hB3 := hB2.trans (hb3.mono hB2.size)
        have HR3 := Lib.hid (HR2.out.below hb3)
        clear hb3 hd3
        rw [Hg.out]
        go_wp2_with (fail)
        refine (k14 _ _ _ _ (Hx.out.below hB3) hxl (by omega) Hc.out).mono ?_
        rintro e w4 ⟨rfl, hb4⟩
        have hB4 := hB3.trans (hb4.mono hB3.size)
        have HR4 := Lib.hid (HR3.out.below hb4)
        clear hb4
        go_wp2_with (fail)
        refine (k21 _ _ _ _ _ _ _ _ _ (Hx.out.below hB4) hx1 (Hr.out.below hB4) Hc.out Hg.out hn).mono ?_
        rintro e w8 ⟨A8, c8, rfl, hr8, hb8⟩
        have hB8 := hB4.trans (hb8.mono hB4.size)
        have HR38 := Lib.hid (HR4.out.below hb8)
        have HR8 := Lib.hid hr8
        clear hb8 hr8
        go_wp2_with (fail)
        have hs := same16 _ _ _ _ c3 c8 w8 HR38.out HR8.out (by rw [List.length_map]; omega) (by rw [List.length_map]; omega) rfl
        rw [List.length_map] at hs
        try rw [List.length_map]
        refine hs.mono ?_
        clear hs
        rintro e w10 ⟨rfl, hb10⟩
        have hB10 := hB8.trans (hb10.mono hB8.size)
        clear hb10
        go_wp2
        go_ret
        exact ⟨rfl, hB10⟩

end Go.Proofs.Ytgpcoljgpgamdaa
