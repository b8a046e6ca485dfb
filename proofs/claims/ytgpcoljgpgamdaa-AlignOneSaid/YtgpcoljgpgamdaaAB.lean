/- The walk of the law AlignOne by the contracts: it returns true, whatever the input. -/
import Derived.Test.YtgpcoljgpgamdaaAA
namespace Go.Proofs.Ytgpcoljgpgamdaa
open Go.RowKit Go.Shelf
set_option linter.unusedVariables false

theorem m12w {A : Option Addr} {xs : List Cell} {rows : List Int} {c : Nat} (R : Int) (w : World) (hx : Cells w A xs) (hl : xs.length ≤ 1000) (hn : R = rows.length) (hb : rightC rows.length xs = false) :
    Calls Try.prog 12 #[.int .i64 R, .slice A xs.length c] w fun e w' => e = .returned (.tuple #[.slice none 0 0, .int .i64 170]) ∧ Below w.heap.size w w' := by
  subst hn; exact lines12_wrong A xs c _ w hx (by omega) hb
theorem m12r {A : Option Addr} {xs : List Cell} {rows : List Int} {c : Nat} (R : Int) (n : Nat) (w : World) (hx : Cells w A xs) (hl : xs.length ≤ 1000) (hn : rows.length = n) (hR : R = rows.length) (hb : rightC rows.length xs = true) :
    Calls Try.prog 12 #[.int .i64 R, .slice A xs.length c] w fun e w' => ∃ g, e = .returned (.tuple #[.slice (some ⟨g, 0, none⟩) n n, .int .i64 0]) ∧ RowB w' g (linesC rows.length xs) ∧ Below w.heap.size w w' := by
  subst hn; subst hR
  exact (lines12_right A xs c _ w hx (by omega) hb).mono fun e w' ⟨g, h1, h2, _, h3⟩ => ⟨g, h1, h2, h3⟩

set_option maxRecDepth 100000 in
set_option maxHeartbeats 16000000 in
theorem one_walk (Ar A : Option Addr) (rows0 : List Int) (cr : Nat) (xs0 : List Cell) (c : Nat) (gap : Int) (w : World) (hr0 : Ints w Ar rows0) (hcr : rows0.length ≤ cr) (hlr : rows0.length ≤ 17592186044416) (hx0 : Cells w A xs0) (hc2 : xs0.length ≤ c) (hl2 : xs0.length ≤ 17592186044416) :
    Calls Try.prog 5 #[.slice Ar rows0.length cr, .int .i64 gap, .slice A xs0.length c] w fun e w' => e = .returned (.bool true) ∧ Below w.heap.size w w' := by
  obtain ⟨xs, hxs⟩ : ∃ xs, xs0.take 100 = xs := ⟨_, rfl⟩
  have hx := hx0.take 100
  have hm : xs.length = min xs0.length 100 := by rw [← hxs, List.length_take]; omega
  rw [hxs] at hx
  have Hx := Lib.hid hx
  have Hm := Lib.hid hm
  have hxl : xs.length ≤ 17592186044416 := by omega
  have hx1 : xs.length ≤ 1000 := by omega
  have hB0 : Below w.heap.size w w := Below.refl _ _
  clear hx hx0 hm hxs
  obtain ⟨rows, hrs⟩ : ∃ rows, rows0.take 100 = rows := ⟨_, rfl⟩
  have hr := hr0.take 100
  have hmr : rows.length = min rows0.length 100 := by rw [← hrs, List.length_take]; omega
  rw [hrs] at hr
  have Hr := Lib.hid hr
  have hrl : rows.length ≤ 17592186044416 := by omega
  clear hr hr0 hrs
  by_cases h100 : rows0.length ≤ 100
  · have hn : rows.length = rows0.length := by omega
    clear hmr
    cases hg : right rows gap with
    | false =>
      have Hw : Hid (rightC rows.length xs = false ∨ right rows gap = false) := Lib.hid (.inr hg)
      clear hg
      cases hcc : rightC rows.length xs with
      | false =>
        have Hc := Lib.hid hcc
        clear hcc
        go_enter Try.func5, Try.ntmps5
        go_wp2_with (fail)
        refine (shown10 _).mono ?_
        rintro e w1 ⟨rfl, hb1⟩
        have hB1 := hB0.trans (hb1.mono hB0.size)
        clear hb1
        go_wp2_with (fail)
        refine (cut11 _ _ _ _ hc2 hl2).mono ?_
        rintro e w9 ⟨m_, ⟨hm, rfl⟩, rfl⟩
        obtain rfl : m_ = xs.length := by rw [hm]; exact Hm.out.symm
        clear hm
        go_wp2_with (fail)
        refine (d19_wrong _ _ _ _ _ _ _ _ _ (Hx.out.below hB1) hx1 (Hr.out.below hB1) hrl Hw.out hn).mono ?_
        rintro e w2 ⟨rfl, hb2⟩
        have hB2 := hB1.trans (hb2.mono hB1.size)
        clear hb2
        go_wp2_with (fail)
        refine (m12w _ _ (Hx.out.below hB2) hx1 (by omega) Hc.out).mono ?_
        rintro e w4 ⟨rfl, hb4⟩
        have hB4 := hB2.trans (hb4.mono hB2.size)
        clear hb4
        go_wp2
        go_ret
        exact ⟨rfl, hB4⟩
      | true =>
        have Hc := Lib.hid hcc
        clear hcc
        go_enter Try.func5, Try.ntmps5
        go_wp2_with (fail)
        refine (shown10 _).mono ?_
        rintro e w1 ⟨rfl, hb1⟩
        have hB1 := hB0.trans (hb1.mono hB0.size)
        clear hb1
        go_wp2_with (fail)
        refine (cut11 _ _ _ _ hc2 hl2).mono ?_
        rintro e w9 ⟨m_, ⟨hm, rfl⟩, rfl⟩
        obtain rfl : m_ = xs.length := by rw [hm]; exact Hm.out.symm
        clear hm
        go_wp2_with (fail)
        refine (d19_wrong _ _ _ _ _ _ _ _ _ (Hx.out.below hB1) hx1 (Hr.out.below hB1) hrl Hw.out hn).mono ?_
        rintro e w2 ⟨rfl, hb2⟩
        have hB2 := hB1.trans (hb2.mono hB1.size)
        clear hb2
        go_wp2_with (fail)
        refine (m12r _ rows0.length _ (Hx.out.below hB2) hx1 hn (by omega) Hc.out).mono ?_
        rintro e w4 ⟨g4, rfl, hr4, hb4⟩
        have hB4 := hB2.trans (hb4.mono hB2.size)
        have HN := Lib.hid hr4
        clear hb4 hr4
        go_wp2
        go_ret
        exact ⟨rfl, hB4⟩
    | true =>
      have Hg := Lib.hid hg
      clear hg
      cases hcc : rightC rows.length xs with
      | false =>
        have Hc := Lib.hid hcc
        have Hw : Hid (rightC rows.length xs = false ∨ right rows gap = false) := Lib.hid (.inl hcc)
        clear hcc
        go_enter Try.func5, Try.ntmps5
        go_wp2_with (fail)
        refine (shown10 _).mono ?_
        rintro e w1 ⟨rfl, hb1⟩
        have hB1 := hB0.trans (hb1.mono hB0.size)
        clear hb1
        go_wp2_with (fail)
        refine (cut11 _ _ _ _ hc2 hl2).mono ?_
        rintro e w9 ⟨m_, ⟨hm, rfl⟩, rfl⟩
        obtain rfl : m_ = xs.length := by rw [hm]; exact Hm.out.symm
        clear hm
        go_wp2_with (fail)
        refine (d19_wrong _ _ _ _ _ _ _ _ _ (Hx.out.below hB1) hx1 (Hr.out.below hB1) hrl Hw.out hn).mono ?_
        rintro e w2 ⟨rfl, hb2⟩
        have hB2 := hB1.trans (hb2.mono hB1.size)
        clear hb2
        go_wp2_with (fail)
        refine (m12w _ _ (Hx.out.below hB2) hx1 (by omega) Hc.out).mono ?_
        rintro e w4 ⟨rfl, hb4⟩
        have hB4 := hB2.trans (hb4.mono hB2.size)
        clear hb4
        go_wp2
        go_ret
        exact ⟨rfl, hB4⟩
      | true =>
        have Hc := Lib.hid hcc
        unfold rightC at hcc
        rw [Bool.and_eq_true, Bool.not_eq_true'] at hcc
        have Hok := Lib.hid (bads_all hcc.2)
        have Hlb : Hid (∀ i : Nat, 0 ≤ (linesC rows.length xs)[i]?.getD 0 ∧ (linesC rows.length xs)[i]?.getD 0 ≤ 1125899906842623) := Lib.hid (lines_bound rows.length (xs := xs) (K := 1125899906842623) (by omega) (fun q => (inR_iff.1 (okCell_base (bads_all hcc.2 q.1 q.2.1))).2) (basedTo xs xs.length))
        clear hcc
        go_enter Try.func5, Try.ntmps5
        go_wp2_with (fail)
        refine (shown10 _).mono ?_
        rintro e w1 ⟨rfl, hb1⟩
        have hB1 := hB0.trans (hb1.mono hB0.size)
        clear hb1
        go_wp2_with (fail)
        refine (cut11 _ _ _ _ hc2 hl2).mono ?_
        rintro e w9 ⟨m_, ⟨hm, rfl⟩, rfl⟩
        obtain rfl : m_ = xs.length := by rw [hm]; exact Hm.out.symm
        clear hm
        go_wp2_with (fail)
        refine (d19_right _ _ _ _ _ _ _ _ _ (Hx.out.below hB1) hx1 (Hr.out.below hB1) Hc.out Hg.out hn).mono ?_
        rintro e w2 ⟨A3, c3, rfl, -, hr3, hb2⟩
        have hB2 := hB1.trans (hb2.mono hB1.size)
        have HR2 := Lib.hid hr3
        clear hb2 hr3
        go_wp2_with (fail)
        refine (m12r _ rows0.length _ (Hx.out.below hB2) hx1 hn (by omega) Hc.out).mono ?_
        rintro e w4 ⟨g4, rfl, hr4, hb4⟩
        have hB4 := hB2.trans (hb4.mono hB2.size)
        have HR4 := Lib.hid (HR2.out.below hb4)
        have HN := Lib.hid hr4
        clear hb4 hr4
        have t0c : (rows0.length != rows0.length) = false := by simp
        have t0 : (xs.length == xs.length) = true := by rw [beq_iff_eq]
        have t0b : (xs.length != xs.length) = false := by simp
        go_wp2_with (fail)
        go_loopw [12] (fun i wr => ∃ k : Nat, k ≤ xs.length ∧ i = .int .i64 k ∧ Ext w4 wr) (fun i _ => xs.length - (intOf i).toNat)
        case atStart => exact ⟨0, Nat.zero_le _, rfl, Below.refl _ _⟩
        case round =>
          obtain ⟨k, hk, rfl, hE⟩ := hrel
          have HE := Lib.hid hE
          have HB : Hid (Below w.heap.size w wr) := Lib.hid (hB4.trans (hE.mono hB4.size))
          clear hE
          by_cases hlt : k < xs.length
          · obtain ⟨x, b, off, hxk, rfl, hc⟩ := (Hx.out.below HB.out).get k hlt
            obtain ⟨dk, b', off', hdk, rfl, hd⟩ := (HR4.out.below HE.out).get k (by rw [List.length_map]; exact hlt)
            have hok := Hok.out k hlt
            rw [hxk.out] at hok
            have hdk2 := hdk.out
            rw [List.getElem?_map, show xs[k]? = some x from by have := hxk.out; rw [List.getElem?_eq_getElem hlt] at this ⊢; exact congrArg some this] at hdk2
            change downOf (linesC rows.length xs) rows gap x = dk at hdk2
            have hok0 := hok
            unfold okCell at hok
            rw [Bool.and_eq_true] at hok
            have hw := of_decide_eq_true hok.1
            obtain ⟨node, row, col, rws, cols, mn, mx, high, base, hbb, al⟩ := x
            dsimp only at hw
            obtain ⟨row, rfl⟩ := Int.eq_ofNat_of_zero_le hw.1
            obtain ⟨rws, rfl⟩ := Int.eq_ofNat_of_zero_le (show 0 ≤ rws by omega)
            have hs : row + rws ≤ rows.length := by omega
            have hspb := sp_bounds Hg.out hs
            have hlb := Hlb.out row
            have hhigh := inR_iff.1 (okCell_high hok0)
            have hbase := inR_iff.1 (okCell_base hok0)
            dsimp only at hhigh hbase
            obtain ⟨vl, hvl⟩ : ∃ vl, (linesC rows.length xs)[row]?.getD 0 = vl := ⟨_, rfl⟩
            have hrow : row < rows.length := by omega
            have hll := lines_len rows.length xs
            have zl : wr.cell? ⟨g4, row, none⟩ = some (.int .i64 vl) := by
              have := (HN.out.below HE.out HN.out.lt).cell row (by omega)
              rw [hvl] at this; exact this
            have hge : al = 0 → hbb = true → base ≤ vl := fun h1 h2 => by
              have := line_ge rows.length xs k hlt (by rw [hxk.out]; simp [isB, h1, h2]) (by rw [hxk.out]; simpa using hrow)
              rw [hxk.out] at this
              unfold lineAt at this
              dsimp only at this
              rw [Int.toNat_natCast, hvl] at this
              exact this
            rw [hvl] at hlb
            have hall : (al = 0 → hbb = true → dk + base = vl ∧ vl ≤ 1125899906842623) ∧ 0 ≤ dk := by
              rw [← hdk2]
              unfold downOf downF lineAt
              dsimp only
              rw [Int.toNat_natCast, Int.toNat_natCast, hvl]
              constructor
              · intro h1 h2
                rw [if_pos h1, if_pos h2]
                omega
              · split
                · rename_i h1
                  split
                  · rename_i h2
                    have := hge h1 h2; omega
                  · omega
                · split
                  · omega
                  · split <;> omega
            have HL : Hid (al = 0 → hbb = true → dk + base = vl ∧ (-9223372036854775808 ≤ dk + base ∧ dk + base ≤ 9223372036854775807)) := Lib.hid (fun h1 h2 => ⟨(hall.1 h1 h2).1, by have := hall.1 h1 h2; omega⟩)
            have td : decide (dk < 0) = false := decide_eq_false (by have := hall.2; omega)
            clear hall hge hspb hlb hhigh hbase hok0
            clear hdk hdk2 hxk hok hw
            have hLL : Hid ((linesC rows.length xs).length = rows.length) := Lib.hid hll
            clear hvl hll
            have z8b : wr.cell? ⟨b, off + k * 11 + 5 + 3, none⟩ = some (.int .i64 base) := hc.2.2.2.2.2.2.2.2.1
            have z9b : wr.cell? ⟨b, off + k * 11 + 5 + 4, none⟩ = some (.bool hbb) := hc.2.2.2.2.2.2.2.2.2.1
            have z1b : wr.cell? ⟨b, off + k * 11 + 1, none⟩ = some (.int .i64 row) := hc.2.1
            have z10 := hc.2.2.2.2.2.2.2.2.2.2
            dsimp only at z10
            have hrn : row < rows0.length := by omega
            clear hc
            by_cases a0 : al = 0
            · have t1 : (al == 0) = true := by simp [a0]
              cases hbb with
              | false =>
                clear HL a0
                go_wp2_with (fail)
                repeat (go_quiet (fail); try go_wp2)
                go_roundw
                case rel => exact ⟨k + 1, by omega, by go_num, HE.out.tr (dr_below (by repeat (first | exact Dr.refl _ | apply Dr.step | apply Dr.step1)))⟩
                case measure => simp [intOf]; omega
              | true =>
                obtain ⟨hv1, hv2⟩ := HL.out a0 rfl
                have t2 : (dk + base != vl) = false := by rw [bne_eq_false_iff_eq]; exact hv1
                have t3 := IntWalk.i64_in (dk + base) (by omega)
                clear HL a0 hv1 hv2
                go_wp2_with (fail)
                repeat (go_quiet (fail); try go_wp2)
                go_roundw
                case rel => exact ⟨k + 1, by omega, by go_num, HE.out.tr (dr_below (by repeat (first | exact Dr.refl _ | apply Dr.step | apply Dr.step1)))⟩
                case measure => simp [intOf]; omega
            · have t1 : (al == 0) = false := by simp [a0]
              clear HL a0
              go_wp2_with (fail)
              repeat (go_quiet (fail); try go_wp2)
              go_roundw
              case rel => exact ⟨k + 1, by omega, by go_num, HE.out.tr (dr_below (by repeat (first | exact Dr.refl _ | apply Dr.step | apply Dr.step1)))⟩
              case measure => simp [intOf]; omega
          · obtain rfl : k = xs.length := by omega
            clear hlt
            go_wp2
            go_ret
            exact ⟨rfl, HB.out⟩
  · have hn : rows.length = 100 := by omega
    clear hmr
    cases hg : right rows gap with
    | false =>
      have Hw : Hid (rightC rows.length xs = false ∨ right rows gap = false) := Lib.hid (.inr hg)
      clear hg
      cases hcc : rightC rows.length xs with
      | false =>
        have Hc := Lib.hid hcc
        clear hcc
        go_enter Try.func5, Try.ntmps5
        go_wp2_with (fail)
        refine (shown10 _).mono ?_
        rintro e w1 ⟨rfl, hb1⟩
        have hB1 := hB0.trans (hb1.mono hB0.size)
        clear hb1
        go_wp2_with (fail)
        refine (cut11 _ _ _ _ hc2 hl2).mono ?_
        rintro e w9 ⟨m_, ⟨hm, rfl⟩, rfl⟩
        obtain rfl : m_ = xs.length := by rw [hm]; exact Hm.out.symm
        clear hm
        go_wp2_with (fail)
        refine (d19_wrong _ _ _ _ _ _ _ _ _ (Hx.out.below hB1) hx1 (Hr.out.below hB1) hrl Hw.out hn).mono ?_
        rintro e w2 ⟨rfl, hb2⟩
        have hB2 := hB1.trans (hb2.mono hB1.size)
        clear hb2
        go_wp2_with (fail)
        refine (m12w _ _ (Hx.out.below hB2) hx1 (by omega) Hc.out).mono ?_
        rintro e w4 ⟨rfl, hb4⟩
        have hB4 := hB2.trans (hb4.mono hB2.size)
        clear hb4
        go_wp2
        go_ret
        exact ⟨rfl, hB4⟩
      | true =>
        have Hc := Lib.hid hcc
        clear hcc
        go_enter Try.func5, Try.ntmps5
        go_wp2_with (fail)
        refine (shown10 _).mono ?_
        rintro e w1 ⟨rfl, hb1⟩
        have hB1 := hB0.trans (hb1.mono hB0.size)
        clear hb1
        go_wp2_with (fail)
        refine (cut11 _ _ _ _ hc2 hl2).mono ?_
        rintro e w9 ⟨m_, ⟨hm, rfl⟩, rfl⟩
        obtain rfl : m_ = xs.length := by rw [hm]; exact Hm.out.symm
        clear hm
        go_wp2_with (fail)
        refine (d19_wrong _ _ _ _ _ _ _ _ _ (Hx.out.below hB1) hx1 (Hr.out.below hB1) hrl Hw.out hn).mono ?_
        rintro e w2 ⟨rfl, hb2⟩
        have hB2 := hB1.trans (hb2.mono hB1.size)
        clear hb2
        go_wp2_with (fail)
        refine (m12r _ 100 _ (Hx.out.below hB2) hx1 hn (by omega) Hc.out).mono ?_
        rintro e w4 ⟨g4, rfl, hr4, hb4⟩
        have hB4 := hB2.trans (hb4.mono hB2.size)
        have HN := Lib.hid hr4
        clear hb4 hr4
        go_wp2
        go_ret
        exact ⟨rfl, hB4⟩
    | true =>
      have Hg := Lib.hid hg
      clear hg
      cases hcc : rightC rows.length xs with
      | false =>
        have Hc := Lib.hid hcc
        have Hw : Hid (rightC rows.length xs = false ∨ right rows gap = false) := Lib.hid (.inl hcc)
        clear hcc
        go_enter Try.func5, Try.ntmps5
        go_wp2_with (fail)
        refine (shown10 _).mono ?_
        rintro e w1 ⟨rfl, hb1⟩
        have hB1 := hB0.trans (hb1.mono hB0.size)
        clear hb1
        go_wp2_with (fail)
        refine (cut11 _ _ _ _ hc2 hl2).mono ?_
        rintro e w9 ⟨m_, ⟨hm, rfl⟩, rfl⟩
        obtain rfl : m_ = xs.length := by rw [hm]; exact Hm.out.symm
        clear hm
        go_wp2_with (fail)
        refine (d19_wrong _ _ _ _ _ _ _ _ _ (Hx.out.below hB1) hx1 (Hr.out.below hB1) hrl Hw.out hn).mono ?_
        rintro e w2 ⟨rfl, hb2⟩
        have hB2 := hB1.trans (hb2.mono hB1.size)
        clear hb2
        go_wp2_with (fail)
        refine (m12w _ _ (Hx.out.below hB2) hx1 (by omega) Hc.out).mono ?_
        rintro e w4 ⟨rfl, hb4⟩
        have hB4 := hB2.trans (hb4.mono hB2.size)
        clear hb4
        go_wp2
        go_ret
        exact ⟨rfl, hB4⟩
      | true =>
        have Hc := Lib.hid hcc
        unfold rightC at hcc
        rw [Bool.and_eq_true, Bool.not_eq_true'] at hcc
        have Hok := Lib.hid (bads_all hcc.2)
        have Hlb : Hid (∀ i : Nat, 0 ≤ (linesC rows.length xs)[i]?.getD 0 ∧ (linesC rows.length xs)[i]?.getD 0 ≤ 1125899906842623) := Lib.hid (lines_bound rows.length (xs := xs) (K := 1125899906842623) (by omega) (fun q => (inR_iff.1 (okCell_base (bads_all hcc.2 q.1 q.2.1))).2) (basedTo xs xs.length))
        clear hcc
        go_enter Try.func5, Try.ntmps5
        go_wp2_with (fail)
        refine (shown10 _).mono ?_
        rintro e w1 ⟨rfl, hb1⟩
        have hB1 := hB0.trans (hb1.mono hB0.size)
        clear hb1
        go_wp2_with (fail)
        refine (cut11 _ _ _ _ hc2 hl2).mono ?_
        rintro e w9 ⟨m_, ⟨hm, rfl⟩, rfl⟩
        obtain rfl : m_ = xs.length := by rw [hm]; exact Hm.out.symm
        clear hm
        go_wp2_with (fail)
        refine (d19_right _ _ _ _ _ _ _ _ _ (Hx.out.below hB1) hx1 (Hr.out.below hB1) Hc.out Hg.out hn).mono ?_
        rintro e w2 ⟨A3, c3, rfl, -, hr3, hb2⟩
        have hB2 := hB1.trans (hb2.mono hB1.size)
        have HR2 := Lib.hid hr3
        clear hb2 hr3
        go_wp2_with (fail)
        refine (m12r _ 100 _ (Hx.out.below hB2) hx1 hn (by omega) Hc.out).mono ?_
        rintro e w4 ⟨g4, rfl, hr4, hb4⟩
        have hB4 := hB2.trans (hb4.mono hB2.size)
        have HR4 := Lib.hid (HR2.out.below hb4)
        have HN := Lib.hid hr4
        clear hb4 hr4
        have t0c : (100 != 100) = false := by simp
        have t0 : (xs.length == xs.length) = true := by rw [beq_iff_eq]
        have t0b : (xs.length != xs.length) = false := by simp
        go_wp2_with (fail)
        go_loopw [12] (fun i wr => ∃ k : Nat, k ≤ xs.length ∧ i = .int .i64 k ∧ Ext w4 wr) (fun i _ => xs.length - (intOf i).toNat)
        case atStart => exact ⟨0, Nat.zero_le _, rfl, Below.refl _ _⟩
        case round =>
          obtain ⟨k, hk, rfl, hE⟩ := hrel
          have HE := Lib.hid hE
          have HB : Hid (Below w.heap.size w wr) := Lib.hid (hB4.trans (hE.mono hB4.size))
          clear hE
          by_cases hlt : k < xs.length
          · obtain ⟨x, b, off, hxk, rfl, hc⟩ := (Hx.out.below HB.out).get k hlt
            obtain ⟨dk, b', off', hdk, rfl, hd⟩ := (HR4.out.below HE.out).get k (by rw [List.length_map]; exact hlt)
            have hok := Hok.out k hlt
            rw [hxk.out] at hok
            have hdk2 := hdk.out
            rw [List.getElem?_map, show xs[k]? = some x from by have := hxk.out; rw [List.getElem?_eq_getElem hlt] at this ⊢; exact congrArg some this] at hdk2
            change downOf (linesC rows.length xs) rows gap x = dk at hdk2
            have hok0 := hok
            unfold okCell at hok
            rw [Bool.and_eq_true] at hok
            have hw := of_decide_eq_true hok.1
            obtain ⟨node, row, col, rws, cols, mn, mx, high, base, hbb, al⟩ := x
            dsimp only at hw
            obtain ⟨row, rfl⟩ := Int.eq_ofNat_of_zero_le hw.1
            obtain ⟨rws, rfl⟩ := Int.eq_ofNat_of_zero_le (show 0 ≤ rws by omega)
            have hs : row + rws ≤ rows.length := by omega
            have hspb := sp_bounds Hg.out hs
            have hlb := Hlb.out row
            have hhigh := inR_iff.1 (okCell_high hok0)
            have hbase := inR_iff.1 (okCell_base hok0)
            dsimp only at hhigh hbase
            obtain ⟨vl, hvl⟩ : ∃ vl, (linesC rows.length xs)[row]?.getD 0 = vl := ⟨_, rfl⟩
            have hrow : row < rows.length := by omega
            have hll := lines_len rows.length xs
            have zl : wr.cell? ⟨g4, row, none⟩ = some (.int .i64 vl) := by
              have := (HN.out.below HE.out HN.out.lt).cell row (by omega)
              rw [hvl] at this; exact this
            have hge : al = 0 → hbb = true → base ≤ vl := fun h1 h2 => by
              have := line_ge rows.length xs k hlt (by rw [hxk.out]; simp [isB, h1, h2]) (by rw [hxk.out]; simpa using hrow)
              rw [hxk.out] at this
              unfold lineAt at this
              dsimp only at this
              rw [Int.toNat_natCast, hvl] at this
              exact this
            rw [hvl] at hlb
            have hall : (al = 0 → hbb = true → dk + base = vl ∧ vl ≤ 1125899906842623) ∧ 0 ≤ dk := by
              rw [← hdk2]
              unfold downOf downF lineAt
              dsimp only
              rw [Int.toNat_natCast, Int.toNat_natCast, hvl]
              constructor
              · intro h1 h2
                rw [if_pos h1, if_pos h2]
                omega
              · split
                · rename_i h1
                  split
                  · rename_i h2
                    have := hge h1 h2; omega
                  · omega
                · split
                  · omega
                  · split <;> omega
            have HL : Hid (al = 0 → hbb = true → dk + base = vl ∧ (-9223372036854775808 ≤ dk + base ∧ dk + base ≤ 9223372036854775807)) := Lib.hid (fun h1 h2 => ⟨(hall.1 h1 h2).1, by have := hall.1 h1 h2; omega⟩)
            have td : decide (dk < 0) = false := decide_eq_false (by have := hall.2; omega)
            clear hall hge hspb hlb hhigh hbase hok0
            clear hdk hdk2 hxk hok hw
            have hLL : Hid ((linesC rows.length xs).length = rows.length) := Lib.hid hll
            clear hvl hll
            have z8b : wr.cell? ⟨b, off + k * 11 + 5 + 3, none⟩ = some (.int .i64 base) := hc.2.2.2.2.2.2.2.2.1
            have z9b : wr.cell? ⟨b, off + k * 11 + 5 + 4, none⟩ = some (.bool hbb) := hc.2.2.2.2.2.2.2.2.2.1
            have z1b : wr.cell? ⟨b, off + k * 11 + 1, none⟩ = some (.int .i64 row) := hc.2.1
            have z10 := hc.2.2.2.2.2.2.2.2.2.2
            dsimp only at z10
            have hrn : row < 100 := by omega
            clear hc
            by_cases a0 : al = 0
            · have t1 : (al == 0) = true := by simp [a0]
              cases hbb with
              | false =>
                clear HL a0
                go_wp2_with (fail)
                repeat (go_quiet (fail); try go_wp2)
                go_roundw
                case rel => exact ⟨k + 1, by omega, by go_num, HE.out.tr (dr_below (by repeat (first | exact Dr.refl _ | apply Dr.step | apply Dr.step1)))⟩
                case measure => simp [intOf]; omega
              | true =>
                obtain ⟨hv1, hv2⟩ := HL.out a0 rfl
                have t2 : (dk + base != vl) = false := by rw [bne_eq_false_iff_eq]; exact hv1
                have t3 := IntWalk.i64_in (dk + base) (by omega)
                clear HL a0 hv1 hv2
                go_wp2_with (fail)
                repeat (go_quiet (fail); try go_wp2)
                go_roundw
                case rel => exact ⟨k + 1, by omega, by go_num, HE.out.tr (dr_below (by repeat (first | exact Dr.refl _ | apply Dr.step | apply Dr.step1)))⟩
                case measure => simp [intOf]; omega
            · have t1 : (al == 0) = false := by simp [a0]
              clear HL a0
              go_wp2_with (fail)
              repeat (go_quiet (fail); try go_wp2)
              go_roundw
              case rel => exact ⟨k + 1, by omega, by go_num, HE.out.tr (dr_below (by repeat (first | exact Dr.refl _ | apply Dr.step | apply Dr.step1)))⟩
              case measure => simp [intOf]; omega
          · obtain rfl : k = xs.length := by omega
            clear hlt
            go_wp2
            go_ret
            exact ⟨rfl, HB.out⟩

end Go.Proofs.Ytgpcoljgpgamdaa
