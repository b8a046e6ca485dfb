/- The walk of the law AlignWithin by the contracts: it returns true, whatever the input. -/
import Derived.Test.YtgpcoljgpgamdaaX
namespace Go.Proofs.Ytgpcoljgpgamdaa
open Go.RowKit Go.Shelf
set_option linter.unusedVariables false

theorem m13w {A : Option Addr} {xs : List Cell} {rows : List Int} {c : Nat} (R : Int) (w : World) (hx : Cells w A xs) (hl : xs.length ≤ 1000) (hn : R = rows.length) (hb : rightC rows.length xs = false) :
    Calls Try.prog 13 #[.int .i64 R, .slice A xs.length c] w fun e w' => e = .returned (.tuple #[.slice none 0 0, .int .i64 170]) ∧ Below w.heap.size w w' := by
  subst hn; exact needs13_wrong A xs c _ w hx (by omega) hb
theorem m13r {A : Option Addr} {xs : List Cell} {rows : List Int} {c : Nat} (R : Int) (w : World) (hx : Cells w A xs) (hl : xs.length ≤ 1000) (hn : R = rows.length) (hb : rightC rows.length xs = true) :
    Calls Try.prog 13 #[.int .i64 R, .slice A xs.length c] w (NeedsSaid rows.length xs w) := by
  subst hn; exact needs13_right A xs c _ w hx hl hb

set_option maxRecDepth 100000 in
set_option maxHeartbeats 16000000 in
theorem within_walk (Ar A : Option Addr) (rows0 : List Int) (cr : Nat) (xs0 : List Cell) (c : Nat) (gap : Int) (w : World) (hr0 : Ints w Ar rows0) (hcr : rows0.length ≤ cr) (hlr : rows0.length ≤ 17592186044416) (hx0 : Cells w A xs0) (hc2 : xs0.length ≤ c) (hl2 : xs0.length ≤ 17592186044416) :
    Calls Try.prog 6 #[.slice Ar rows0.length cr, .int .i64 gap, .slice A xs0.length c] w fun e w' => e = .returned (.bool true) ∧ Below w.heap.size w w' := by
  obtain ⟨xs, hxs⟩ : ∃ xs, xs0.take 100 = xs := ⟨_, rfl⟩
  have hx := hx0.take 100
  have hm : xs.length = min xs0.length 100 := by rw [← hxs, List.length_take]; omega
  rw [hxs] at hx
  have Hx := Lib.hid hx
  have Hm := Lib.hid hm
  have hxl : xs.length ≤ 17592186044416 := by omega
  have hx1 : xs.length ≤ 1000 := by omega
  have hB0 : Below w.heap.size w w := Below.refl _ _
  clear hx hx0 hm hxs
  obtain ⟨rows, hrs⟩ : ∃ rows, rows0.take 100 = rows := ⟨_, rfl⟩
  have hr := hr0.take 100
  have hmr : rows.length = min rows0.length 100 := by rw [← hrs, List.length_take]; omega
  rw [hrs] at hr
  have Hr := Lib.hid hr
  have hrl : rows.length ≤ 17592186044416 := by omega
  clear hr hr0 hrs
  by_cases h100 : rows0.length ≤ 100
  · have hn : rows.length = rows0.length := by omega
    clear hmr
    cases hg : right rows gap with
    | false =>
      have Hw : Hid (rightC rows.length xs = false ∨ right rows gap = false) := Lib.hid (.inr hg)
      clear hg
      cases hcc : rightC rows.length xs with
      | false =>
        have Hc := Lib.hid hcc
        clear hcc
        go_enter Try.func6, Try.ntmps6
        go_wp2_with (fail)
        refine (shown10 _).mono ?_
        rintro e w1 ⟨rfl, hb1⟩
        have hB1 := hB0.trans (hb1.mono hB0.size)
        clear hb1
        go_wp2_with (fail)
        refine (cut11 _ _ _ _ hc2 hl2).mono ?_
        rintro e w9 ⟨m_, ⟨hm, rfl⟩, rfl⟩
        obtain rfl : m_ = xs.length := by rw [hm]; exact Hm.out.symm
        clear hm
        go_wp2_with (fail)
        refine (d19_wrong _ _ _ _ _ _ _ _ _ (Hx.out.below hB1) hx1 (Hr.out.below hB1) hrl Hw.out hn).mono ?_
        rintro e w2 ⟨rfl, hb2⟩
        have hB2 := hB1.trans (hb2.mono hB1.size)
        clear hb2
        go_wp2_with (fail)
        refine (m13w _ _ (Hx.out.below hB2) hx1 (by omega) Hc.out).mono ?_
        rintro e w4 ⟨rfl, hb4⟩
        have hB4 := hB2.trans (hb4.mono hB2.size)
        clear hb4
        go_wp2
        go_ret
        exact ⟨rfl, hB4⟩
      | true =>
        have Hc := Lib.hid hcc
        clear hcc
        go_enter Try.func6, Try.ntmps6
        go_wp2_with (fail)
        refine (shown10 _).mono ?_
        rintro e w1 ⟨rfl, hb1⟩
        have hB1 := hB0.trans (hb1.mono hB0.size)
        clear hb1
        go_wp2_with (fail)
        refine (cut11 _ _ _ _ hc2 hl2).mono ?_
        rintro e w9 ⟨m_, ⟨hm, rfl⟩, rfl⟩
        obtain rfl : m_ = xs.length := by rw [hm]; exact Hm.out.symm
        clear hm
        go_wp2_with (fail)
        refine (d19_wrong _ _ _ _ _ _ _ _ _ (Hx.out.below hB1) hx1 (Hr.out.below hB1) hrl Hw.out hn).mono ?_
        rintro e w2 ⟨rfl, hb2⟩
        have hB2 := hB1.trans (hb2.mono hB1.size)
        clear hb2
        go_wp2_with (fail)
        refine (m13r _ _ (Hx.out.below hB2) hx1 (by omega) Hc.out).mono ?_
        rintro e w4 ⟨A4, c4, rfl, -, hr4, -, hb4⟩
        have hB4 := hB2.trans (hb4.mono hB2.size)
        have HN := Lib.hid hr4
        clear hb4 hr4
        go_wp2
        go_ret
        exact ⟨rfl, hB4⟩
    | true =>
      have Hg := Lib.hid hg
      clear hg
      cases hcc : rightC rows.length xs with
      | false =>
        have Hc := Lib.hid hcc
        have Hw : Hid (rightC rows.length xs = false ∨ right rows gap = false) := Lib.hid (.inl hcc)
        clear hcc
        go_enter Try.func6, Try.ntmps6
        go_wp2_with (fail)
        refine (shown10 _).mono ?_
        rintro e w1 ⟨rfl, hb1⟩
        have hB1 := hB0.trans (hb1.mono hB0.size)
        clear hb1
        go_wp2_with (fail)
        refine (cut11 _ _ _ _ hc2 hl2).mono ?_
        rintro e w9 ⟨m_, ⟨hm, rfl⟩, rfl⟩
        obtain rfl : m_ = xs.length := by rw [hm]; exact Hm.out.symm
        clear hm
        go_wp2_with (fail)
        refine (d19_wrong _ _ _ _ _ _ _ _ _ (Hx.out.below hB1) hx1 (Hr.out.below hB1) hrl Hw.out hn).mono ?_
        rintro e w2 ⟨rfl, hb2⟩
        have hB2 := hB1.trans (hb2.mono hB1.size)
        clear hb2
        go_wp2_with (fail)
        refine (m13w _ _ (Hx.out.below hB2) hx1 (by omega) Hc.out).mono ?_
        rintro e w4 ⟨rfl, hb4⟩
        have hB4 := hB2.trans (hb4.mono hB2.size)
        clear hb4
        go_wp2
        go_ret
        exact ⟨rfl, hB4⟩
      | true =>
        have Hc := Lib.hid hcc
        unfold rightC at hcc
        rw [Bool.and_eq_true, Bool.not_eq_true'] at hcc
        have Hok := Lib.hid (bads_all hcc.2)
        have Hlb : Hid (∀ i : Nat, 0 ≤ (linesC rows.length xs)[i]?.getD 0 ∧ (linesC rows.length xs)[i]?.getD 0 ≤ 1125899906842623) := Lib.hid (lines_bound rows.length (xs := xs) (K := 1125899906842623) (by omega) (fun q => (inR_iff.1 (okCell_base (bads_all hcc.2 q.1 q.2.1))).2) (basedTo xs xs.length))
        clear hcc
        go_enter Try.func6, Try.ntmps6
        go_wp2_with (fail)
        refine (shown10 _).mono ?_
        rintro e w1 ⟨rfl, hb1⟩
        have hB1 := hB0.trans (hb1.mono hB0.size)
        clear hb1
        go_wp2_with (fail)
        refine (cut11 _ _ _ _ hc2 hl2).mono ?_
        rintro e w9 ⟨m_, ⟨hm, rfl⟩, rfl⟩
        obtain rfl : m_ = xs.length := by rw [hm]; exact Hm.out.symm
        clear hm
        go_wp2_with (fail)
        refine (d19_right _ _ _ _ _ _ _ _ _ (Hx.out.below hB1) hx1 (Hr.out.below hB1) Hc.out Hg.out hn).mono ?_
        rintro e w2 ⟨A3, c3, rfl, -, hr3, hb2⟩
        have hB2 := hB1.trans (hb2.mono hB1.size)
        have HR2 := Lib.hid hr3
        clear hb2 hr3
        go_wp2_with (fail)
        refine (m13r _ _ (Hx.out.below hB2) hx1 (by omega) Hc.out).mono ?_
        rintro e w4 ⟨A4, c4, rfl, -, hr4, -, hb4⟩
        have hB4 := hB2.trans (hb4.mono hB2.size)
        have HR4 := Lib.hid (HR2.out.below hb4)
        have HN := Lib.hid hr4
        clear hb4 hr4
        have t0 : (xs.length == xs.length) = true := by rw [beq_iff_eq]
        have t0b : (xs.length != xs.length) = false := by simp
        go_wp2_with (fail)
        go_loopw [12, 13] (fun i h wr => ∃ k : Nat, k ≤ xs.length ∧ i = .int .i64 k ∧ Ext w4 wr) (fun i _ _ => xs.length - (intOf i).toNat)
        case atStart => exact ⟨0, Nat.zero_le _, rfl, Below.refl _ _⟩
        case round =>
          obtain ⟨k, hk, rfl, hE⟩ := hrel
          have HE := Lib.hid hE
          have HB : Hid (Below w.heap.size w wr) := Lib.hid (hB4.trans (hE.mono hB4.size))
          clear hE
          by_cases hlt : k < xs.length
          · obtain ⟨x, b, off, hxk, rfl, hc⟩ := (Hx.out.below HB.out).get k hlt
            obtain ⟨dk, b', off', hdk, rfl, hd⟩ := (HR4.out.below HE.out).get k (by rw [List.length_map]; exact hlt)
            obtain ⟨nk, b'', off'', hnk, rfl, hn4⟩ := (HN.out.below HE.out).get k (by rw [List.length_map]; exact hlt)
            have hok := Hok.out k hlt
            rw [hxk.out] at hok
            have hdk2 := hdk.out
            rw [List.getElem?_map, show xs[k]? = some x from by have := hxk.out; rw [List.getElem?_eq_getElem hlt] at this ⊢; exact congrArg some this] at hdk2
            change downOf (linesC rows.length xs) rows gap x = dk at hdk2
            have hnk2 := hnk.out
            rw [List.getElem?_map, show xs[k]? = some x from by have := hxk.out; rw [List.getElem?_eq_getElem hlt] at this ⊢; exact congrArg some this] at hnk2
            change needOf (linesC rows.length xs) x = nk at hnk2
            have hok0 := hok
            unfold okCell at hok
            rw [Bool.and_eq_true] at hok
            have hw := of_decide_eq_true hok.1
            obtain ⟨node, row, col, rws, cols, mn, mx, high, base, hbb, al⟩ := x
            dsimp only at hw
            obtain ⟨row, rfl⟩ := Int.eq_ofNat_of_zero_le hw.1
            obtain ⟨rws, rfl⟩ := Int.eq_ofNat_of_zero_le (show 0 ≤ rws by omega)
            have hs : row + rws ≤ rows.length := by omega
            have hspb := sp_bounds Hg.out hs
            have hlb := Hlb.out row
            have hhigh := inR_iff.1 (okCell_high hok0)
            have hbase := inR_iff.1 (okCell_base hok0)
            dsimp only at hhigh hbase
            have hall : (nk ≤ sp gap rows row rws → dk + high ≤ sp gap rows row rws) ∧ -1125899906842623 ≤ dk ∧ dk ≤ 1125899906842623 := by
              rw [← hdk2, ← hnk2]
              unfold downOf downF needOf lineAt isB
              dsimp only
              rw [Int.toNat_natCast, Int.toNat_natCast]
              constructor
              · by_cases a0 : al = 0
                · rw [if_pos a0]
                  cases hbb with
                  | true =>
                    rw [if_pos rfl, if_pos (by simp [a0])]
                    intro h; omega
                  | false =>
                    rw [if_neg (by simp), if_neg (by simp)]
                    intro h; omega
                · rw [if_neg a0, if_neg (by simp [a0])]
                  intro h
                  split
                  · omega
                  · split <;> omega
              · split
                · split <;> omega
                · split
                  · omega
                  · split <;> omega
            have HDN := Lib.hid hall.1
            have hdb := hall.2
            have WN := Lib.hid (IntWalk.i64_in (dk + high) (by omega))
            clear hall hdb hspb hlb hhigh hbase hok0 hnk hnk2
            clear hdk hdk2 hxk hok hw
            have Hc2 := Lib.hid hc
            have Hd2 := Lib.hid hd
            have Hn2 := Lib.hid hn4
            have Z1 := Lib.hid hc.2.1
            have Z3 := Lib.hid hc.2.2.2.1
            dsimp only at Z1 Z3
            clear hc hd hn4
            go_wp2_with (fail)
            refine wp_region_ord 16 [(0, true), (1, true), (2, true), (3, true), (4, true), (5, true), (6, true), (7, true), (8, true), (9, true), (10, true), (11, true), (12, true), (13, true), (14, true), (15, true)] (by kernel_rfl) (by kernel_rfl) ?_
            intro Wc hWc
            iterate 7
              apply OrdAt.op (fun _ _ _ h => h) rfl rfl rfl
              · intro X hB
                go_simp
                try rfl
              · dsimp only [List.set_cons_zero, List.set_cons_succ]
            apply OrdAt.op (fun _ _ _ h => h) rfl rfl rfl
            · intro X hB
              have s := rd (hWc.tr hB) Z1.out
              go_simp
              try rfl
            · dsimp only [List.set_cons_zero, List.set_cons_succ]
            iterate 5
              apply OrdAt.op (fun _ _ _ h => h) rfl rfl rfl
              · intro X hB
                go_simp
                try rfl
              · dsimp only [List.set_cons_zero, List.set_cons_succ]
            apply OrdAt.op (fun _ _ _ h => h) rfl rfl rfl
            · intro X hB
              have s := rd (hWc.tr hB) Z3.out
              go_simp
              try rfl
            · dsimp only [List.set_cons_zero, List.set_cons_succ]
            apply OrdAt.call (fun _ _ _ h => h) rfl rfl rfl
            · intro X hB
              go_simp
              first | exact ⟨rfl, rfl⟩ | rfl
            · intro X hB
              refine (k22 _ _ _ _ _ _ X _ (Hr.out.below (HB.out.trans ((hWc.tr hB).mono HB.out.size))) Hg.out hs hn).mono ?_; rintro e W1 ⟨rfl, rfl⟩; exact ⟨rfl, Below.refl _ _⟩
            · dsimp only [List.set_cons_zero, List.set_cons_succ]
            apply OrdAt.op (fun _ _ _ h => h) rfl rfl rfl
            · intro X hB
              go_simp
              try rfl
            · dsimp only [List.set_cons_zero, List.set_cons_succ]
            refine OrdAt.done ?_
            intro W3 hW3
            have HX3 : Hid (Ext w4 W3) := Lib.hid (HE.out.tr (Ext.tr hWc hW3))
            have hX : Ext wr W3 := Ext.tr hWc hW3
            have z7 := rd hX Hc2.out.2.2.2.2.2.2.2.1
            have z7b : W3.cell? ⟨b, off + k * 11 + 5 + 2, none⟩ = some (.int .i64 high) := z7
            have zd := rd hX Hd2.out
            have zn := rd hX Hn2.out
            clear hX hWc hW3 Hc2 Hd2 Z1 Z3 z7 Hn2
            cases hp : decide (nk ≤ sp gap rows row rws) with
            | false =>
              clear HDN
              go_wp2_with (fail)
              repeat (go_quiet (fail); try go_wp2)
              go_roundw
              case rel => exact ⟨k + 1, by omega, by go_num, HX3.out.tr (dr_below (by repeat (first | exact Dr.refl _ | apply Dr.step | apply Dr.step1)))⟩
              case measure => simp [intOf]; omega
            | true =>
              have t4 : decide (sp gap rows row rws < dk + high) = false := decide_eq_false (by have := HDN.out (of_decide_eq_true hp); omega)
              have t5 := WN.out
              clear HDN
              go_wp2_with (fail)
              repeat (go_quiet (fail); try go_wp2)
              go_roundw
              case rel => exact ⟨k + 1, by omega, by go_num, HX3.out.tr (dr_below (by repeat (first | exact Dr.refl _ | apply Dr.step | apply Dr.step1)))⟩
              case measure => simp [intOf]; omega
          · obtain rfl : k = xs.length := by omega
            clear hlt
            go_wp2
            go_ret
            exact ⟨rfl, HB.out⟩
  · have hn : rows.length = 100 := by omega
    clear hmr
    cases hg : right rows gap with
    | false =>
      have Hw : Hid (rightC rows.length xs = false ∨ right rows gap = false) := Lib.hid (.inr hg)
      clear hg
      cases hcc : rightC rows.length xs with
      | false =>
        have Hc := Lib.hid hcc
        clear hcc
        go_enter Try.func6, Try.ntmps6
        go_wp2_with (fail)
        refine (shown10 _).mono ?_
        rintro e w1 ⟨rfl, hb1⟩
        have hB1 := hB0.trans (hb1.mono hB0.size)
        clear hb1
        go_wp2_with (fail)
        refine (cut11 _ _ _ _ hc2 hl2).mono ?_
        rintro e w9 ⟨m_, ⟨hm, rfl⟩, rfl⟩
        obtain rfl : m_ = xs.length := by rw [hm]; exact Hm.out.symm
        clear hm
        go_wp2_with (fail)
        refine (d19_wrong _ _ _ _ _ _ _ _ _ (Hx.out.below hB1) hx1 (Hr.out.below hB1) hrl Hw.out hn).mono ?_
        rintro e w2 ⟨rfl, hb2⟩
        have hB2 := hB1.trans (hb2.mono hB1.size)
        clear hb2
        go_wp2_with (fail)
        refine (m13w _ _ (Hx.out.below hB2) hx1 (by omega) Hc.out).mono ?_
        rintro e w4 ⟨rfl, hb4⟩
        have hB4 := hB2.trans (hb4.mono hB2.size)
        clear hb4
        go_wp2
        go_ret
        exact ⟨rfl, hB4⟩
      | true =>
        have Hc := Lib.hid hcc
        clear hcc
        go_enter Try.func6, Try.ntmps6
        go_wp2_with (fail)
        refine (shown10 _).mono ?_
        rintro e w1 ⟨rfl, hb1⟩
        have hB1 := hB0.trans (hb1.mono hB0.size)
        clear hb1
        go_wp2_with (fail)
        refine (cut11 _ _ _ _ hc2 hl2).mono ?_
        rintro e w9 ⟨m_, ⟨hm, rfl⟩, rfl⟩
        obtain rfl : m_ = xs.length := by rw [hm]; exact Hm.out.symm
        clear hm
        go_wp2_with (fail)
        refine (d19_wrong _ _ _ _ _ _ _ _ _ (Hx.out.below hB1) hx1 (Hr.out.below hB1) hrl Hw.out hn).mono ?_
        rintro e w2 ⟨rfl, hb2⟩
        have hB2 := hB1.trans (hb2.mono hB1.size)
        clear hb2
        go_wp2_with (fail)
        refine (m13r _ _ (Hx.out.below hB2) hx1 (by omega) Hc.out).mono ?_
        rintro e w4 ⟨A4, c4, rfl, -, hr4, -, hb4⟩
        have hB4 := hB2.trans (hb4.mono hB2.size)
        have HN := Lib.hid hr4
        clear hb4 hr4
        go_wp2
        go_ret
        exact ⟨rfl, hB4⟩
    | true =>
      have Hg := Lib.hid hg
      clear hg
      cases hcc : rightC rows.length xs with
      | false =>
        have Hc := Lib.hid hcc
        have Hw : Hid (rightC rows.length xs = false ∨ right rows gap = false) := Lib.hid (.inl hcc)
        clear hcc
        go_enter Try.func6, Try.ntmps6
        go_wp2_with (fail)
        refine (shown10 _).mono ?_
        rintro e w1 ⟨rfl, hb1⟩
        have hB1 := hB0.trans (hb1.mono hB0.size)
        clear hb1
        go_wp2_with (fail)
        refine (cut11 _ _ _ _ hc2 hl2).mono ?_
        rintro e w9 ⟨m_, ⟨hm, rfl⟩, rfl⟩
        obtain rfl : m_ = xs.length := by rw [hm]; exact Hm.out.symm
        clear hm
        go_wp2_with (fail)
        refine (d19_wrong _ _ _ _ _ _ _ _ _ (Hx.out.below hB1) hx1 (Hr.out.below hB1) hrl Hw.out hn).mono ?_
        rintro e w2 ⟨rfl, hb2⟩
        have hB2 := hB1.trans (hb2.mono hB1.size)
        clear hb2
        go_wp2_with (fail)
        refine (m13w _ _ (Hx.out.below hB2) hx1 (by omega) Hc.out).mono ?_
        rintro e w4 ⟨rfl, hb4⟩
        have hB4 := hB2.trans (hb4.mono hB2.size)
        clear hb4
        go_wp2
        go_ret
        exact ⟨rfl, hB4⟩
      | true =>
        have Hc := Lib.hid hcc
        unfold rightC at hcc
        rw [Bool.and_eq_true, Bool.not_eq_true'] at hcc
        have Hok := Lib.hid (bads_all hcc.2)
        have Hlb : Hid (∀ i : Nat, 0 ≤ (linesC rows.length xs)[i]?.getD 0 ∧ (linesC rows.length xs)[i]?.getD 0 ≤ 1125899906842623) := Lib.hid (lines_bound rows.length (xs := xs) (K := 1125899906842623) (by omega) (fun q => (inR_iff.1 (okCell_base (bads_all hcc.2 q.1 q.2.1))).2) (basedTo xs xs.length))
        clear hcc
        go_enter Try.func6, Try.ntmps6
        go_wp2_with (fail)
        refine (shown10 _).mono ?_
        rintro e w1 ⟨rfl, hb1⟩
        have hB1 := hB0.trans (hb1.mono hB0.size)
        clear hb1
        go_wp2_with (fail)
        refine (cut11 _ _ _ _ hc2 hl2).mono ?_
        rintro e w9 ⟨m_, ⟨hm, rfl⟩, rfl⟩
        obtain rfl : m_ = xs.length := by rw [hm]; exact Hm.out.symm
        clear hm
        go_wp2_with (fail)
        refine (d19_right _ _ _ _ _ _ _ _ _ (Hx.out.below hB1) hx1 (Hr.out.below hB1) Hc.out Hg.out hn).mono ?_
        rintro e w2 ⟨A3, c3, rfl, -, hr3, hb2⟩
        have hB2 := hB1.trans (hb2.mono hB1.size)
        have HR2 := Lib.hid hr3
        clear hb2 hr3
        go_wp2_with (fail)
        refine (m13r _ _ (Hx.out.below hB2) hx1 (by omega) Hc.out).mono ?_
        rintro e w4 ⟨A4, c4, rfl, -, hr4, -, hb4⟩
        have hB4 := hB2.trans (hb4.mono hB2.size)
        have HR4 := Lib.hid (HR2.out.below hb4)
        have HN := Lib.hid hr4
        clear hb4 hr4
        have t0 : (xs.length == xs.length) = true := by rw [beq_iff_eq]
        have t0b : (xs.length != xs.length) = false := by simp
        go_wp2_with (fail)
        go_loopw [12, 13] (fun i h wr => ∃ k : Nat, k ≤ xs.length ∧ i = .int .i64 k ∧ Ext w4 wr) (fun i _ _ => xs.length - (intOf i).toNat)
        case atStart => exact ⟨0, Nat.zero_le _, rfl, Below.refl _ _⟩
        case round =>
          obtain ⟨k, hk, rfl, hE⟩ := hrel
          have HE := Lib.hid hE
          have HB : Hid (Below w.heap.size w wr) := Lib.hid (hB4.trans (hE.mono hB4.size))
          clear hE
          by_cases hlt : k < xs.length
          · obtain ⟨x, b, off, hxk, rfl, hc⟩ := (Hx.out.below HB.out).get k hlt
            obtain ⟨dk, b', off', hdk, rfl, hd⟩ := (HR4.out.below HE.out).get k (by rw [List.length_map]; exact hlt)
            obtain ⟨nk, b'', off'', hnk, rfl, hn4⟩ := (HN.out.below HE.out).get k (by rw [List.length_map]; exact hlt)
            have hok := Hok.out k hlt
            rw [hxk.out] at hok
            have hdk2 := hdk.out
            rw [List.getElem?_map, show xs[k]? = some x from by have := hxk.out; rw [List.getElem?_eq_getElem hlt] at this ⊢; exact congrArg some this] at hdk2
            change downOf (linesC rows.length xs) rows gap x = dk at hdk2
            have hnk2 := hnk.out
            rw [List.getElem?_map, show xs[k]? = some x from by have := hxk.out; rw [List.getElem?_eq_getElem hlt] at this ⊢; exact congrArg some this] at hnk2
            change needOf (linesC rows.length xs) x = nk at hnk2
            have hok0 := hok
            unfold okCell at hok
            rw [Bool.and_eq_true] at hok
            have hw := of_decide_eq_true hok.1
            obtain ⟨node, row, col, rws, cols, mn, mx, high, base, hbb, al⟩ := x
            dsimp only at hw
            obtain ⟨row, rfl⟩ := Int.eq_ofNat_of_zero_le hw.1
            obtain ⟨rws, rfl⟩ := Int.eq_ofNat_of_zero_le (show 0 ≤ rws by omega)
            have hs : row + rws ≤ rows.length := by omega
            have hspb := sp_bounds Hg.out hs
            have hlb := Hlb.out row
            have hhigh := inR_iff.1 (okCell_high hok0)
            have hbase := inR_iff.1 (okCell_base hok0)
            dsimp only at hhigh hbase
            have hall : (nk ≤ sp gap rows row rws → dk + high ≤ sp gap rows row rws) ∧ -1125899906842623 ≤ dk ∧ dk ≤ 1125899906842623 := by
              rw [← hdk2, ← hnk2]
              unfold downOf downF needOf lineAt isB
              dsimp only
              rw [Int.toNat_natCast, Int.toNat_natCast]
              constructor
              · by_cases a0 : al = 0
                · rw [if_pos a0]
                  cases hbb with
                  | true =>
                    rw [if_pos rfl, if_pos (by simp [a0])]
                    intro h; omega
                  | false =>
                    rw [if_neg (by simp), if_neg (by simp)]
                    intro h; omega
                · rw [if_neg a0, if_neg (by simp [a0])]
                  intro h
                  split
                  · omega
                  · split <;> omega
              · split
                · split <;> omega
                · split
                  · omega
                  · split <;> omega
            have HDN := Lib.hid hall.1
            have hdb := hall.2
            have WN := Lib.hid (IntWalk.i64_in (dk + high) (by omega))
            clear hall hdb hspb hlb hhigh hbase hok0 hnk hnk2
            clear hdk hdk2 hxk hok hw
            have Hc2 := Lib.hid hc
            have Hd2 := Lib.hid hd
            have Hn2 := Lib.hid hn4
            have Z1 := Lib.hid hc.2.1
            have Z3 := Lib.hid hc.2.2.2.1
            dsimp only at Z1 Z3
            clear hc hd hn4
            go_wp2_with (fail)
            refine wp_region_ord 16 [(0, true), (1, true), (2, true), (3, true), (4, true), (5, true), (6, true), (7, true), (8, true), (9, true), (10, true), (11, true), (12, true), (13, true), (14, true), (15, true)] (by kernel_rfl) (by kernel_rfl) ?_
            intro Wc hWc
            iterate 7
              apply OrdAt.op (fun _ _ _ h => h) rfl rfl rfl
              · intro X hB
                go_simp
                try rfl
              · dsimp only [List.set_cons_zero, List.set_cons_succ]
            apply OrdAt.op (fun _ _ _ h => h) rfl rfl rfl
            · intro X hB
              have s := rd (hWc.tr hB) Z1.out
              go_simp
              try rfl
            · dsimp only [List.set_cons_zero, List.set_cons_succ]
            iterate 5
              apply OrdAt.op (fun _ _ _ h => h) rfl rfl rfl
              · intro X hB
                go_simp
                try rfl
              · dsimp only [List.set_cons_zero, List.set_cons_succ]
            apply OrdAt.op (fun _ _ _ h => h) rfl rfl rfl
            · intro X hB
              have s := rd (hWc.tr hB) Z3.out
              go_simp
              try rfl
            · dsimp only [List.set_cons_zero, List.set_cons_succ]
            apply OrdAt.call (fun _ _ _ h => h) rfl rfl rfl
            · intro X hB
              go_simp
              first | exact ⟨rfl, rfl⟩ | rfl
            · intro X hB
              refine (k22 _ _ _ _ _ _ X _ (Hr.out.below (HB.out.trans ((hWc.tr hB).mono HB.out.size))) Hg.out hs hn).mono ?_; rintro e W1 ⟨rfl, rfl⟩; exact ⟨rfl, Below.refl _ _⟩
            · dsimp only [List.set_cons_zero, List.set_cons_succ]
            apply OrdAt.op (fun _ _ _ h => h) rfl rfl rfl
            · intro X hB
              go_simp
              try rfl
            · dsimp only [List.set_cons_zero, List.set_cons_succ]
            refine OrdAt.done ?_
            intro W3 hW3
            have HX3 : Hid (Ext w4 W3) := Lib.hid (HE.out.tr (Ext.tr hWc hW3))
            have hX : Ext wr W3 := Ext.tr hWc hW3
            have z7 := rd hX Hc2.out.2.2.2.2.2.2.2.1
            have z7b : W3.cell? ⟨b, off + k * 11 + 5 + 2, none⟩ = some (.int .i64 high) := z7
            have zd := rd hX Hd2.out
            have zn := rd hX Hn2.out
            clear hX hWc hW3 Hc2 Hd2 Z1 Z3 z7 Hn2
            cases hp : decide (nk ≤ sp gap rows row rws) with
            | false =>
              clear HDN
              go_wp2_with (fail)
              repeat (go_quiet (fail); try go_wp2)
              go_roundw
              case rel => exact ⟨k + 1, by omega, by go_num, HX3.out.tr (dr_below (by repeat (first | exact Dr.refl _ | apply Dr.step | apply Dr.step1)))⟩
              case measure => simp [intOf]; omega
            | true =>
              have t4 : decide (sp gap rows row rws < dk + high) = false := decide_eq_false (by have := HDN.out (of_decide_eq_true hp); omega)
              have t5 := WN.out
              clear HDN
              go_wp2_with (fail)
              repeat (go_quiet (fail); try go_wp2)
              go_roundw
              case rel => exact ⟨k + 1, by omega, by go_num, HX3.out.tr (dr_below (by repeat (first | exact Dr.refl _ | apply Dr.step | apply Dr.step1)))⟩
              case measure => simp [intOf]; omega
          · obtain rfl : k = xs.length := by omega
            clear hlt
            go_wp2
            go_ret
            exact ⟨rfl, HB.out⟩

end Go.Proofs.Ytgpcoljgpgamdaa
