/- The contract of the reference's Downs. -/
import Derived.Test.YtgpcoljgpgamdaaQ
namespace Go.Proofs.Ytgpcoljgpgamdaa
open Go.RowKit Go.Shelf
set_option linter.unusedVariables false

set_option maxRecDepth 100000 in
set_option maxHeartbeats 8000000 in
theorem rdowns21 (A Ar : Option Addr) (xs : List Cell) (c cr : Nat) (rows : List Int) (gap : Int) (w : World) (hx : Cells w A xs) (hl : xs.length ≤ 1000) (hrows : Ints w Ar rows) (hr : rightC rows.length xs = true) (hb : right rows gap = true) :
    Calls Try.prog 21 #[.slice Ar rows.length cr, .int .i64 gap, .slice A xs.length c] w (OwnInts (xs.map (downOf (linesC rows.length xs) rows gap)) w) := by
  have H := Lib.hid (rlines17 A xs c rows.length w hx (by omega) hr)
  have Hx := Lib.hid hx
  have Hrows := Lib.hid hrows
  have H22 := Lib.hid (fun W (h : Ints W Ar rows) (a n : Nat) (hs : a + n ≤ rows.length) => c20 Ar rows cr gap a n W h hb hs)
  have Hsp := Lib.hid (fun (a n : Nat) (hs : a + n ≤ rows.length) => sp_bounds hb (a := a) (n := n) hs)
  have hlr := (right_iff.1 hb).1
  unfold rightC at hr
  rw [Bool.and_eq_true, Bool.not_eq_true'] at hr
  have Hok := Lib.hid (bads_all hr.2)
  have Hlb : Hid (∀ i : Nat, 0 ≤ (linesC rows.length xs)[i]?.getD 0 ∧ (linesC rows.length xs)[i]?.getD 0 ≤ 1125899906842623) := Lib.hid (lines_bound rows.length (xs := xs) (K := 1125899906842623) (by omega) (fun q => (inR_iff.1 (okCell_base (bads_all hr.2 q.1 q.2.1))).2) (basedTo xs xs.length))
  have Hll : Hid ((linesC rows.length xs).length = rows.length) := Lib.hid (linesOf_len _ _ _)
  obtain ⟨i0, hi, hz0, hz1, hz2⟩ := info_parts Try.info2
  have Hlen : Hid ((xs.map (downOf (linesC rows.length xs) rows gap)).length = xs.length) := Lib.hid (List.length_map _)
  clear hx hr hrows hb
  generalize hLe : linesC rows.length xs = L at *
  have HLe := Lib.hid hLe
  clear hLe
  go_enter Try.func21, Try.ntmps21
  go_wp2_with (fail)
  refine H.out.mono ?_
  rintro e w1 ⟨g, rfl, hrow, hg, hb1⟩
  rw [HLe.out] at hrow
  have HrowL := Lib.hid hrow
  have Hb1 := Lib.hid hb1
  have hsz1 := hb1.size
  have hBB : Hid (Below w1.heap.size w1 w1) := Lib.hid (Below.refl _ _)
  clear hrow hb1 H
  go_wp2_with (fail)
  go_loopw [8, 9] (fun v i wr => ∃ k : Nat, k ≤ xs.length ∧ i = .int .i64 k ∧ Hid (wr.ownsRow w1.heap.size 2 1 v k (((xs.take k).map (downOf L rows gap)).map (Value.int .i64))) ∧ Hid (Below w1.heap.size w1 wr)) (fun _ i _ => xs.length - (intOf i).toNat)
  case atStart => exact ⟨0, Nat.zero_le _, rfl, Lib.hid (World.ownsRow_nil _ _ _ _), hBB⟩
  case round =>
    obtain ⟨k, hk, rfl, hr, HB1⟩ := hrel
    have HB : Hid (Below w.heap.size w wr) := Lib.hid (Hb1.out.trans (HB1.out.mono Hb1.out.size))
    by_cases hlt : k < xs.length
    · obtain ⟨x, b, off, hxk, rfl, hc⟩ := (Hx.out.below HB.out).get k hlt
      have hok := Hok.out k hlt
      rw [hxk.out] at hok
      have C28 := Lib.hid (fun W => based28 x W)
      have hdo0 : ((xs.take k).map (downOf L rows gap)).map (Value.int .i64) ++ [.int .i64 (downOf L rows gap x)] = ((xs.take (k + 1)).map (downOf L rows gap)).map (Value.int .i64) := by
        have h1 : xs[k] = x := by have := hxk.out; rw [List.getElem?_eq_getElem hlt] at this; exact this
        rw [List.take_succ_eq_append_getElem hlt, h1]; simp
      have Hib : Hid (isB x = true → x.al = 0 ∧ x.hb = true) := Lib.hid (fun h => by unfold isB at h; simpa using h)
      have Hib2 : Hid (isB x = false → x.al = 0 → ¬ x.hb = true) := Lib.hid (fun h h0 h1 => by unfold isB at h; rw [h0, h1] at h; simp at h)
      have hbase := inR_iff.1 (okCell_base hok)
      have hhigh := inR_iff.1 (okCell_high hok)
      unfold okCell at hok
      rw [Bool.and_eq_true] at hok
      have hw := of_decide_eq_true hok.1
      rw [show downOf L rows gap x = downF L x (max (sp gap rows x.row.toNat x.rows.toNat - x.high) 0) from rfl] at hdo0
      generalize isB x = ib at *
      obtain ⟨node, row, col, rws, cols, mn, mx, high, base, hbb, al⟩ := x
      obtain ⟨q0, q1, q2, q3, q4, q5, q6, q7, q8, q9, q10⟩ := hc
      dsimp only at hw hbase hhigh hdo0 Hib Hib2 q0 q1 q2 q3 q4 q5 q6 q7 q8 q9 q10
      obtain ⟨row, rfl⟩ := Int.eq_ofNat_of_zero_le hw.1
      obtain ⟨rws, rfl⟩ := Int.eq_ofNat_of_zero_le (show 0 ≤ rws by omega)
      rw [Int.toNat_natCast, Int.toNat_natCast] at hdo0
      have hrow : row < rows.length := by omega
      have hs : row + rws ≤ rows.length := by omega
      have hspb := Hsp.out row rws hs
      have hlr2 := Hlb.out row
      have hLL := Hll.out
      have hlc := (HrowL.out.below HB1.out HrowL.out.lt).cell row (by omega)
      obtain ⟨vl, hvl⟩ : ∃ vl, L[row]?.getD 0 = vl := ⟨_, rfl⟩
      rw [hvl] at hlc hlr2
      have Hvl2 := Lib.hid hvl
      have HLC := Lib.hid hlc
      have hdo := hdo0
      unfold Cell.arr at C28
      dsimp only at C28
      have C22 := Lib.hid (fun W h => H22.out W h row rws hs)
      have WN := Lib.hid (IntWalk.i64_in (sp gap rows row rws - high) (by omega))
      have haw : Ext wr (wr.alloc (.cells #[.int .i64 node, .int .i64 row, .int .i64 col, .int .i64 rws, .int .i64 cols, .int .i64 mn, .int .i64 mx, .int .i64 high, .int .i64 base, .bool hbb, .int .i64 al] 41)) := (Below.refl _ wr).alloc (Nat.le_refl _) _
      have hnew := heap_alloc_new wr (.cells #[.int .i64 node, .int .i64 row, .int .i64 col, .int .i64 rws, .int .i64 cols, .int .i64 mn, .int .i64 mx, .int .i64 high, .int .i64 base, .bool hbb, .int .i64 al] 41)
      have hawz : (wr.alloc (.cells #[.int .i64 node, .int .i64 row, .int .i64 col, .int .i64 rws, .int .i64 cols, .int .i64 mn, .int .i64 mx, .int .i64 high, .int .i64 base, .bool hbb, .int .i64 al] 41)).heap.size = wr.heap.size + 1 := by simp
      have Hrw := Lib.hid (Hrows.out.below (HB.out.trans (haw.mono HB.out.size)))
      have Haw := Lib.hid haw
      have hnw := Lib.hid hnew
      have z1 : (wr.alloc (.cells #[.int .i64 node, .int .i64 row, .int .i64 col, .int .i64 rws, .int .i64 cols, .int .i64 mn, .int .i64 mx, .int .i64 high, .int .i64 base, .bool hbb, .int .i64 al] 41)).cell? ⟨wr.heap.size, 1, none⟩ = some (.int .i64 row) := by unfold World.cell?; rw [hnew]; rfl
      have z3 : (wr.alloc (.cells #[.int .i64 node, .int .i64 row, .int .i64 col, .int .i64 rws, .int .i64 cols, .int .i64 mn, .int .i64 mx, .int .i64 high, .int .i64 base, .bool hbb, .int .i64 al] 41)).cell? ⟨wr.heap.size, 3, none⟩ = some (.int .i64 rws) := by unfold World.cell?; rw [hnew]; rfl
      have z7 : (wr.alloc (.cells #[.int .i64 node, .int .i64 row, .int .i64 col, .int .i64 rws, .int .i64 cols, .int .i64 mn, .int .i64 mx, .int .i64 high, .int .i64 base, .bool hbb, .int .i64 al] 41)).cell? ⟨wr.heap.size, 7, none⟩ = some (.int .i64 high) := by unfold World.cell?; rw [hnew]; rfl
      have Z1 := Lib.hid z1
      have Z3 := Lib.hid z3
      have Z7 := Lib.hid z7
      clear hdo0 hlc hLL hvl hok hxk haw hnew z1 z3 z7 H22
      by_cases hm : 0 < sp gap rows row rws - high
      · have HMX : Hid ((0 < sp gap rows row rws - high) = True) := Lib.hid (eq_true hm)
        have hmore : max (sp gap rows row rws - high) 0 = sp gap rows row rws - high := by omega
        rw [hmore] at hdo
        clear hmore
        go_wp2_with (fail)
        refine wp_region_ord 15 [(0, true), (1, true), (2, true), (3, true), (4, true), (5, true), (6, true), (7, true), (8, true), (9, true), (10, true), (11, true), (12, true), (13, true), (14, true)] (by kernel_rfl) (by kernel_rfl) ?_
        intro Wc hWc
        iterate 4
          apply OrdAt.op (fun _ _ _ h => h) rfl rfl rfl
          · intro X hB
            go_simp
            try rfl
          · dsimp only [List.set_cons_zero, List.set_cons_succ]
        apply OrdAt.op (fun _ _ _ h => h) rfl rfl rfl
        · intro X hB
          have s := rd (hWc.tr hB) Z1.out
          go_simp
          try rfl
        · dsimp only [List.set_cons_zero, List.set_cons_succ]
        iterate 2
          apply OrdAt.op (fun _ _ _ h => h) rfl rfl rfl
          · intro X hB
            go_simp
            try rfl
          · dsimp only [List.set_cons_zero, List.set_cons_succ]
        apply OrdAt.op (fun _ _ _ h => h) rfl rfl rfl
        · intro X hB
          have s := rd (hWc.tr hB) Z3.out
          go_simp
          try rfl
        · dsimp only [List.set_cons_zero, List.set_cons_succ]
        apply OrdAt.call (fun _ _ _ h => h) rfl rfl rfl
        · intro X hB
          go_simp
          first | exact ⟨rfl, rfl⟩ | rfl
        · intro X hB
          refine (C22.out X (Hrw.out.below (hWc.tr hB))).mono ?_; rintro e W1 ⟨rfl, rfl⟩; exact ⟨rfl, Below.refl _ _⟩
        · dsimp only [List.set_cons_zero, List.set_cons_succ]
        iterate 2
          apply OrdAt.op (fun _ _ _ h => h) rfl rfl rfl
          · intro X hB
            go_simp
            try rfl
          · dsimp only [List.set_cons_zero, List.set_cons_succ]
        apply OrdAt.op (fun _ _ _ h => h) rfl rfl rfl
        · intro X hB
          have s := rd (hWc.tr hB) Z7.out
          go_simp
          try rfl
        · dsimp only [List.set_cons_zero, List.set_cons_succ]
        apply OrdAt.op (fun _ _ _ h => h) rfl rfl rfl
        · intro X hB
          have s := WN.out
          go_simp
          try rfl
        · dsimp only [List.set_cons_zero, List.set_cons_succ]
        apply OrdAt.op (fun _ _ _ h => h) rfl rfl rfl
        · intro X hB
          have s := HMX.out
          go_simp
          try rfl
        · dsimp only [List.set_cons_zero, List.set_cons_succ]
        apply OrdAt.op (fun _ _ _ h => h) rfl rfl rfl
        · intro X hB
          go_simp
          try rfl
        · dsimp only [List.set_cons_zero, List.set_cons_succ]
        refine OrdAt.done ?_
        intro W3 hW3
        have hk3 := (hW3.block wr.heap.size (by have := hWc.size; omega)).trans ((hWc.block wr.heap.size (by omega)).trans hnw.out)
        have hX3 : Ext wr W3 := Ext.tr (Ext.tr Haw.out hWc) hW3
        have HX3 := Lib.hid hX3
        have hz3 : wr.heap.size < W3.heap.size := by have := hWc.size; have := hW3.size; omega
        have z0 : W3.cell? ⟨wr.heap.size, 0, none⟩ = some (.int .i64 node) := by simp [World.cell?, hk3]
        have z1 : W3.cell? ⟨wr.heap.size, 1, none⟩ = some (.int .i64 row) := by simp [World.cell?, hk3]
        have z2 : W3.cell? ⟨wr.heap.size, 2, none⟩ = some (.int .i64 col) := by simp [World.cell?, hk3]
        have z3 : W3.cell? ⟨wr.heap.size, 3, none⟩ = some (.int .i64 rws) := by simp [World.cell?, hk3]
        have z4 : W3.cell? ⟨wr.heap.size, 4, none⟩ = some (.int .i64 cols) := by simp [World.cell?, hk3]
        have z5 : W3.cell? ⟨wr.heap.size, 5, none⟩ = some (.int .i64 mn) := by simp [World.cell?, hk3]
        have z6 : W3.cell? ⟨wr.heap.size, 6, none⟩ = some (.int .i64 mx) := by simp [World.cell?, hk3]
        have z7 : W3.cell? ⟨wr.heap.size, 7, none⟩ = some (.int .i64 high) := by simp [World.cell?, hk3]
        have z8 : W3.cell? ⟨wr.heap.size, 8, none⟩ = some (.int .i64 base) := by simp [World.cell?, hk3]
        have z9 : W3.cell? ⟨wr.heap.size, 9, none⟩ = some (.bool hbb) := by simp [World.cell?, hk3]
        have z10 : W3.cell? ⟨wr.heap.size, 10, none⟩ = some (.int .i64 al) := by simp [World.cell?, hk3]
        have Y1 := Lib.hid z1
        have Y8 := Lib.hid z8
        have Y10 := Lib.hid z10
        have HK3 := Lib.hid hk3
        clear hWc hW3 hX3 hk3 HMX
        go_wp2_with (fail)
        refine (C28.out W3).mono ?_
        rintro e W4 ⟨rfl, hb4⟩
        have Hb4 := Lib.hid hb4
        have hk4 := (hb4.block wr.heap.size hz3).trans HK3.out
        have y1 : W4.cell? ⟨wr.heap.size, 1, none⟩ = some (.int .i64 row) := by simp [World.cell?, hk4]
        have y8 : W4.cell? ⟨wr.heap.size, 8, none⟩ = some (.int .i64 base) := by simp [World.cell?, hk4]
        have y10 : W4.cell? ⟨wr.heap.size, 10, none⟩ = some (.int .i64 al) := by simp [World.cell?, hk4]
        clear z0 z1 z2 z3 z4 z5 z6 z7 z8 z9 z10 hb4 hk4 Y1 Y8 Y10
        cases hb : ib with
        | true =>
          have hab := Hib.out hb
          have hsnoc := Lib.hid (hdo)
          have hdv : downF L ⟨node, row, col, rws, cols, mn, mx, high, base, hbb, al⟩ (sp gap rows row rws - high) = vl - base := by
            unfold downF lineAt; dsimp only; rw [if_pos hab.1, if_pos hab.2, Int.toNat_natCast]; exact congrArg (· - base) Hvl2.out
          rw [hdv] at hsnoc
          have Y1 := Lib.hid y1
          have Y8 := Lib.hid y8
          have YL := Lib.hid (rd (Ext.tr HX3.out Hb4.out) HLC.out)
          have WN2 := Lib.hid (IntWalk.i64_in (vl - base) (by omega))
          clear y1 y8 y10 hab hdv hdo hb
          go_wp2_with (fail)
          refine wp_region_ord 11 [(0, true), (1, true), (2, true), (3, true), (4, true), (5, true), (6, true), (7, true), (8, true), (9, true), (10, true)] (by kernel_rfl) (by kernel_rfl) ?_
          intro Wd hWd
          iterate 3
            apply OrdAt.op (fun _ _ _ h => h) rfl rfl rfl
            · intro X hB
              go_simp
              try rfl
            · dsimp only [List.set_cons_zero, List.set_cons_succ]
          apply OrdAt.op (fun _ _ _ h => h) rfl rfl rfl
          · intro X hB
            have s := rd (hWd.tr hB) Y1.out
            go_simp
            try rfl
          · dsimp only [List.set_cons_zero, List.set_cons_succ]
          apply OrdAt.op (fun _ _ _ h => h) rfl rfl rfl
          · intro X hB
            go_simp
            try rfl
          · dsimp only [List.set_cons_zero, List.set_cons_succ]
          apply OrdAt.op (fun _ _ _ h => h) rfl rfl rfl
          · intro X hB
            have s := rd (hWd.tr hB) YL.out
            go_simp
            try rfl
          · dsimp only [List.set_cons_zero, List.set_cons_succ]
          iterate 2
            apply OrdAt.op (fun _ _ _ h => h) rfl rfl rfl
            · intro X hB
              go_simp
              try rfl
            · dsimp only [List.set_cons_zero, List.set_cons_succ]
          apply OrdAt.op (fun _ _ _ h => h) rfl rfl rfl
          · intro X hB
            have s := rd (hWd.tr hB) Y8.out
            go_simp
            try rfl
          · dsimp only [List.set_cons_zero, List.set_cons_succ]
          apply OrdAt.op (fun _ _ _ h => h) rfl rfl rfl
          · intro X hB
            have s := WN2.out
            go_simp
            try rfl
          · dsimp only [List.set_cons_zero, List.set_cons_succ]
          apply OrdAt.op (fun _ _ _ h => h) rfl rfl rfl
          · intro X hB
            go_simp
            try rfl
          · dsimp only [List.set_cons_zero, List.set_cons_succ]
          refine OrdAt.done ?_
          intro W5 hW5
          have hX : Ext wr W5 := Ext.tr (Ext.tr (Ext.tr HX3.out Hb4.out) hWd) hW5
          clear hWd hW5
          go_wp2_with (at_builtin; refine wpList_append_own _ rfl _ _ 25 rfl w1.heap.size 2 i0 (.int .i64 0) 1 8 Try.underlying25 hi hz0 hz1 hz2 rfl (by decide) _ _ _ rfl ((ownsRow_ext hr.out hX).alloc _) ⟨W5.heap.size, 0, none⟩ 1 1 [.int .i64 (vl - base)] rfl rfl (cell_one_new _ _ _) (by simp [Value.oneCell']) (by unfold maxLen; omega) (by omega) (by have := HB1.out.size; have := hX.size; simp; omega) ?_; intro v' w1' hown' hgrow _; rw [hsnoc.out] at hown'; have HO := Lib.hid hown'; have HBg := Lib.hid (grown_row (HB1.out.trans (hX.mono HB1.out.size)) (ownsRow_ext hr.out hX) hgrow (Nat.le_trans HB1.out.size hX.size)); clear hown' hgrow)
          go_roundw
          case rel => exact ⟨k + 1, by omega, by simp, HO, HBg⟩
          case measure => simp [intOf]; omega
        | false =>
          have hnb := Hib2.out hb
          clear hb
          have hX : Ext wr W4 := Ext.tr HX3.out Hb4.out
          by_cases h2 : al = 2
          · have hdv : downF L ⟨node, row, col, rws, cols, mn, mx, high, base, hbb, al⟩ (sp gap rows row rws - high) = (sp gap rows row rws - high) / 2 := by
              unfold downF; dsimp only; rw [if_neg (by omega), if_pos h2]
            rw [hdv] at hdo
            have hsnoc := Lib.hid hdo
            have t2 : (al == 2) = true := by rw [beq_iff_eq]; exact h2
            have t2b : ((al : Int) == 2) = true := t2
            clear hdo hdv y1 y8 h2 hnb
            go_wp2_with (at_builtin; refine wpList_append_own _ rfl _ _ 25 rfl w1.heap.size 2 i0 (.int .i64 0) 1 8 Try.underlying25 hi hz0 hz1 hz2 rfl (by decide) _ _ _ rfl ((ownsRow_ext hr.out hX).alloc _) ⟨W4.heap.size, 0, none⟩ 1 1 [.int .i64 ((sp gap rows row rws - high) / 2)] rfl rfl (cell_one_new _ _ _) (by simp [Value.oneCell']) (by unfold maxLen; omega) (by omega) (by have := HB1.out.size; have := hX.size; simp; omega) ?_; intro v' w1' hown' hgrow _; rw [hsnoc.out] at hown'; have HO := Lib.hid hown'; have HBg := Lib.hid (grown_row (HB1.out.trans (hX.mono HB1.out.size)) (ownsRow_ext hr.out hX) hgrow (Nat.le_trans HB1.out.size hX.size)); clear hown' hgrow)
            go_roundw
            case rel => exact ⟨k + 1, by omega, by simp, HO, HBg⟩
            case measure => simp [intOf]; omega
          · have t2 : (al == 2) = false := by rw [beq_eq_false_iff_ne]; exact h2
            by_cases h3 : al = 3
            · have hdv : downF L ⟨node, row, col, rws, cols, mn, mx, high, base, hbb, al⟩ (sp gap rows row rws - high) = sp gap rows row rws - high := by
                unfold downF; dsimp only; rw [if_neg (by omega), if_neg h2, if_pos h3]
              rw [hdv] at hdo
              have hsnoc := Lib.hid hdo
              have t3 : (al == 3) = true := by rw [beq_iff_eq]; exact h3
              clear hdo hdv y1 y8 h2 h3 hnb
              go_wp2_with (at_builtin; refine wpList_append_own _ rfl _ _ 25 rfl w1.heap.size 2 i0 (.int .i64 0) 1 8 Try.underlying25 hi hz0 hz1 hz2 rfl (by decide) _ _ _ rfl ((ownsRow_ext hr.out hX).alloc _) ⟨W4.heap.size, 0, none⟩ 1 1 [.int .i64 (sp gap rows row rws - high)] rfl rfl (cell_one_new _ _ _) (by simp [Value.oneCell']) (by unfold maxLen; omega) (by omega) (by have := HB1.out.size; have := hX.size; simp; omega) ?_; intro v' w1' hown' hgrow _; rw [hsnoc.out] at hown'; have HO := Lib.hid hown'; have HBg := Lib.hid (grown_row (HB1.out.trans (hX.mono HB1.out.size)) (ownsRow_ext hr.out hX) hgrow (Nat.le_trans HB1.out.size hX.size)); clear hown' hgrow)
              go_roundw
              case rel => exact ⟨k + 1, by omega, by simp, HO, HBg⟩
              case measure => simp [intOf]; omega
            · have hdv : downF L ⟨node, row, col, rws, cols, mn, mx, high, base, hbb, al⟩ (sp gap rows row rws - high) = 0 := by
                unfold downF; dsimp only
                by_cases h0 : al = 0
                · rw [if_pos h0, if_neg (hnb h0)]
                · rw [if_neg h0, if_neg h2, if_neg h3]
              rw [hdv] at hdo
              have hsnoc := Lib.hid hdo
              have t3 : (al == 3) = false := by rw [beq_eq_false_iff_ne]; exact h3
              clear hdo hdv y1 y8 h2 h3 hnb
              go_wp2_with (at_builtin; refine wpList_append_own _ rfl _ _ 25 rfl w1.heap.size 2 i0 (.int .i64 0) 1 8 Try.underlying25 hi hz0 hz1 hz2 rfl (by decide) _ _ _ rfl ((ownsRow_ext hr.out hX).alloc _) ⟨W4.heap.size, 0, none⟩ 1 1 [.int .i64 (0)] rfl rfl (cell_one_new _ _ _) (by simp [Value.oneCell']) (by unfold maxLen; omega) (by omega) (by have := HB1.out.size; have := hX.size; simp; omega) ?_; intro v' w1' hown' hgrow _; rw [hsnoc.out] at hown'; have HO := Lib.hid hown'; have HBg := Lib.hid (grown_row (HB1.out.trans (hX.mono HB1.out.size)) (ownsRow_ext hr.out hX) hgrow (Nat.le_trans HB1.out.size hX.size)); clear hown' hgrow)
              go_roundw
              case rel => exact ⟨k + 1, by omega, by simp, HO, HBg⟩
              case measure => simp [intOf]; omega
      · have HMX : Hid ((0 < sp gap rows row rws - high) = False) := Lib.hid (eq_false hm)
        have hmore : max (sp gap rows row rws - high) 0 = 0 := by omega
        rw [hmore] at hdo
        clear hmore
        go_wp2_with (fail)
        refine wp_region_ord 15 [(0, true), (1, true), (2, true), (3, true), (4, true), (5, true), (6, true), (7, true), (8, true), (9, true), (10, true), (11, true), (12, true), (13, true), (14, true)] (by kernel_rfl) (by kernel_rfl) ?_
        intro Wc hWc
        iterate 4
          apply OrdAt.op (fun _ _ _ h => h) rfl rfl rfl
          · intro X hB
            go_simp
            try rfl
          · dsimp only [List.set_cons_zero, List.set_cons_succ]
        apply OrdAt.op (fun _ _ _ h => h) rfl rfl rfl
        · intro X hB
          have s := rd (hWc.tr hB) Z1.out
          go_simp
          try rfl
        · dsimp only [List.set_cons_zero, List.set_cons_succ]
        iterate 2
          apply OrdAt.op (fun _ _ _ h => h) rfl rfl rfl
          · intro X hB
            go_simp
            try rfl
          · dsimp only [List.set_cons_zero, List.set_cons_succ]
        apply OrdAt.op (fun _ _ _ h => h) rfl rfl rfl
        · intro X hB
          have s := rd (hWc.tr hB) Z3.out
          go_simp
          try rfl
        · dsimp only [List.set_cons_zero, List.set_cons_succ]
        apply OrdAt.call (fun _ _ _ h => h) rfl rfl rfl
        · intro X hB
          go_simp
          first | exact ⟨rfl, rfl⟩ | rfl
        · intro X hB
          refine (C22.out X (Hrw.out.below (hWc.tr hB))).mono ?_; rintro e W1 ⟨rfl, rfl⟩; exact ⟨rfl, Below.refl _ _⟩
        · dsimp only [List.set_cons_zero, List.set_cons_succ]
        iterate 2
          apply OrdAt.op (fun _ _ _ h => h) rfl rfl rfl
          · intro X hB
            go_simp
            try rfl
          · dsimp only [List.set_cons_zero, List.set_cons_succ]
        apply OrdAt.op (fun _ _ _ h => h) rfl rfl rfl
        · intro X hB
          have s := rd (hWc.tr hB) Z7.out
          go_simp
          try rfl
        · dsimp only [List.set_cons_zero, List.set_cons_succ]
        apply OrdAt.op (fun _ _ _ h => h) rfl rfl rfl
        · intro X hB
          have s := WN.out
          go_simp
          try rfl
        · dsimp only [List.set_cons_zero, List.set_cons_succ]
        apply OrdAt.op (fun _ _ _ h => h) rfl rfl rfl
        · intro X hB
          have s := HMX.out
          go_simp
          try rfl
        · dsimp only [List.set_cons_zero, List.set_cons_succ]
        apply OrdAt.op (fun _ _ _ h => h) rfl rfl rfl
        · intro X hB
          go_simp
          try rfl
        · dsimp only [List.set_cons_zero, List.set_cons_succ]
        refine OrdAt.done ?_
        intro W3 hW3
        have hk3 := (hW3.block wr.heap.size (by have := hWc.size; omega)).trans ((hWc.block wr.heap.size (by omega)).trans hnw.out)
        have hX3 : Ext wr W3 := Ext.tr (Ext.tr Haw.out hWc) hW3
        have HX3 := Lib.hid hX3
        have hz3 : wr.heap.size < W3.heap.size := by have := hWc.size; have := hW3.size; omega
        have z0 : W3.cell? ⟨wr.heap.size, 0, none⟩ = some (.int .i64 node) := by simp [World.cell?, hk3]
        have z1 : W3.cell? ⟨wr.heap.size, 1, none⟩ = some (.int .i64 row) := by simp [World.cell?, hk3]
        have z2 : W3.cell? ⟨wr.heap.size, 2, none⟩ = some (.int .i64 col) := by simp [World.cell?, hk3]
        have z3 : W3.cell? ⟨wr.heap.size, 3, none⟩ = some (.int .i64 rws) := by simp [World.cell?, hk3]
        have z4 : W3.cell? ⟨wr.heap.size, 4, none⟩ = some (.int .i64 cols) := by simp [World.cell?, hk3]
        have z5 : W3.cell? ⟨wr.heap.size, 5, none⟩ = some (.int .i64 mn) := by simp [World.cell?, hk3]
        have z6 : W3.cell? ⟨wr.heap.size, 6, none⟩ = some (.int .i64 mx) := by simp [World.cell?, hk3]
        have z7 : W3.cell? ⟨wr.heap.size, 7, none⟩ = some (.int .i64 high) := by simp [World.cell?, hk3]
        have z8 : W3.cell? ⟨wr.heap.size, 8, none⟩ = some (.int .i64 base) := by simp [World.cell?, hk3]
        have z9 : W3.cell? ⟨wr.heap.size, 9, none⟩ = some (.bool hbb) := by simp [World.cell?, hk3]
        have z10 : W3.cell? ⟨wr.heap.size, 10, none⟩ = some (.int .i64 al) := by simp [World.cell?, hk3]
        have Y1 := Lib.hid z1
        have Y8 := Lib.hid z8
        have Y10 := Lib.hid z10
        have HK3 := Lib.hid hk3
        clear hWc hW3 hX3 hk3 HMX
        go_wp2_with (fail)
        refine (C28.out W3).mono ?_
        rintro e W4 ⟨rfl, hb4⟩
        have Hb4 := Lib.hid hb4
        have hk4 := (hb4.block wr.heap.size hz3).trans HK3.out
        have y1 : W4.cell? ⟨wr.heap.size, 1, none⟩ = some (.int .i64 row) := by simp [World.cell?, hk4]
        have y8 : W4.cell? ⟨wr.heap.size, 8, none⟩ = some (.int .i64 base) := by simp [World.cell?, hk4]
        have y10 : W4.cell? ⟨wr.heap.size, 10, none⟩ = some (.int .i64 al) := by simp [World.cell?, hk4]
        clear z0 z1 z2 z3 z4 z5 z6 z7 z8 z9 z10 hb4 hk4 Y1 Y8 Y10
        cases hb : ib with
        | true =>
          have hab := Hib.out hb
          have hsnoc := Lib.hid (hdo)
          have hdv : downF L ⟨node, row, col, rws, cols, mn, mx, high, base, hbb, al⟩ (0) = vl - base := by
            unfold downF lineAt; dsimp only; rw [if_pos hab.1, if_pos hab.2, Int.toNat_natCast]; exact congrArg (· - base) Hvl2.out
          rw [hdv] at hsnoc
          have Y1 := Lib.hid y1
          have Y8 := Lib.hid y8
          have YL := Lib.hid (rd (Ext.tr HX3.out Hb4.out) HLC.out)
          have WN2 := Lib.hid (IntWalk.i64_in (vl - base) (by omega))
          clear y1 y8 y10 hab hdv hdo hb
          go_wp2_with (fail)
          refine wp_region_ord 11 [(0, true), (1, true), (2, true), (3, true), (4, true), (5, true), (6, true), (7, true), (8, true), (9, true), (10, true)] (by kernel_rfl) (by kernel_rfl) ?_
          intro Wd hWd
          iterate 3
            apply OrdAt.op (fun _ _ _ h => h) rfl rfl rfl
            · intro X hB
              go_simp
              try rfl
            · dsimp only [List.set_cons_zero, List.set_cons_succ]
          apply OrdAt.op (fun _ _ _ h => h) rfl rfl rfl
          · intro X hB
            have s := rd (hWd.tr hB) Y1.out
            go_simp
            try rfl
          · dsimp only [List.set_cons_zero, List.set_cons_succ]
          apply OrdAt.op (fun _ _ _ h => h) rfl rfl rfl
          · intro X hB
            go_simp
            try rfl
          · dsimp only [List.set_cons_zero, List.set_cons_succ]
          apply OrdAt.op (fun _ _ _ h => h) rfl rfl rfl
          · intro X hB
            have s := rd (hWd.tr hB) YL.out
            go_simp
            try rfl
          · dsimp only [List.set_cons_zero, List.set_cons_succ]
          iterate 2
            apply OrdAt.op (fun _ _ _ h => h) rfl rfl rfl
            · intro X hB
              go_simp
              try rfl
            · dsimp only [List.set_cons_zero, List.set_cons_succ]
          apply OrdAt.op (fun _ _ _ h => h) rfl rfl rfl
          · intro X hB
            have s := rd (hWd.tr hB) Y8.out
            go_simp
            try rfl
          · dsimp only [List.set_cons_zero, List.set_cons_succ]
          apply OrdAt.op (fun _ _ _ h => h) rfl rfl rfl
          · intro X hB
            have s := WN2.out
            go_simp
            try rfl
          · dsimp only [List.set_cons_zero, List.set_cons_succ]
          apply OrdAt.op (fun _ _ _ h => h) rfl rfl rfl
          · intro X hB
            go_simp
            try rfl
          · dsimp only [List.set_cons_zero, List.set_cons_succ]
          refine OrdAt.done ?_
          intro W5 hW5
          have hX : Ext wr W5 := Ext.tr (Ext.tr (Ext.tr HX3.out Hb4.out) hWd) hW5
          clear hWd hW5
          go_wp2_with (at_builtin; refine wpList_append_own _ rfl _ _ 25 rfl w1.heap.size 2 i0 (.int .i64 0) 1 8 Try.underlying25 hi hz0 hz1 hz2 rfl (by decide) _ _ _ rfl ((ownsRow_ext hr.out hX).alloc _) ⟨W5.heap.size, 0, none⟩ 1 1 [.int .i64 (vl - base)] rfl rfl (cell_one_new _ _ _) (by simp [Value.oneCell']) (by unfold maxLen; omega) (by omega) (by have := HB1.out.size; have := hX.size; simp; omega) ?_; intro v' w1' hown' hgrow _; rw [hsnoc.out] at hown'; have HO := Lib.hid hown'; have HBg := Lib.hid (grown_row (HB1.out.trans (hX.mono HB1.out.size)) (ownsRow_ext hr.out hX) hgrow (Nat.le_trans HB1.out.size hX.size)); clear hown' hgrow)
          go_roundw
          case rel => exact ⟨k + 1, by omega, by simp, HO, HBg⟩
          case measure => simp [intOf]; omega
        | false =>
          have hnb := Hib2.out hb
          clear hb
          have hX : Ext wr W4 := Ext.tr HX3.out Hb4.out
          by_cases h2 : al = 2
          · have hdv : downF L ⟨node, row, col, rws, cols, mn, mx, high, base, hbb, al⟩ (0) = (0) / 2 := by
              unfold downF; dsimp only; rw [if_neg (by omega), if_pos h2]
            rw [hdv] at hdo
            have hsnoc := Lib.hid hdo
            have t2 : (al == 2) = true := by rw [beq_iff_eq]; exact h2
            have t2b : ((al : Int) == 2) = true := t2
            clear hdo hdv y1 y8 h2 hnb
            go_wp2_with (at_builtin; refine wpList_append_own _ rfl _ _ 25 rfl w1.heap.size 2 i0 (.int .i64 0) 1 8 Try.underlying25 hi hz0 hz1 hz2 rfl (by decide) _ _ _ rfl ((ownsRow_ext hr.out hX).alloc _) ⟨W4.heap.size, 0, none⟩ 1 1 [.int .i64 ((0) / 2)] rfl rfl (cell_one_new _ _ _) (by simp [Value.oneCell']) (by unfold maxLen; omega) (by omega) (by have := HB1.out.size; have := hX.size; simp; omega) ?_; intro v' w1' hown' hgrow _; rw [hsnoc.out] at hown'; have HO := Lib.hid hown'; have HBg := Lib.hid (grown_row (HB1.out.trans (hX.mono HB1.out.size)) (ownsRow_ext hr.out hX) hgrow (Nat.le_trans HB1.out.size hX.size)); clear hown' hgrow)
            go_roundw
            case rel => exact ⟨k + 1, by omega, by simp, HO, HBg⟩
            case measure => simp [intOf]; omega
          · have t2 : (al == 2) = false := by rw [beq_eq_false_iff_ne]; exact h2
            by_cases h3 : al = 3
            · have hdv : downF L ⟨node, row, col, rws, cols, mn, mx, high, base, hbb, al⟩ (0) = 0 := by
                unfold downF; dsimp only; rw [if_neg (by omega), if_neg h2, if_pos h3]
              rw [hdv] at hdo
              have hsnoc := Lib.hid hdo
              have t3 : (al == 3) = true := by rw [beq_iff_eq]; exact h3
              clear hdo hdv y1 y8 h2 h3 hnb
              go_wp2_with (at_builtin; refine wpList_append_own _ rfl _ _ 25 rfl w1.heap.size 2 i0 (.int .i64 0) 1 8 Try.underlying25 hi hz0 hz1 hz2 rfl (by decide) _ _ _ rfl ((ownsRow_ext hr.out hX).alloc _) ⟨W4.heap.size, 0, none⟩ 1 1 [.int .i64 (0)] rfl rfl (cell_one_new _ _ _) (by simp [Value.oneCell']) (by unfold maxLen; omega) (by omega) (by have := HB1.out.size; have := hX.size; simp; omega) ?_; intro v' w1' hown' hgrow _; rw [hsnoc.out] at hown'; have HO := Lib.hid hown'; have HBg := Lib.hid (grown_row (HB1.out.trans (hX.mono HB1.out.size)) (ownsRow_ext hr.out hX) hgrow (Nat.le_trans HB1.out.size hX.size)); clear hown' hgrow)
              go_roundw
              case rel => exact ⟨k + 1, by omega, by simp, HO, HBg⟩
              case measure => simp [intOf]; omega
            · have hdv : downF L ⟨node, row, col, rws, cols, mn, mx, high, base, hbb, al⟩ (0) = 0 := by
                unfold downF; dsimp only
                by_cases h0 : al = 0
                · rw [if_pos h0, if_neg (hnb h0)]
                · rw [if_neg h0, if_neg h2, if_neg h3]
              rw [hdv] at hdo
              have hsnoc := Lib.hid hdo
              have t3 : (al == 3) = false := by rw [beq_eq_false_iff_ne]; exact h3
              clear hdo hdv y1 y8 h2 h3 hnb
              go_wp2_with (at_builtin; refine wpList_append_own _ rfl _ _ 25 rfl w1.heap.size 2 i0 (.int .i64 0) 1 8 Try.underlying25 hi hz0 hz1 hz2 rfl (by decide) _ _ _ rfl ((ownsRow_ext hr.out hX).alloc _) ⟨W4.heap.size, 0, none⟩ 1 1 [.int .i64 (0)] rfl rfl (cell_one_new _ _ _) (by simp [Value.oneCell']) (by unfold maxLen; omega) (by omega) (by have := HB1.out.size; have := hX.size; simp; omega) ?_; intro v' w1' hown' hgrow _; rw [hsnoc.out] at hown'; have HO := Lib.hid hown'; have HBg := Lib.hid (grown_row (HB1.out.trans (hX.mono HB1.out.size)) (ownsRow_ext hr.out hX) hgrow (Nat.le_trans HB1.out.size hX.size)); clear hown' hgrow)
              go_roundw
              case rel => exact ⟨k + 1, by omega, by simp, HO, HBg⟩
              case measure => simp [intOf]; omega
    · obtain rfl : k = xs.length := by omega
      obtain ⟨A', c', rfl, hac, hcm, hin, _⟩ := ints_of_own hr.out (by simp)
      rw [List.take_of_length_le (Nat.le_refl _)] at hin
      have Hin := Lib.hid hin
      clear hin
      go_wp2_with (fail)
      go_ret
      exact ⟨A', c', by rw [Hlen.out]; rfl, Hin.out, HB.out⟩

end Go.Proofs.Ytgpcoljgpgamdaa
