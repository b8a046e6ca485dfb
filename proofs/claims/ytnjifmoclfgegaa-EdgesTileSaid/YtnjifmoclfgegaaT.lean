/- The walk of EdgesWithin where Cells says yes. -/
import Derived.Test.YtnjifmoclfgegaaP
import Derived.Test.YtnjifmoclfgegaaDet
namespace Go.Proofs.Ytnjifmoclfgegaa
open Go.RowKit Go.Shelf
set_option linter.unusedVariables false
set_option linter.unusedSimpArgs false

theorem ext_bounds {xs : List Int} {gap : Int} (hr : right xs gap = true) : 0 ≤ gap ∧ ext gap xs ≤ 30000000000000 := by
  have h1 := (right_iff.1 hr).2.1
  have h2 := (right_iff.1 hr).1
  have h3 := st_bounds hr xs.length (Nat.le_refl _)
  unfold ext
  split <;> omega
set_option maxRecDepth 100000 in
set_option maxHeartbeats 4000000 in
theorem within_low_right (A Ac Ar : Option Addr) (n0 c : Nat) (h60 : n0 ≤ 60) (cols0 cols rows0 rows : List Int) (cc cr : Nat) (g0 g1 : Int) (ps : List Place) (rs : List Rect) (er : Int) (w : World) (hn : ps.length = n0) (hp : Places w A ps) (hrl : rs = upto (rectAt cols rows g0 g1 ps) ps.length) (hfit : ∀ j, j < ps.length → fits (ps[j]?.getD default) rows.length cols.length = true) (hcp : n0 ≤ c) (hlp0 : n0 ≤ 17592186044416)
    (hlc : cols.length = min cols0.length 100) (hcc : cols0.length ≤ cc) (hlc0 : cols0.length ≤ 17592186044416) (hlr : rows.length = min rows0.length 100) (hcr : rows0.length ≤ cr) (hlr0 : rows0.length ≤ 17592186044416) (hrs : rs.length ≤ 17592186044416)
    (her : er = 0) (hw1 : right cols g0 = true) (hw2 : right rows g1 = true) (hc : Ints w Ac cols) (hr : Ints w Ar rows)
    (h21 : ∀ W, Below w.heap.size w W → Calls Try.prog 21 #[.slice A n0 c, .slice Ac cols.length cc, .slice Ar rows.length cr, .agg #[.int .i64 g0, .int .i64 g1]] W (CellsGive rs er W)) :
    Calls Try.prog 7 #[.slice A n0 c, .slice Ac cols0.length cc, .slice Ar rows0.length cr, .agg #[.int .i64 g0, .int .i64 g1]] w fun e w' => e = .returned (.bool true) ∧ Below w.heap.size w w' := by
  obtain rfl := her
  have Cells := Lib.hid h21
  have Cutc := Lib.hid (fun W => c11 Ac cols0.length cc W hcc hlc0)
  have Cutr := Lib.hid (fun W => c11 Ar rows0.length cr W hcr hlr0)
  have Lenc := Lib.hid hlc
  have Lenr := Lib.hid hlr
  have HB0 : Hid (Below w.heap.size w (w.alloc (.cells #[.int .i64 g0, .int .i64 g1] 38))) := Lib.hid ((Below.refl _ w).alloc (Nat.le_refl _) _)
  have r7 := heap_alloc_new w (.cells #[.int .i64 g0, .int .i64 g1] 38)
  have H7 := Lib.hid r7
  have X1 := Lib.hid (fun W (h : Ints W Ac cols) => c13_right Ac cols cc g0 W h hw1)
  have X2 := Lib.hid (fun W (h : Ints W Ar rows) => c13_right Ar rows cr g1 W h hw2)
  have Hc := Lib.hid hc
  have Hr := Lib.hid hr
  have S1 := Lib.hid (fun W (h : Ints W Ac cols) (a n : Nat) (hs : a + n ≤ cols.length) => c14_right Ac cols cc g0 a n W h hw1 hs)
  have S2 := Lib.hid (fun W (h : Ints W Ar rows) (a n : Nat) (hs : a + n ≤ rows.length) => c14_right Ar rows cr g1 a n W h hw2 hs)
  have Within := Lib.hid (fun p hp => rect_within (g0 := g0) (g1 := g1) hw1 hw2 p hp)
  have Bd1 := Lib.hid (ext_bounds hw1)
  have Bd2 := Lib.hid (ext_bounds hw2)
  have Sp1 := Lib.hid (fun (a n : Nat) (hs : a + n ≤ cols.length) => sp_bounds hw1 hs)
  have Sp2 := Lib.hid (fun (a n : Nat) (hs : a + n ≤ rows.length) => sp_bounds hw2 hs)
  have Hfit := Lib.hid hfit
  have Hp := Lib.hid hp
  have Hrl := Lib.hid hrl
  have Hn := Lib.hid hn
  have hnl : rs.length = ps.length := by rw [hrl, upto_length]
  have Hnl := Lib.hid hnl
  have lc := (right_iff.1 hw1).1
  have lr := (right_iff.1 hw2).1
  clear h21 hlc hlr r7 hw1 hw2 hc hr hfit hp hrl hnl
  subst hn
  go_enter Try.func7, Try.ntmps7
  go_wp2_with (fail)
  refine (c10 _).mono ?_
  rintro e w1 ⟨rfl, hb1⟩
  have r7 := (hb1.block _ (Array.getElem?_eq_some_iff.1 H7.out).1).trans H7.out
  have p0 : w1.cell? ⟨w.heap.size, 0, none⟩ = some (.int .i64 g0) := by simp [World.cell?, r7]
  have p1 : w1.cell? ⟨w.heap.size, 1, none⟩ = some (.int .i64 g1) := by simp [World.cell?, r7]
  have HBw := Lib.hid (HB0.out.trans (hb1.mono HB0.out.size))
  have R7 := Lib.hid r7
  clear hb1 r7
  go_wp2_with (fail)
  refine (Cutc.out _).mono ?_
  rintro e W1 ⟨m, ⟨hm, rfl⟩, rfl⟩
  obtain rfl : m = cols.length := (by rw [hm]; exact Lenc.out.symm)
  clear hm
  go_wp2_with (fail)
  refine (Cutr.out _).mono ?_
  rintro e W1 ⟨m, ⟨hm, rfl⟩, rfl⟩
  obtain rfl : m = rows.length := (by rw [hm]; exact Lenr.out.symm)
  clear hm
  go_wp2_with (fail)
  refine (Cells.out _ HBw.out).mono ?_
  rintro e w3 ⟨⟨A', c', rfl, hrc⟩, hb3⟩
  have HB3 := Lib.hid (HBw.out.trans (hb3.mono HBw.out.size))
  have r7 := (hb3.block _ (Array.getElem?_eq_some_iff.1 R7.out).1).trans R7.out
  have p0' : w3.cell? ⟨w.heap.size, 0, none⟩ = some (.int .i64 g0) := by simp [World.cell?, r7]
  have R73 := Lib.hid r7
  have HR := Lib.hid hrc
  clear hb3 hrc p0 p1 r7 R7 HBw
  go_wp2_with (fail)
  refine (X1.out _ (Hc.out.below HB3.out)).mono ?_
  rintro e w4 ⟨rfl, hb4⟩
  have HB4 := Lib.hid (HB3.out.trans (hb4.mono HB3.out.size))
  have r7 := (hb4.block _ (Array.getElem?_eq_some_iff.1 R73.out).1).trans R73.out
  have p1' : w4.cell? ⟨w.heap.size, 1, none⟩ = some (.int .i64 g1) := by simp [World.cell?, r7]
  have R74 := Lib.hid r7
  have HR4 := Lib.hid (HR.out.below hb4)
  clear hb4 r7 p0' R73 HB3 HR
  go_wp2_with (fail)
  refine (X2.out _ (Hr.out.below HB4.out)).mono ?_
  rintro e w5 ⟨rfl, hb5⟩
  have HB5 := Lib.hid (HB4.out.trans (hb5.mono HB4.out.size))
  have R75 := Lib.hid ((hb5.block _ (Array.getElem?_eq_some_iff.1 R74.out).1).trans R74.out)
  have HR5 := Lib.hid (HR4.out.below hb5)
  clear hb5 R74 HB4 HR4 p1'
  go_wp2_with (fail)
  have lb7 : w.heap.size < w5.heap.size := (Array.getElem?_eq_some_iff.1 R75.out).1
  have hG0 : w5.cell? ⟨w.heap.size, 0, none⟩ = some (.int .i64 g0) := by simp [World.cell?, R75.out]
  have hG1 : w5.cell? ⟨w.heap.size, 1, none⟩ = some (.int .i64 g1) := by simp [World.cell?, R75.out]
  have G05 := Lib.hid hG0
  have G15 := Lib.hid hG1
  clear hG0 hG1
  go_loopw [16] (fun i wr => ∃ k : Nat, k ≤ ps.length ∧ i = .int .i64 k ∧ Below w5.heap.size w5 wr) (fun i _ => ps.length - (intOf i).toNat)
  case atStart => exact ⟨0, Nat.zero_le _, rfl, Below.refl _ _⟩
  case round =>
    obtain ⟨k, hk, rfl, hB⟩ := hrel
    by_cases hlt : k < ps.length
    · obtain ⟨p, b, off, hpk, rfl, hpc⟩ := (Hp.out.below (HB5.out.trans (hB.mono HB5.out.size))).get k hlt
      have hf := Hfit.out k hlt
      rw [hpk.out] at hf
      obtain ⟨⟨f1, f2, f3, f4⟩, f5, f6⟩ := fits_iff.1 hf
      have Hrk : Hid (rs[k]?.getD default = rectOf cols rows g0 g1 p) := by
        show _ = _
        rw [Hrl.out]; simp only [upto, List.getElem?_map, List.getElem?_range hlt, Option.map_some, Option.getD_some]; unfold rectAt; rw [hpk.out]
      have Hwi := Lib.hid (Within.out p hf)
      clear hf
      obtain ⟨node, row, col, prs, pcs⟩ := p
      dsimp only at f1 f2 f3 f4 f5 f6
      obtain ⟨row, rfl⟩ := Int.eq_ofNat_of_zero_le f1
      obtain ⟨col, rfl⟩ := Int.eq_ofNat_of_zero_le f2
      obtain ⟨prs, rfl⟩ := Int.eq_ofNat_of_zero_le (show 0 ≤ prs by omega)
      obtain ⟨pcs, rfl⟩ := Int.eq_ofNat_of_zero_le (show 0 ≤ pcs by omega)
      have hcs : col + pcs ≤ cols.length := by omega
      have hrs' : row + prs ≤ rows.length := by omega
      have G0 := Lib.hid (rd hB G05.out)
      have G1 := Lib.hid (rd hB G15.out)
      have lbp := hpc.lt
      have Hpl := Lib.hid hpc
      have HBr := Lib.hid (HB5.out.trans (hB.mono HB5.out.size))
      have HcR := Lib.hid (Hc.out.below HBr.out)
      have HrR := Lib.hid (Hr.out.below HBr.out)
      have HRr := Lib.hid (HR5.out.below hB)
      have HBl := Lib.hid hB
      clear f1 f2 f3 f4 f5 f6 hB hpk
      have hkr : k < rs.length := by rw [Hnl.out]; exact hlt
      have hrs := hrs'
      clear hrs'
      go_wp2_with (fail)
      refine wp_region_det (fun W => Below wr.heap.size wr W) 19 (by kernel_rfl) (by kernel_rfl) ((Dr.refl wr).step1.below _) fun hok => ?_
      iterate 2
        apply DetAt.op hok rfl rfl rfl rfl rfl
        · intro W hB
          go_simp; try rfl
        · rfl
        · dsimp only [List.set_cons_zero, List.set_cons_succ]
      apply DetAt.op hok rfl rfl rfl rfl rfl
      · intro W hB
        have s := rd hB G0.out
        go_simp; try rfl
      · rfl
      · dsimp only [List.set_cons_zero, List.set_cons_succ]
      iterate 4
        apply DetAt.op hok rfl rfl rfl rfl rfl
        · intro W hB
          go_simp; try rfl
        · rfl
        · dsimp only [List.set_cons_zero, List.set_cons_succ]
      apply DetAt.op hok rfl rfl rfl rfl rfl
      · intro W hB
        obtain ⟨z0, z1, z2, z3, z4⟩ := Hpl.out.below hB lbp
        dsimp only at z0 z1 z2 z3 z4
        go_simp; try rfl
      · rfl
      · dsimp only [List.set_cons_zero, List.set_cons_succ]
      iterate 4
        apply DetAt.op hok rfl rfl rfl rfl rfl
        · intro W hB
          go_simp; try rfl
        · rfl
        · dsimp only [List.set_cons_zero, List.set_cons_succ]
      apply DetAt.op hok rfl rfl rfl rfl rfl
      · intro W hB
        obtain ⟨z0, z1, z2, z3, z4⟩ := Hpl.out.below hB lbp
        dsimp only at z0 z1 z2 z3 z4
        go_simp; try rfl
      · rfl
      · dsimp only [List.set_cons_zero, List.set_cons_succ]
      apply DetAt.call hok rfl rfl rfl rfl rfl
      · intro W hB
        go_simp
        exact ⟨rfl, rfl⟩
      · intro W hB
        refine (S1.out W (HcR.out.below hB) col pcs hcs).mono ?_; rintro e W1 ⟨rfl, hb⟩; exact ⟨rfl, hB.trans (hb.mono hB.size)⟩
      · rfl
      · dsimp only [List.set_cons_zero, List.set_cons_succ]
      iterate 5
        apply DetAt.op hok rfl rfl rfl rfl rfl
        · intro W hB
          go_simp; try rfl
        · rfl
        · dsimp only [List.set_cons_zero, List.set_cons_succ]
      refine DetAt.done rfl ?_
      intro wx hBx
      have G0x := Lib.hid (rd hBx G0.out)
      have G1x := Lib.hid (rd hBx G1.out)
      have Hplx := Lib.hid (Hpl.out.below hBx lbp)
      have lbpx := Nat.lt_of_lt_of_le lbp hBx.size
      have HrX := Lib.hid (HrR.out.below hBx)
      have HRx := Lib.hid (HRr.out.below hBx)
      have HBx := Lib.hid (HBl.out.trans (hBx.mono HBl.out.size))
      clear hBx G0 G1 Hpl lbp HcR HrR HRr HBl HBr
      go_wp2_with (fail)
      refine wp_region_det (fun W => Below wx.heap.size wx W) 19 (by kernel_rfl) (by kernel_rfl) ((Dr.refl wx).step1.below _) fun hok => ?_
      iterate 2
        apply DetAt.op hok rfl rfl rfl rfl rfl
        · intro W hB
          go_simp; try rfl
        · rfl
        · dsimp only [List.set_cons_zero, List.set_cons_succ]
      apply DetAt.op hok rfl rfl rfl rfl rfl
      · intro W hB
        have s := rd hB G1x.out
        go_simp; try rfl
      · rfl
      · dsimp only [List.set_cons_zero, List.set_cons_succ]
      iterate 4
        apply DetAt.op hok rfl rfl rfl rfl rfl
        · intro W hB
          go_simp; try rfl
        · rfl
        · dsimp only [List.set_cons_zero, List.set_cons_succ]
      apply DetAt.op hok rfl rfl rfl rfl rfl
      · intro W hB
        obtain ⟨z0, z1, z2, z3, z4⟩ := Hplx.out.below hB lbpx
        dsimp only at z0 z1 z2 z3 z4
        go_simp; try rfl
      · rfl
      · dsimp only [List.set_cons_zero, List.set_cons_succ]
      iterate 4
        apply DetAt.op hok rfl rfl rfl rfl rfl
        · intro W hB
          go_simp; try rfl
        · rfl
        · dsimp only [List.set_cons_zero, List.set_cons_succ]
      apply DetAt.op hok rfl rfl rfl rfl rfl
      · intro W hB
        obtain ⟨z0, z1, z2, z3, z4⟩ := Hplx.out.below hB lbpx
        dsimp only at z0 z1 z2 z3 z4
        go_simp; try rfl
      · rfl
      · dsimp only [List.set_cons_zero, List.set_cons_succ]
      apply DetAt.call hok rfl rfl rfl rfl rfl
      · intro W hB
        go_simp
        exact ⟨rfl, rfl⟩
      · intro W hB
        refine (S2.out W (HrX.out.below hB) row prs hrs).mono ?_; rintro e W1 ⟨rfl, hb⟩; exact ⟨rfl, hB.trans (hb.mono hB.size)⟩
      · rfl
      · dsimp only [List.set_cons_zero, List.set_cons_succ]
      iterate 5
        apply DetAt.op hok rfl rfl rfl rfl rfl
        · intro W hB
          go_simp; try rfl
        · rfl
        · dsimp only [List.set_cons_zero, List.set_cons_succ]
      refine DetAt.done rfl ?_
      intro wy hBy
      have G0y := Lib.hid (rd hBy G0x.out)
      have G1y := Lib.hid (rd hBy G1x.out)
      have HRy := Lib.hid (HRx.out.below hBy)
      have HBy := Lib.hid (HBx.out.trans (hBy.mono HBx.out.size))
      clear hBy G0x G1x Hplx lbpx HrX HRx HBx
      obtain ⟨r, rb, ro, hrk, hra, hrr⟩ := HRy.out.get k hkr
      obtain rfl : r = rectOf cols rows g0 g1 ⟨node, row, col, prs, pcs⟩ := by rw [← hrk.out]; exact Hrk.out
      obtain ⟨y1, y2, y3, y4⟩ := Hwi.out
      obtain ⟨e1, e2⟩ := Bd1.out
      obtain ⟨e3, e4⟩ := Bd2.out
      obtain ⟨t1, t2⟩ := Sp1.out col pcs hcs
      obtain ⟨t3, t4⟩ := Sp2.out row prs hrs
      subst hra
      have Hrr := Lib.hid hrr
      obtain ⟨m0, m1, m2, m3⟩ := hrr
      unfold rectOf at m0 m1 m2 m3 y1 y2 y3 y4
      dsimp only [Int.toNat_natCast] at m0 m1 m2 m3 y1 y2 y3 y4
      clear hrk Hrr Hrk Hwi Sp1 Sp2 S1 S2 Within
      have q0 := Lib.hid G0y.out
      have q1 := Lib.hid G1y.out
      have M0 := Lib.hid m0
      have M1 := Lib.hid m1
      have M2 := Lib.hid m2
      have M3 := Lib.hid m3
      have d0 : Hid (decide (st g0 cols col < g0) = false) := Lib.hid (by simp; omega)
      have d1 : Hid (decide (st g1 rows row < g1) = false) := Lib.hid (by simp; omega)
      have d2 : Hid (decide (ext g0 cols - g0 < st g0 cols col + sp g0 cols col pcs) = false) := Lib.hid (by simp; omega)
      have d3 : Hid (decide (ext g1 rows - g1 < st g1 rows row + sp g1 rows row prs) = false) := Lib.hid (by simp; omega)
      have w0 := Lib.hid (IntWalk.i64_in (st g0 cols col + sp g0 cols col pcs) (by omega))
      have w1 := Lib.hid (IntWalk.i64_in (st g1 rows row + sp g1 rows row prs) (by omega))
      have w2 := Lib.hid (IntWalk.i64_in (ext g0 cols - g0) (by omega))
      have w3 := Lib.hid (IntWalk.i64_in (ext g1 rows - g1) (by omega))
      clear m0 m1 m2 m3
      go_wp2_with (fail)
      refine wp_region_det (fun W => Below wy.heap.size wy W) 80 (by kernel_rfl) (by kernel_rfl) ((Dr.refl wy).step1.below _) fun hok => ?_
      iterate 3
        apply DetAt.op hok rfl rfl rfl rfl rfl
        · intro W hB
          go_simp; try rfl
        · rfl
        · dsimp only [List.set_cons_zero, List.set_cons_succ]
      iterate 2
        apply DetAt.op_if hok rfl rfl rfl rfl rfl
        · intro W hB
          go_simp; try rfl
        · rfl
        · dsimp only [List.set_cons_zero, List.set_cons_succ]
      iterate 2
        apply DetAt.op hok rfl rfl rfl rfl rfl
        · intro W hB
          go_simp; try rfl
        · rfl
        · dsimp only [List.set_cons_zero, List.set_cons_succ]
      iterate 4
        apply DetAt.op_if hok rfl rfl rfl rfl rfl
        · intro W hB
          go_simp; try rfl
        · rfl
        · dsimp only [List.set_cons_zero, List.set_cons_succ]
      apply DetAt.op_if hok rfl rfl rfl rfl rfl
      · intro W hB
        have s := rd hB M2.out
        go_simp; try rfl
      · rfl
      · dsimp only [List.set_cons_zero, List.set_cons_succ]
      iterate 2
        apply DetAt.op_if hok rfl rfl rfl rfl rfl
        · intro W hB
          go_simp; try rfl
        · rfl
        · dsimp only [List.set_cons_zero, List.set_cons_succ]
      iterate 2
        apply DetAt.op hok rfl rfl rfl rfl rfl
        · intro W hB
          go_simp; try rfl
        · rfl
        · dsimp only [List.set_cons_zero, List.set_cons_succ]
      iterate 4
        apply DetAt.op_if hok rfl rfl rfl rfl rfl
        · intro W hB
          go_simp; try rfl
        · rfl
        · dsimp only [List.set_cons_zero, List.set_cons_succ]
      apply DetAt.op_if hok rfl rfl rfl rfl rfl
      · intro W hB
        have s := rd hB M3.out
        go_simp; try rfl
      · rfl
      · dsimp only [List.set_cons_zero, List.set_cons_succ]
      iterate 2
        apply DetAt.op_if hok rfl rfl rfl rfl rfl
        · intro W hB
          go_simp; try rfl
        · rfl
        · dsimp only [List.set_cons_zero, List.set_cons_succ]
      iterate 2
        apply DetAt.op hok rfl rfl rfl rfl rfl
        · intro W hB
          go_simp; try rfl
        · rfl
        · dsimp only [List.set_cons_zero, List.set_cons_succ]
      iterate 4
        apply DetAt.op_if hok rfl rfl rfl rfl rfl
        · intro W hB
          go_simp; try rfl
        · rfl
        · dsimp only [List.set_cons_zero, List.set_cons_succ]
      apply DetAt.op_if hok rfl rfl rfl rfl rfl
      · intro W hB
        have s := rd hB M0.out
        go_simp; try rfl
      · rfl
      · dsimp only [List.set_cons_zero, List.set_cons_succ]
      apply DetAt.op_if hok rfl rfl rfl rfl rfl
      · intro W hB
        go_simp; try rfl
      · rfl
      · dsimp only [List.set_cons_zero, List.set_cons_succ]
      apply DetAt.op_if hok rfl rfl rfl rfl rfl
      · intro W hB
        have s := rd hB q0.out
        go_simp; try rfl
      · rfl
      · dsimp only [List.set_cons_zero, List.set_cons_succ]
      apply DetAt.op_if hok rfl rfl rfl rfl rfl
      · intro W hB
        have s := d0.out
        go_simp; try rfl
      · rfl
      · dsimp only [List.set_cons_zero, List.set_cons_succ]
      iterate 2
        apply DetAt.op hok rfl rfl rfl rfl rfl
        · intro W hB
          go_simp; try rfl
        · rfl
        · dsimp only [List.set_cons_zero, List.set_cons_succ]
      iterate 4
        apply DetAt.op_if hok rfl rfl rfl rfl rfl
        · intro W hB
          go_simp; try rfl
        · rfl
        · dsimp only [List.set_cons_zero, List.set_cons_succ]
      apply DetAt.op_if hok rfl rfl rfl rfl rfl
      · intro W hB
        have s := rd hB M1.out
        go_simp; try rfl
      · rfl
      · dsimp only [List.set_cons_zero, List.set_cons_succ]
      apply DetAt.op_if hok rfl rfl rfl rfl rfl
      · intro W hB
        go_simp; try rfl
      · rfl
      · dsimp only [List.set_cons_zero, List.set_cons_succ]
      apply DetAt.op_if hok rfl rfl rfl rfl rfl
      · intro W hB
        have s := rd hB q1.out
        go_simp; try rfl
      · rfl
      · dsimp only [List.set_cons_zero, List.set_cons_succ]
      apply DetAt.op_if hok rfl rfl rfl rfl rfl
      · intro W hB
        have s := d1.out
        go_simp; try rfl
      · rfl
      · dsimp only [List.set_cons_zero, List.set_cons_succ]
      iterate 2
        apply DetAt.op hok rfl rfl rfl rfl rfl
        · intro W hB
          go_simp; try rfl
        · rfl
        · dsimp only [List.set_cons_zero, List.set_cons_succ]
      iterate 4
        apply DetAt.op_if hok rfl rfl rfl rfl rfl
        · intro W hB
          go_simp; try rfl
        · rfl
        · dsimp only [List.set_cons_zero, List.set_cons_succ]
      apply DetAt.op_if hok rfl rfl rfl rfl rfl
      · intro W hB
        have s := rd hB M0.out
        go_simp; try rfl
      · rfl
      · dsimp only [List.set_cons_zero, List.set_cons_succ]
      iterate 4
        apply DetAt.op_if hok rfl rfl rfl rfl rfl
        · intro W hB
          go_simp; try rfl
        · rfl
        · dsimp only [List.set_cons_zero, List.set_cons_succ]
      apply DetAt.op_if hok rfl rfl rfl rfl rfl
      · intro W hB
        have s := rd hB M2.out
        go_simp; try rfl
      · rfl
      · dsimp only [List.set_cons_zero, List.set_cons_succ]
      apply DetAt.op_if hok rfl rfl rfl rfl rfl
      · intro W hB
        have s := w0.out
        go_simp; try rfl
      · rfl
      · dsimp only [List.set_cons_zero, List.set_cons_succ]
      iterate 2
        apply DetAt.op_if hok rfl rfl rfl rfl rfl
        · intro W hB
          go_simp; try rfl
        · rfl
        · dsimp only [List.set_cons_zero, List.set_cons_succ]
      apply DetAt.op_if hok rfl rfl rfl rfl rfl
      · intro W hB
        have s := rd hB q0.out
        go_simp; try rfl
      · rfl
      · dsimp only [List.set_cons_zero, List.set_cons_succ]
      apply DetAt.op_if hok rfl rfl rfl rfl rfl
      · intro W hB
        have s := w2.out
        go_simp; try rfl
      · rfl
      · dsimp only [List.set_cons_zero, List.set_cons_succ]
      apply DetAt.op_if hok rfl rfl rfl rfl rfl
      · intro W hB
        have s := d2.out
        go_simp; try rfl
      · rfl
      · dsimp only [List.set_cons_zero, List.set_cons_succ]
      iterate 2
        apply DetAt.op hok rfl rfl rfl rfl rfl
        · intro W hB
          go_simp; try rfl
        · rfl
        · dsimp only [List.set_cons_zero, List.set_cons_succ]
      iterate 4
        apply DetAt.op_if hok rfl rfl rfl rfl rfl
        · intro W hB
          go_simp; try rfl
        · rfl
        · dsimp only [List.set_cons_zero, List.set_cons_succ]
      apply DetAt.op_if hok rfl rfl rfl rfl rfl
      · intro W hB
        have s := rd hB M1.out
        go_simp; try rfl
      · rfl
      · dsimp only [List.set_cons_zero, List.set_cons_succ]
      iterate 4
        apply DetAt.op_if hok rfl rfl rfl rfl rfl
        · intro W hB
          go_simp; try rfl
        · rfl
        · dsimp only [List.set_cons_zero, List.set_cons_succ]
      apply DetAt.op_if hok rfl rfl rfl rfl rfl
      · intro W hB
        have s := rd hB M3.out
        go_simp; try rfl
      · rfl
      · dsimp only [List.set_cons_zero, List.set_cons_succ]
      apply DetAt.op_if hok rfl rfl rfl rfl rfl
      · intro W hB
        have s := w1.out
        go_simp; try rfl
      · rfl
      · dsimp only [List.set_cons_zero, List.set_cons_succ]
      iterate 2
        apply DetAt.op_if hok rfl rfl rfl rfl rfl
        · intro W hB
          go_simp; try rfl
        · rfl
        · dsimp only [List.set_cons_zero, List.set_cons_succ]
      apply DetAt.op_if hok rfl rfl rfl rfl rfl
      · intro W hB
        have s := rd hB q1.out
        go_simp; try rfl
      · rfl
      · dsimp only [List.set_cons_zero, List.set_cons_succ]
      apply DetAt.op_if hok rfl rfl rfl rfl rfl
      · intro W hB
        have s := w3.out
        go_simp; try rfl
      · rfl
      · dsimp only [List.set_cons_zero, List.set_cons_succ]
      apply DetAt.op_if hok rfl rfl rfl rfl rfl
      · intro W hB
        have s := d3.out
        go_simp; try rfl
      · rfl
      · dsimp only [List.set_cons_zero, List.set_cons_succ]
      apply DetAt.op hok rfl rfl rfl rfl rfl
      · intro W hB
        go_simp; try rfl
      · rfl
      · dsimp only [List.set_cons_zero, List.set_cons_succ]
      refine DetAt.done rfl ?_
      intro wz hBz
      have HBz := Lib.hid (HBy.out.trans (hBz.mono HBy.out.size))
      clear hBz
      go_wp2_with (fail)
      go_roundw
      case rel => first | exact ⟨k + 1, by omega, by go_num, HBz.out⟩ | ((repeat apply Exists.intro); exact ⟨⟨k + 1, by omega, by go_num, HBz.out⟩, rfl⟩)
      case measure => simp [intOf]; omega
    · obtain rfl : k = ps.length := by omega
      have Hfin := Lib.hid (HB5.out.trans (hB.mono HB5.out.size))
      clear hB
      have hne : ((rs.length : Int) == (ps.length : Int)) = true := by rw [Hnl.out]; simp
      have hn2 := Hnl.out
      have Hne := Lib.hid hne
      go_wp2_with (fail)
      go_ret
      exact ⟨rfl, Hfin.out⟩

end Go.Proofs.Ytnjifmoclfgegaa
