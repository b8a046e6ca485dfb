/- Contract of the reference's Gutters: any bands, gaps. -/
import Derived.Test.YtnjifmoclfgegaaAB
namespace Go.Proofs.Ytnjifmoclfgegaa
open Go Go.RowKit Go.Shelf Ords
set_option linter.unusedVariables false

set_option maxHeartbeats 2000000 in
theorem c25_wrong (Ac Ar : Option Addr) (cols rows : List Int) (cc cr : Nat) (g0 g1 : Int) (w : World) (hc : Ints w Ac cols) (hr : Ints w Ar rows) (lc : cols.length ≤ 17592186044416) (lr : rows.length ≤ 17592186044416) (hw : right cols g0 = false ∨ right rows g1 = false) :
    Calls Try.prog 25 #[.slice Ac cols.length cc, .slice Ar rows.length cr, .agg #[.int .i64 g0, .int .i64 g1]] w fun e w' => e = .returned (.tuple #[.slice none 0 0, .int .i64 100]) ∧ Below w.heap.size w w' := by
  have hB0 : Below w.heap.size w (w.alloc (.cells #[.int .i64 g0, .int .i64 g1] 38)) := (Below.refl _ w).alloc (Nat.le_refl _) _
  have HB0 := Lib.hid hB0
  have Hc := Lib.hid (hc.below hB0)
  have Hr := Lib.hid (hr.below hB0)
  have H7 := Lib.hid (heap_alloc_new w (.cells #[.int .i64 g0, .int .i64 g1] 38))
  have D1 := Lib.hid (fun W (h : Ints W Ac cols) => c15 Ac cols cc g0 W h lc)
  have D2 := Lib.hid (fun W (h : Ints W Ar rows) => c15 Ar rows cr g1 W h lr)
  have Hw := Lib.hid hw
  clear hB0 hc hr hw
  generalize right cols g0 = x at *
  generalize right rows g1 = y at *
  go_enter Try.func25, Try.ntmps25
  go_wp2_with (fail)
  refine (D1.out _ Hc.out).mono ?_
  rintro e wa ⟨rfl, hd1⟩
  have hba := hd1.below (w.alloc (.cells #[.int .i64 g0, .int .i64 g1] 38)).heap.size
  have r7 := (hba.block _ (Array.getElem?_eq_some_iff.1 H7.out).1).trans H7.out
  have p0 : wa.cell? ⟨w.heap.size, 0, none⟩ = some (.int .i64 g0) := by unfold World.cell?; rw [r7]; rfl
  have p1 : wa.cell? ⟨w.heap.size, 1, none⟩ = some (.int .i64 g1) := by unfold World.cell?; rw [r7]; rfl
  have HBa := Lib.hid (HB0.out.trans (hba.mono HB0.out.size))
  have Hra := Lib.hid (Hr.out.below hba)
  have Hca := Lib.hid (Hc.out.below hba)
  have R7a := Lib.hid r7
  clear r7 hba hd1 HB0 Hc Hr H7 D1
  go_wp2_with (fail)
  refine (D2.out _ Hra.out).mono ?_
  rintro e wb ⟨rfl, hd1⟩
  have hbb := hd1.below wa.heap.size
  have r7 := (hbb.block _ (Array.getElem?_eq_some_iff.1 R7a.out).1).trans R7a.out
  clear p0 p1
  have p0 : wb.cell? ⟨w.heap.size, 0, none⟩ = some (.int .i64 g0) := by unfold World.cell?; rw [r7]; rfl
  have p1 : wb.cell? ⟨w.heap.size, 1, none⟩ = some (.int .i64 g1) := by unfold World.cell?; rw [r7]; rfl
  have HBb := Lib.hid (HBa.out.trans (hbb.mono HBa.out.size))
  have Hrb := Lib.hid (Hra.out.below hbb)
  have Hcb := Lib.hid (Hca.out.below hbb)
  have R7b := Lib.hid r7
  clear r7 hbb hd1 HBa Hra Hca R7a D2
  cases x with
  | false =>
    go_wp2
    go_ret2
    exact ⟨rfl, HBb.out⟩
  | true =>
    obtain rfl : y = false := by rcases Hw.out with h | h; cases h; exact h
    go_wp2
    go_ret2
    exact ⟨rfl, HBb.out⟩

set_option maxHeartbeats 2000000 in
theorem c25_none (Ac Ar : Option Addr) (cols rows : List Int) (cc cr : Nat) (g0 g1 : Int) (w : World) (hc : Ints w Ac cols) (hr : Ints w Ar rows) (hlc : cols.length ≤ 10000) (hw1 : right cols g0 = true) (hw2 : right rows g1 = true) (hn : noGut cols rows g0 g1 = true) :
    Calls Try.prog 25 #[.slice Ac cols.length cc, .slice Ar rows.length cr, .agg #[.int .i64 g0, .int .i64 g1]] w fun e w' => e = .returned (.tuple #[.slice none 0 0, .int .i64 0]) ∧ Below w.heap.size w w' := by
  have Hn := Lib.hid hn
  have lc : cols.length ≤ 17592186044416 := by omega
  have lr : rows.length ≤ 17592186044416 := by have := (right_iff.1 hw2).1; omega
  clear hn
  have hB0 : Below w.heap.size w (w.alloc (.cells #[.int .i64 g0, .int .i64 g1] 38)) := (Below.refl _ w).alloc (Nat.le_refl _) _
  have HB0 := Lib.hid hB0
  have Hc := Lib.hid (hc.below hB0)
  have Hr := Lib.hid (hr.below hB0)
  have H7 := Lib.hid (heap_alloc_new w (.cells #[.int .i64 g0, .int .i64 g1] 38))
  have D1 := Lib.hid (fun W (h : Ints W Ac cols) => c15 Ac cols cc g0 W h lc)
  have D2 := Lib.hid (fun W (h : Ints W Ar rows) => c15 Ar rows cr g1 W h lr)
  rw [hw1] at D1
  rw [hw2] at D2
  clear hB0 hc hr hw1 hw2
  go_enter Try.func25, Try.ntmps25
  go_wp2_with (fail)
  refine (D1.out _ Hc.out).mono ?_
  rintro e wa ⟨rfl, hd1⟩
  have hba := hd1.below (w.alloc (.cells #[.int .i64 g0, .int .i64 g1] 38)).heap.size
  have r7 := (hba.block _ (Array.getElem?_eq_some_iff.1 H7.out).1).trans H7.out
  have p0 : wa.cell? ⟨w.heap.size, 0, none⟩ = some (.int .i64 g0) := by unfold World.cell?; rw [r7]; rfl
  have p1 : wa.cell? ⟨w.heap.size, 1, none⟩ = some (.int .i64 g1) := by unfold World.cell?; rw [r7]; rfl
  have HBa := Lib.hid (HB0.out.trans (hba.mono HB0.out.size))
  have Hra := Lib.hid (Hr.out.below hba)
  have Hca := Lib.hid (Hc.out.below hba)
  have R7a := Lib.hid r7
  clear r7 hba hd1 HB0 Hc Hr H7 D1
  go_wp2_with (fail)
  refine (D2.out _ Hra.out).mono ?_
  rintro e wb ⟨rfl, hd1⟩
  have hbb := hd1.below wa.heap.size
  have r7 := (hbb.block _ (Array.getElem?_eq_some_iff.1 R7a.out).1).trans R7a.out
  clear p0 p1
  have p0 : wb.cell? ⟨w.heap.size, 0, none⟩ = some (.int .i64 g0) := by unfold World.cell?; rw [r7]; rfl
  have p1 : wb.cell? ⟨w.heap.size, 1, none⟩ = some (.int .i64 g1) := by unfold World.cell?; rw [r7]; rfl
  have HBb := Lib.hid (HBa.out.trans (hbb.mono HBa.out.size))
  have Hrb := Lib.hid (Hra.out.below hbb)
  have Hcb := Lib.hid (Hca.out.below hbb)
  have R7b := Lib.hid r7
  clear r7 hbb hd1 HBa Hra Hca R7a D2
  by_cases h1 : cols.length = 0
  · have t1 : ((cols.length : Int) == 0) = true := by rw [beq_iff_eq]; omega
    clear h1
    go_wp2
    go_ret2
    exact ⟨rfl, HBb.out⟩
  · have t1 : ((cols.length : Int) == 0) = false := by rw [beq_eq_false_iff_ne]; omega
    by_cases h2 : rows.length = 0
    · have t2 : ((rows.length : Int) == 0) = true := by rw [beq_iff_eq]; omega
      clear h1 h2
      go_wp2
      go_ret2
      exact ⟨rfl, HBb.out⟩
    · have t2 : ((rows.length : Int) == 0) = false := by rw [beq_eq_false_iff_ne]; omega
      have h3 : [g0, g1] = [0, 0] := by
        have := Hn.out
        unfold noGut at this
        rw [Bool.or_eq_true, Bool.or_eq_true, beq_iff_eq, beq_iff_eq, decide_eq_true_eq] at this
        rcases this with (h | h) | h
        · exact absurd h h1
        · exact absurd h h2
        · exact h
      obtain ⟨rfl, rfl⟩ : g0 = 0 ∧ g1 = 0 := by simpa using h3
      clear h1 h2 h3
      go_wp2
      go_ret2
      exact ⟨rfl, HBb.out⟩

/-- edges.Gutters and the reference's, of right arguments with something between -/
theorem gap_no {g0 g1 : Int} (h : decide ([g0, g1] = [0, 0]) = false) : (g0 == 0) = false ∨ ((g0 == 0) = true ∧ (g1 == 0) = false) := by
  by_cases h0 : g0 = 0
  · refine .inr ⟨by simp [h0], ?_⟩
    subst h0
    simpa using h
  · exact .inl (by simp [h0])

set_option maxHeartbeats 4000000 in
set_option maxRecDepth 100000 in
theorem c25_right1 (Ac Ar : Option Addr) (cols rows : List Int) (cc cr : Nat) (g0 g1 : Int) (w : World) (hc : Ints w Ac cols) (hr : Ints w Ar rows) (hlc : cols.length ≤ 40) (hlr : rows.length ≤ 40) (hw1 : right cols g0 = true) (hw2 : right rows g1 = true) (t1 : ((cols.length : Int) == 0) = false) (t2 : ((rows.length : Int) == 0) = false) (u1 : (g0 == 0) = false) :
    Calls Try.prog 25 #[.slice Ac cols.length cc, .slice Ar rows.length cr, .agg #[.int .i64 g0, .int .i64 g1]] w fun e w' => (∃ A c, e = .returned (.tuple #[.slice A (guts cols rows g0 g1).length c, .int .i64 0]) ∧ Rects w' A (guts cols rows g0 g1)) ∧ Below w.heap.size w w' := by
  have lc : cols.length ≤ 17592186044416 := by omega
  have lr : rows.length ≤ 17592186044416 := by omega
  have hB0 : Below w.heap.size w (w.alloc (.cells #[.int .i64 g0, .int .i64 g1] 38)) := (Below.refl _ w).alloc (Nat.le_refl _) _
  have HB0 := Lib.hid hB0
  have Hc := Lib.hid (hc.below hB0)
  have Hr := Lib.hid (hr.below hB0)
  have H7 := Lib.hid (heap_alloc_new w (.cells #[.int .i64 g0, .int .i64 g1] 38))
  have D1 := Lib.hid (fun W (h : Ints W Ac cols) => c15 Ac cols cc g0 W h lc)
  have D2 := Lib.hid (fun W (h : Ints W Ar rows) => c15 Ar rows cr g1 W h lr)
  rw [hw1] at D1
  rw [hw2] at D2
  have hb0 := (right_iff.1 hw1).2.1
  have hb1 := (right_iff.1 hw2).2.1
  have HS := Lib.hid (fun k (hk : k ≤ cols.length) => st_bound hw1 hk)
  have HT := Lib.hid (fun k (hk : k ≤ rows.length) => st_bound hw2 hk)
  have HE := Lib.hid (right_iff.1 hw1).2.2
  have HF := Lib.hid (right_iff.1 hw2).2.2
  have E18c := Lib.hid (fun W (h : Ints W Ac cols) => c18 Ac cols cc g0 W h hw1)
  have E18r := Lib.hid (fun W (h : Ints W Ar rows) => c18 Ar rows cr g1 W h hw2)
  have E19 := Lib.hid (fun W (h : Ints W Ar rows) => c19 Ar rows cr g1 W h hw2)
  clear hB0 hc hr hw1 hw2
  go_enter Try.func25, Try.ntmps25
  go_wp2_with (fail)
  refine (D1.out _ Hc.out).mono ?_
  rintro e wa ⟨rfl, hd1⟩
  have hba := hd1.below (w.alloc (.cells #[.int .i64 g0, .int .i64 g1] 38)).heap.size
  have r7 := (hba.block _ (Array.getElem?_eq_some_iff.1 H7.out).1).trans H7.out
  have p0 : wa.cell? ⟨w.heap.size, 0, none⟩ = some (.int .i64 g0) := by unfold World.cell?; rw [r7]; rfl
  have p1 : wa.cell? ⟨w.heap.size, 1, none⟩ = some (.int .i64 g1) := by unfold World.cell?; rw [r7]; rfl
  have HBa := Lib.hid (HB0.out.trans (hba.mono HB0.out.size))
  have Hra := Lib.hid (Hr.out.below hba)
  have Hca := Lib.hid (Hc.out.below hba)
  have R7a := Lib.hid r7
  clear r7 hba hd1 HB0 Hc Hr H7 D1
  go_wp2_with (fail)
  refine (D2.out _ Hra.out).mono ?_
  rintro e wb ⟨rfl, hd1⟩
  have hbb := hd1.below wa.heap.size
  have r7 := (hbb.block _ (Array.getElem?_eq_some_iff.1 R7a.out).1).trans R7a.out
  clear p0 p1
  have p0 : wb.cell? ⟨w.heap.size, 0, none⟩ = some (.int .i64 g0) := by unfold World.cell?; rw [r7]; rfl
  have p1 : wb.cell? ⟨w.heap.size, 1, none⟩ = some (.int .i64 g1) := by unfold World.cell?; rw [r7]; rfl
  have HBb := Lib.hid (HBa.out.trans (hbb.mono HBa.out.size))
  have Hrb := Lib.hid (Hra.out.below hbb)
  have Hcb := Lib.hid (Hca.out.below hbb)
  have R7b := Lib.hid r7
  clear r7 hbb hd1 HBa Hra Hca R7a D2
  go_wp2_with (fail)
  refine (E18c.out _ Hcb.out).mono ?_
  rintro e wc ⟨A1, c1, rfl, hi1, hb⟩
  have r7 := (hb.block _ (Array.getElem?_eq_some_iff.1 R7b.out).1).trans R7b.out
  clear p0 p1
  have p0 : wc.cell? ⟨w.heap.size, 0, none⟩ = some (.int .i64 g0) := by unfold World.cell?; rw [r7]; rfl
  have p1 : wc.cell? ⟨w.heap.size, 1, none⟩ = some (.int .i64 g1) := by unfold World.cell?; rw [r7]; rfl
  have HBc := Lib.hid (HBb.out.trans (hb.mono HBb.out.size))
  have Hrc := Lib.hid (Hrb.out.below hb)
  have Hcc := Lib.hid (Hcb.out.below hb)
  have R7c := Lib.hid r7
  have I1 := Lib.hid hi1
  clear r7 hb hi1 HBb Hrb Hcb R7b E18c
  go_wp2_with (fail)
  refine (E18r.out _ Hrc.out).mono ?_
  rintro e w4 ⟨A2, c2, rfl, hi2, hb⟩
  have r7 := (hb.block _ (Array.getElem?_eq_some_iff.1 R7c.out).1).trans R7c.out
  clear p0 p1
  have p0 : w4.cell? ⟨w.heap.size, 0, none⟩ = some (.int .i64 g0) := by unfold World.cell?; rw [r7]; rfl
  have p1 : w4.cell? ⟨w.heap.size, 1, none⟩ = some (.int .i64 g1) := by unfold World.cell?; rw [r7]; rfl
  have HB4 := Lib.hid (HBc.out.trans (hb.mono HBc.out.size))
  have Hr4 := Lib.hid (Hrc.out.below hb)
  have Hc4 := Lib.hid (Hcc.out.below hb)
  have R4 := Lib.hid r7
  have M1 := Lib.hid (I1.out.below hb)
  have M2 := Lib.hid hi2
  clear r7 hb hi2 HBc Hrc Hcc R7c I1 E18r
  go_wp2_with (fail)
  refine (E19.out _ Hr4.out).mono ?_
  rintro e w5 ⟨rfl, rfl⟩
  clear E19 p0 p1
  generalize hHe : ext g1 rows = high at *
  have HH : Hid (ext g1 rows = high) := Lib.hid hHe
  clear hHe
  go_wp2_with (fail)
  go_loopw [10, 14] (fun o i wr => ∃ k : Nat, k ≤ cols.length + 1 ∧ i = .int .i64 k ∧ Below w4.heap.size w4 wr ∧ wr.ownsRow w4.heap.size 47 4 o k (flat (upto (gutV g0 high cols) k))) (fun _ i _ => cols.length + 1 - (intOf i).toNat)
  case atStart => exact ⟨0, Nat.zero_le _, rfl, Below.refl _ _, World.ownsRow_nil _ _ _ _⟩
  case round =>
    obtain ⟨k, hk, rfl, hB, hown⟩ := hrel
    by_cases hlt : k < cols.length + 1
    · have r7 := (hB.block _ (Array.getElem?_eq_some_iff.1 R4.out).1).trans R4.out
      have tk : decide ((k : Int) ≤ (cols.length : Int)) = true := decide_eq_true (by omega)
      have HB := Lib.hid hB
      have Hown := Lib.hid hown
      rcases k with _ | j
      · have p0 : wr.cell? ⟨w.heap.size, 0, none⟩ = some (.int .i64 g0) := by unfold World.cell?; rw [r7]; rfl
        have tz : decide ((0 : Int) < 0) = false := by decide
        have Hup : Hid (upto (gutV g0 high cols) (0 + 1) = upto (gutV g0 high cols) 0 ++ [⟨0, 0, g0, high⟩]) := Lib.hid (by rw [upto_succ]; rfl)
        clear hB hown r7
        go_wp2_with (at_builtin; go_must (refine wpList_append_rect' rfl w4.heap.size _ _ rfl _ 0 _ rfl (own_turn Hown.out ((Below.refl _ wr).alloc (Nat.le_refl _) _)) wr.heap.size ⟨0, 0, g0, high⟩ rfl (RRow.new wr ⟨0, 0, g0, high⟩) (by omega) (by have := HB.out.size; simp; omega) ?_); intro v' W' hown' hg' _; have HB6 : Hid (Below w4.heap.size w4 W') := Lib.hid ((HB.out.alloc HB.out.size _).trans (grown_base (own_turn Hown.out ((Below.refl _ wr).alloc (Nat.le_refl _) _)) hg' (by have := HB.out.size; simp; omega))))
        go_roundw
        case rel => exact ⟨0 + 1, by omega, by go_num, HB6.out, by rw [Hup.out]; exact hown'⟩
        case measure => simp [intOf]
      · have hj : j < cols.length := by omega
        obtain ⟨x, b1, o1, hxq, rfl, hcx⟩ := (M1.out.below hB).get j (by rw [upto_length]; exact hj)
        obtain ⟨cw, bc, oc, hcq, rfl, hcc⟩ := (Hc4.out.below hB).get j hj
        rw [upto_get _ _ hj] at hxq
        have hxb := HS.out j (by omega)
        rw [hxq.out] at hxb
        have hcb := HE.out j hj
        rw [hcq.out] at hcb
        have tz : decide ((0 : Int) < (j : Int) + 1) = true := decide_eq_true (by omega)
        have sb : IntKind.i64.wrap (j : Int) = j := IntWalk.i64_in _ (by omega)
        have sx := IntWalk.i64_in (x + cw) (by omega)
        have ZX := Lib.hid hcx
        have ZC := Lib.hid hcc
        have R7 := Lib.hid r7
        have Hup : Hid (upto (gutV g0 high cols) (j + 1 + 1) = upto (gutV g0 high cols) (j + 1) ++ [⟨x + cw, 0, g0, high⟩]) := Lib.hid (by rw [upto_succ]; show _ ++ [(⟨st g0 cols j + cols[j]?.getD 0, 0, g0, high⟩ : Rect)] = _; rw [hxq.out, hcq.out])
        clear hB hown r7 hcx hcc hxq hcq
        go_wp2_with (fail)
        refine wp_region_ord 12 [(0, true), (1, true), (2, true), (3, true), (4, true), (5, true), (6, true), (7, true), (8, true), (9, true), (10, true), (11, true)] (by kernel_rfl) (by kernel_rfl) ?_
        intro Wc hWc
        iterate 2
          apply OrdAt.op (fun _ _ _ h => h) rfl rfl rfl
          · intro X hB
            go_simp
            try rfl
          · dsimp only [List.set_cons_zero, List.set_cons_succ]
        apply OrdAt.op (fun _ _ _ h => h) rfl rfl rfl
        · intro X hB
          have s := sb
          go_simp
          try rfl
        · dsimp only [List.set_cons_zero, List.set_cons_succ]
        apply OrdAt.op (fun _ _ _ h => h) rfl rfl rfl
        · intro X hB
          go_simp
          try rfl
        · dsimp only [List.set_cons_zero, List.set_cons_succ]
        apply OrdAt.op (fun _ _ _ h => h) rfl rfl rfl
        · intro X hB
          have s := rd (hWc.tr hB) ZX.out
          go_simp
          try rfl
        · dsimp only [List.set_cons_zero, List.set_cons_succ]
        iterate 2
          apply OrdAt.op (fun _ _ _ h => h) rfl rfl rfl
          · intro X hB
            go_simp
            try rfl
          · dsimp only [List.set_cons_zero, List.set_cons_succ]
        apply OrdAt.op (fun _ _ _ h => h) rfl rfl rfl
        · intro X hB
          have s := sb
          go_simp
          try rfl
        · dsimp only [List.set_cons_zero, List.set_cons_succ]
        apply OrdAt.op (fun _ _ _ h => h) rfl rfl rfl
        · intro X hB
          go_simp
          try rfl
        · dsimp only [List.set_cons_zero, List.set_cons_succ]
        apply OrdAt.op (fun _ _ _ h => h) rfl rfl rfl
        · intro X hB
          have s := rd (hWc.tr hB) ZC.out
          go_simp
          try rfl
        · dsimp only [List.set_cons_zero, List.set_cons_succ]
        apply OrdAt.op (fun _ _ _ h => h) rfl rfl rfl
        · intro X hB
          have s := sx
          go_simp
          try rfl
        · dsimp only [List.set_cons_zero, List.set_cons_succ]
        apply OrdAt.op (fun _ _ _ h => h) rfl rfl rfl
        · intro X hB
          go_simp
          try rfl
        · dsimp only [List.set_cons_zero, List.set_cons_succ]
        refine OrdAt.done ?_
        intro Wd hWd0
        have hWd := hWc.tr hWd0
        clear hWd0
        have r7 := (hWd.block _ (Array.getElem?_eq_some_iff.1 R7.out).1).trans R7.out
        have p0 : Wd.cell? ⟨w.heap.size, 0, none⟩ = some (.int .i64 g0) := by unfold World.cell?; rw [r7]; rfl
        have HBd := Lib.hid (HB.out.trans (hWd.mono HB.out.size))
        have Hownd := Lib.hid (own_turn Hown.out hWd)
        clear hWd r7
        go_wp2_with (at_builtin; go_must (refine wpList_append_rect' rfl w4.heap.size _ _ rfl _ (j + 1) _ rfl (own_turn Hownd.out ((Below.refl _ Wd).alloc (Nat.le_refl _) _)) Wd.heap.size ⟨x + cw, 0, g0, high⟩ rfl (RRow.new Wd ⟨x + cw, 0, g0, high⟩) (by omega) (by have := HBd.out.size; simp; omega) ?_); intro v' W' hown' hg' _; have HB6 : Hid (Below w4.heap.size w4 W') := Lib.hid ((HBd.out.alloc HBd.out.size _).trans (grown_base (own_turn Hownd.out ((Below.refl _ Wd).alloc (Nat.le_refl _) _)) hg' (by have := HBd.out.size; simp; omega))))
        go_roundw
        case rel => exact ⟨j + 1 + 1, by omega, by go_num, HB6.out, by rw [Hup.out]; exact hown'⟩
        case measure => simp [intOf]; omega
    · obtain rfl : k = cols.length + 1 := by omega
      have HB := Lib.hid hB
      have Hown : Hid (wr.ownsRow w4.heap.size 47 4 u10 (cols.length + 1 + 0 * cols.length) (flat (upto (gutV g0 high cols) (cols.length + 1) ++ rowsTo cols rows g0 g1 0))) := Lib.hid (by simpa [rowsTo] using hown)
      clear hB hown
      have tk : decide ((cols.length : Int) + 1 ≤ (cols.length : Int)) = false := decide_eq_false (by omega)
      rw [show ((cols.length + 1 : Nat) : Int) = (cols.length : Int) + 1 from by omega]
      go_wp2_with (fail)
      go_loopw [10, 16] (fun o i wr => ∃ k : Nat, k ≤ rows.length + 1 ∧ i = .int .i64 k ∧ Hid (Below w4.heap.size w4 wr) ∧ Hid (wr.ownsRow w4.heap.size 47 4 o (cols.length + 1 + k * cols.length) (flat (upto (gutV g0 high cols) (cols.length + 1) ++ rowsTo cols rows g0 g1 k)))) (fun _ i _ => rows.length + 1 - (intOf i).toNat)
      case atStart => exact ⟨0, Nat.zero_le _, rfl, HB, Hown⟩
      case round =>
        obtain ⟨k, hk, rfl, HBk, HOk⟩ := hrel
        by_cases hlt : k < rows.length + 1
        · have tk2 : decide ((k : Int) ≤ (rows.length : Int)) = true := decide_eq_true (by omega)
          have M2' := Lib.hid (M2.out.below HBk.out)
          have Hr4' := Lib.hid (Hr4.out.below HBk.out)
          have HG0 : Hid (∃ wk y, y = gx g1 rows k ∧ wk = wr) := Lib.hid ⟨_, _, rfl, rfl⟩
          clear HG0
          rcases k with _ | j
          · have tz : decide ((0 : Int) < 0) = false := by decide
            have tk3 : decide ((0 : Int) ≤ (rows.length : Int)) = true := decide_eq_true (by omega)
            have Hyk : Hid (gx g1 rows 0 = 0) := Lib.hid rfl
            rw [show ((0 : Nat) : Int) = 0 from rfl]
            go_wp2_with (fail)
            have HBd := HBk
            have HOd := HOk
            clear HBk HOk M2' Hr4'
            go_loopw [10, 18] (fun o i wr => ∃ q : Nat, q ≤ cols.length ∧ i = .int .i64 q ∧ Hid (Below w4.heap.size w4 wr) ∧ Hid (wr.ownsRow w4.heap.size 47 4 o (cols.length + 1 + (0) * cols.length + q) (flat ((upto (gutV g0 high cols) (cols.length + 1) ++ rowsTo cols rows g0 g1 (0)) ++ upto (gutH cols rows g0 g1 (0)) q)))) (fun _ i _ => cols.length - (intOf i).toNat)
            case atStart => exact ⟨0, Nat.zero_le _, rfl, HBd, by rw [show upto (gutH cols rows g0 g1 (0)) 0 = [] from rfl, List.append_nil, Nat.add_zero]; exact HOd⟩
            case round =>
              obtain ⟨q, hq, rfl, HBq, HOq⟩ := hrel
              by_cases hlq : q < cols.length
              · have tq : decide ((q : Int) < (cols.length : Int)) = true := decide_eq_true (by omega)
                obtain ⟨x', bx, ox, hxq', rfl, hcx'⟩ := (M1.out.below HBq.out).get q (by rw [upto_length]; exact hlq)
                obtain ⟨cw', bw, ow, hcq', rfl, hcc'⟩ := (Hc4.out.below HBq.out).get q hlq
                rw [upto_get _ _ hlq] at hxq'
                have r7 := (HBq.out.block _ (Array.getElem?_eq_some_iff.1 R4.out).1).trans R4.out
                have Hup : Hid (upto (gutH cols rows g0 g1 (0)) (q + 1) = upto (gutH cols rows g0 g1 (0)) q ++ [⟨x', 0, cw', g1⟩]) := Lib.hid (by rw [upto_succ]; unfold gutH; rw [hxq'.out, Hyk.out, hcq'.out])
                have ZX := Lib.hid hcx'
                have ZC := Lib.hid hcc'
                have Z1 : Hid (wr.cell? ⟨w.heap.size, 1, none⟩ = some (.int .i64 g1)) := Lib.hid (by unfold World.cell?; rw [r7]; rfl)
                clear hcx' hcc' r7 hxq' hcq'
                have hkc : (0) * cols.length ≤ 41 * 40 := Nat.mul_le_mul (by omega) hlc
                go_wp2_with (fail)
                refine wp_region_ord 14 [(0, true), (1, true), (2, true), (3, true), (4, true), (5, true), (6, true), (7, true), (8, true), (9, true), (10, true), (11, true), (12, true), (13, false), (14, false), (15, false)] (by kernel_rfl) (by kernel_rfl) ?_
                intro Wc hWc
                iterate 4
                  apply OrdAt.op (fun _ _ _ h => h) rfl rfl rfl
                  · intro X hB
                    go_simp
                    try rfl
                  · dsimp only [List.set_cons_zero, List.set_cons_succ]
                apply OrdAt.op (fun _ _ _ h => h) rfl rfl rfl
                · intro X hB
                  have s := rd (hWc.tr hB) ZX.out
                  go_simp
                  try rfl
                · dsimp only [List.set_cons_zero, List.set_cons_succ]
                iterate 4
                  apply OrdAt.op (fun _ _ _ h => h) rfl rfl rfl
                  · intro X hB
                    go_simp
                    try rfl
                  · dsimp only [List.set_cons_zero, List.set_cons_succ]
                apply OrdAt.op (fun _ _ _ h => h) rfl rfl rfl
                · intro X hB
                  have s := rd (hWc.tr hB) ZC.out
                  go_simp
                  try rfl
                · dsimp only [List.set_cons_zero, List.set_cons_succ]
                apply OrdAt.op (fun _ _ _ h => h) rfl rfl rfl
                · intro X hB
                  go_simp
                  try rfl
                · dsimp only [List.set_cons_zero, List.set_cons_succ]
                apply OrdAt.op (fun _ _ _ h => h) rfl rfl rfl
                · intro X hB
                  have s := rd (hWc.tr hB) Z1.out
                  go_simp
                  try rfl
                · dsimp only [List.set_cons_zero, List.set_cons_succ]
                apply OrdAt.op (fun _ _ _ h => h) rfl rfl rfl
                · intro X hB
                  go_simp
                  try rfl
                · dsimp only [List.set_cons_zero, List.set_cons_succ]
                refine OrdAt.seq rfl rfl ?_
                intro X hB
                go_wp2_with (fail)
                have hW4 := hWc.tr hB
                have hnew := Lib.hid (RRow.new X ⟨x', 0, cw', g1⟩)
                have hOX := Lib.hid (own_turn (own_turn HOq.out hW4) ((Below.refl _ X).alloc (Nat.le_refl _) (.cells (Rect.arr ⟨x', 0, cw', g1⟩) 47)))
                have hBX := Lib.hid ((HBq.out.trans (hW4.mono HBq.out.size)).alloc (Nat.le_trans HBq.out.size hW4.size) (.cells (Rect.arr ⟨x', 0, cw', g1⟩) 47))
                unfold Rect.arr at hnew hOX hBX
                dsimp only at hnew hOX hBX
                refine ⟨.inr ((Below.refl _ X).alloc (Nat.le_refl _) _), ?_⟩
                generalize X.alloc (.cells #[.int .i64 x', .int .i64 0, .int .i64 cw', .int .i64 g1] 47) = X2 at *
                clear hW4 hB
                refine OrdAt.seq rfl rfl ?_
                intro X3 hB
                refine wp_append_rect w4.heap.size _ _ rfl _ (cols.length + 1 + (0) * cols.length + q) _ rfl (own_turn hOX.out hB) X.heap.size ⟨x', 0, cw', g1⟩ rfl (hnew.out.turn hB) (by omega) (Nat.le_trans hBX.out.size hB.size) ?_
                intro v' W' hown' hg'
                have HB6 := Lib.hid ((hBX.out.trans (hB.mono hBX.out.size)).trans (grown_base (own_turn hOX.out hB) hg' (Nat.le_trans hBX.out.size hB.size)))
                have HO6 := Lib.hid hown'
                clear hown' hg' hOX hBX hB
                refine ⟨.inl (by decide), ?_⟩
                refine OrdAt.seq rfl rfl ?_
                intro X4 hB4
                have HB7 := Lib.hid (HB6.out.trans (hB4.mono HB6.out.size))
                have HO7 := Lib.hid (own_turn HO6.out hB4)
                clear hB4
                go_wp2_with (fail)
                refine ⟨.inl (by decide), OrdAt.done ?_⟩
                intro W3 hW3
                have HB8 := Lib.hid (HB7.out.trans (hW3.mono HB7.out.size))
                have HO8 := Lib.hid (own_turn HO7.out hW3)
                clear hW3
                go_wp2_with (fail)
                go_roundw
                case rel => exact ⟨q + 1, by omega, by go_num, HB8, by rw [Hup.out, ← List.append_assoc, ← Nat.add_assoc]; exact HO8⟩
                case measure => simp [intOf]; omega
              · obtain rfl : q = cols.length := by omega
                have tq : decide ((cols.length : Int) < (cols.length : Int)) = false := decide_eq_false (by omega)
                have HOn : Hid (wr.ownsRow w4.heap.size 47 4 u10 (cols.length + 1 + (0 + 1) * cols.length) (flat (upto (gutV g0 high cols) (cols.length + 1) ++ rowsTo cols rows g0 g1 (0 + 1)))) := Lib.hid (by
                  have h := HOq.out
                  rw [List.append_assoc, Nat.add_assoc, ← Nat.succ_mul] at h
                  exact h)
                clear HOq
                go_wp2_with (fail)
                go_roundw
                case rel => exact ⟨0 + 1, by omega, by go_num, HBq, HOn⟩
                case measure => first | (simp [intOf]; done) | (simp [intOf]; omega)
          · have hj : j < rows.length := by omega
            obtain ⟨x, b1, o1, hxq, rfl, hcx⟩ := M2'.out.get j (by rw [upto_length]; exact hj)
            obtain ⟨cw, bc, oc, hcq, rfl, hcc⟩ := Hr4'.out.get j hj
            rw [upto_get _ _ hj] at hxq
            have hxb := HT.out j (by omega)
            rw [hxq.out] at hxb
            have hcb := HF.out j hj
            rw [hcq.out] at hcb
            have tz : decide ((0 : Int) < (j : Int) + 1) = true := decide_eq_true (by omega)
            have tk3 : decide ((j : Int) + 1 ≤ (rows.length : Int)) = true := decide_eq_true (by omega)
            have sb : IntKind.i64.wrap (j : Int) = j := IntWalk.i64_in _ (by omega)
            have sx := IntWalk.i64_in (x + cw) (by omega)
            have Hyk : Hid (gx g1 rows (j + 1) = x + cw) := Lib.hid (by show st g1 rows j + rows[j]?.getD 0 = _; rw [hxq.out, hcq.out])
            have ZX := Lib.hid hcx
            have ZC := Lib.hid hcc
            clear hcx hcc hxq hcq M2' Hr4'
            rw [show ((j + 1 : Nat) : Int) = (j : Int) + 1 from by omega]
            go_wp2_with (fail)
            refine wp_region_ord 12 [(0, true), (1, true), (2, true), (3, true), (4, true), (5, true), (6, true), (7, true), (8, true), (9, true), (10, true), (11, true)] (by kernel_rfl) (by kernel_rfl) ?_
            intro Wc hWc
            iterate 2
              apply OrdAt.op (fun _ _ _ h => h) rfl rfl rfl
              · intro X hB
                go_simp
                try rfl
              · dsimp only [List.set_cons_zero, List.set_cons_succ]
            apply OrdAt.op (fun _ _ _ h => h) rfl rfl rfl
            · intro X hB
              have s := sb
              go_simp
              try rfl
            · dsimp only [List.set_cons_zero, List.set_cons_succ]
            apply OrdAt.op (fun _ _ _ h => h) rfl rfl rfl
            · intro X hB
              go_simp
              try rfl
            · dsimp only [List.set_cons_zero, List.set_cons_succ]
            apply OrdAt.op (fun _ _ _ h => h) rfl rfl rfl
            · intro X hB
              have s := rd (hWc.tr hB) ZX.out
              go_simp
              try rfl
            · dsimp only [List.set_cons_zero, List.set_cons_succ]
            iterate 2
              apply OrdAt.op (fun _ _ _ h => h) rfl rfl rfl
              · intro X hB
                go_simp
                try rfl
              · dsimp only [List.set_cons_zero, List.set_cons_succ]
            apply OrdAt.op (fun _ _ _ h => h) rfl rfl rfl
            · intro X hB
              have s := sb
              go_simp
              try rfl
            · dsimp only [List.set_cons_zero, List.set_cons_succ]
            apply OrdAt.op (fun _ _ _ h => h) rfl rfl rfl
            · intro X hB
              go_simp
              try rfl
            · dsimp only [List.set_cons_zero, List.set_cons_succ]
            apply OrdAt.op (fun _ _ _ h => h) rfl rfl rfl
            · intro X hB
              have s := rd (hWc.tr hB) ZC.out
              go_simp
              try rfl
            · dsimp only [List.set_cons_zero, List.set_cons_succ]
            apply OrdAt.op (fun _ _ _ h => h) rfl rfl rfl
            · intro X hB
              have s := sx
              go_simp
              try rfl
            · dsimp only [List.set_cons_zero, List.set_cons_succ]
            apply OrdAt.op (fun _ _ _ h => h) rfl rfl rfl
            · intro X hB
              go_simp
              try rfl
            · dsimp only [List.set_cons_zero, List.set_cons_succ]
            refine OrdAt.done ?_
            intro Wd hWd0
            have hWd := hWc.tr hWd0
            clear hWd0
            have HBd := Lib.hid (HBk.out.trans (hWd.mono HBk.out.size))
            have HOd := Lib.hid (own_turn HOk.out hWd)
            clear hWd
            go_wp2_with (fail)
            go_loopw [10, 18] (fun o i wr => ∃ q : Nat, q ≤ cols.length ∧ i = .int .i64 q ∧ Hid (Below w4.heap.size w4 wr) ∧ Hid (wr.ownsRow w4.heap.size 47 4 o (cols.length + 1 + (j + 1) * cols.length + q) (flat ((upto (gutV g0 high cols) (cols.length + 1) ++ rowsTo cols rows g0 g1 (j + 1)) ++ upto (gutH cols rows g0 g1 (j + 1)) q)))) (fun _ i _ => cols.length - (intOf i).toNat)
            case atStart => exact ⟨0, Nat.zero_le _, rfl, HBd, by rw [show upto (gutH cols rows g0 g1 (j + 1)) 0 = [] from rfl, List.append_nil, Nat.add_zero]; exact HOd⟩
            case round =>
              obtain ⟨q, hq, rfl, HBq, HOq⟩ := hrel
              by_cases hlq : q < cols.length
              · have tq : decide ((q : Int) < (cols.length : Int)) = true := decide_eq_true (by omega)
                obtain ⟨x', bx, ox, hxq', rfl, hcx'⟩ := (M1.out.below HBq.out).get q (by rw [upto_length]; exact hlq)
                obtain ⟨cw', bw, ow, hcq', rfl, hcc'⟩ := (Hc4.out.below HBq.out).get q hlq
                rw [upto_get _ _ hlq] at hxq'
                have r7 := (HBq.out.block _ (Array.getElem?_eq_some_iff.1 R4.out).1).trans R4.out
                have Hup : Hid (upto (gutH cols rows g0 g1 (j + 1)) (q + 1) = upto (gutH cols rows g0 g1 (j + 1)) q ++ [⟨x', (x + cw), cw', g1⟩]) := Lib.hid (by rw [upto_succ]; unfold gutH; rw [hxq'.out, Hyk.out, hcq'.out])
                have ZX := Lib.hid hcx'
                have ZC := Lib.hid hcc'
                have Z1 : Hid (wr.cell? ⟨w.heap.size, 1, none⟩ = some (.int .i64 g1)) := Lib.hid (by unfold World.cell?; rw [r7]; rfl)
                clear hcx' hcc' r7 hxq' hcq'
                have hkc : (j + 1) * cols.length ≤ 41 * 40 := Nat.mul_le_mul (by omega) hlc
                go_wp2_with (fail)
                refine wp_region_ord 14 [(0, true), (1, true), (2, true), (3, true), (4, true), (5, true), (6, true), (7, true), (8, true), (9, true), (10, true), (11, true), (12, true), (13, false), (14, false), (15, false)] (by kernel_rfl) (by kernel_rfl) ?_
                intro Wc hWc
                iterate 4
                  apply OrdAt.op (fun _ _ _ h => h) rfl rfl rfl
                  · intro X hB
                    go_simp
                    try rfl
                  · dsimp only [List.set_cons_zero, List.set_cons_succ]
                apply OrdAt.op (fun _ _ _ h => h) rfl rfl rfl
                · intro X hB
                  have s := rd (hWc.tr hB) ZX.out
                  go_simp
                  try rfl
                · dsimp only [List.set_cons_zero, List.set_cons_succ]
                iterate 4
                  apply OrdAt.op (fun _ _ _ h => h) rfl rfl rfl
                  · intro X hB
                    go_simp
                    try rfl
                  · dsimp only [List.set_cons_zero, List.set_cons_succ]
                apply OrdAt.op (fun _ _ _ h => h) rfl rfl rfl
                · intro X hB
                  have s := rd (hWc.tr hB) ZC.out
                  go_simp
                  try rfl
                · dsimp only [List.set_cons_zero, List.set_cons_succ]
                apply OrdAt.op (fun _ _ _ h => h) rfl rfl rfl
                · intro X hB
                  go_simp
                  try rfl
                · dsimp only [List.set_cons_zero, List.set_cons_succ]
                apply OrdAt.op (fun _ _ _ h => h) rfl rfl rfl
                · intro X hB
                  have s := rd (hWc.tr hB) Z1.out
                  go_simp
                  try rfl
                · dsimp only [List.set_cons_zero, List.set_cons_succ]
                apply OrdAt.op (fun _ _ _ h => h) rfl rfl rfl
                · intro X hB
                  go_simp
                  try rfl
                · dsimp only [List.set_cons_zero, List.set_cons_succ]
                refine OrdAt.seq rfl rfl ?_
                intro X hB
                go_wp2_with (fail)
                have hW4 := hWc.tr hB
                have hnew := Lib.hid (RRow.new X ⟨x', (x + cw), cw', g1⟩)
                have hOX := Lib.hid (own_turn (own_turn HOq.out hW4) ((Below.refl _ X).alloc (Nat.le_refl _) (.cells (Rect.arr ⟨x', (x + cw), cw', g1⟩) 47)))
                have hBX := Lib.hid ((HBq.out.trans (hW4.mono HBq.out.size)).alloc (Nat.le_trans HBq.out.size hW4.size) (.cells (Rect.arr ⟨x', (x + cw), cw', g1⟩) 47))
                unfold Rect.arr at hnew hOX hBX
                dsimp only at hnew hOX hBX
                refine ⟨.inr ((Below.refl _ X).alloc (Nat.le_refl _) _), ?_⟩
                generalize X.alloc (.cells #[.int .i64 x', .int .i64 (x + cw), .int .i64 cw', .int .i64 g1] 47) = X2 at *
                clear hW4 hB
                refine OrdAt.seq rfl rfl ?_
                intro X3 hB
                refine wp_append_rect w4.heap.size _ _ rfl _ (cols.length + 1 + (j + 1) * cols.length + q) _ rfl (own_turn hOX.out hB) X.heap.size ⟨x', (x + cw), cw', g1⟩ rfl (hnew.out.turn hB) (by omega) (Nat.le_trans hBX.out.size hB.size) ?_
                intro v' W' hown' hg'
                have HB6 := Lib.hid ((hBX.out.trans (hB.mono hBX.out.size)).trans (grown_base (own_turn hOX.out hB) hg' (Nat.le_trans hBX.out.size hB.size)))
                have HO6 := Lib.hid hown'
                clear hown' hg' hOX hBX hB
                refine ⟨.inl (by decide), ?_⟩
                refine OrdAt.seq rfl rfl ?_
                intro X4 hB4
                have HB7 := Lib.hid (HB6.out.trans (hB4.mono HB6.out.size))
                have HO7 := Lib.hid (own_turn HO6.out hB4)
                clear hB4
                go_wp2_with (fail)
                refine ⟨.inl (by decide), OrdAt.done ?_⟩
                intro W3 hW3
                have HB8 := Lib.hid (HB7.out.trans (hW3.mono HB7.out.size))
                have HO8 := Lib.hid (own_turn HO7.out hW3)
                clear hW3
                go_wp2_with (fail)
                go_roundw
                case rel => exact ⟨q + 1, by omega, by go_num, HB8, by rw [Hup.out, ← List.append_assoc, ← Nat.add_assoc]; exact HO8⟩
                case measure => simp [intOf]; omega
              · obtain rfl : q = cols.length := by omega
                have tq : decide ((cols.length : Int) < (cols.length : Int)) = false := decide_eq_false (by omega)
                have HOn : Hid (wr.ownsRow w4.heap.size 47 4 u10 (cols.length + 1 + (j + 1 + 1) * cols.length) (flat (upto (gutV g0 high cols) (cols.length + 1) ++ rowsTo cols rows g0 g1 (j + 1 + 1)))) := Lib.hid (by
                  have h := HOq.out
                  rw [List.append_assoc, Nat.add_assoc, ← Nat.succ_mul] at h
                  exact h)
                clear HOq
                go_wp2_with (fail)
                go_roundw
                case rel => exact ⟨j + 1 + 1, by omega, by go_num, HBq, HOn⟩
                case measure => first | (simp [intOf]; done) | (simp [intOf]; omega)
        · obtain rfl : k = rows.length + 1 := by omega
          have tk3 : decide ((rows.length : Int) + 1 ≤ (rows.length : Int)) = false := decide_eq_false (by omega)
          have hlen : (guts cols rows g0 g1).length = cols.length + 1 + (rows.length + 1) * cols.length := by unfold guts; rw [List.length_append, upto_length, rowsTo_length]
          obtain ⟨A, c, rfl, hA⟩ := own_rects HOk.out (by rw [List.length_append, upto_length, rowsTo_length])
          have HA : Hid (Rects wr A (guts cols rows g0 g1)) := Lib.hid (by unfold guts; rw [HH.out]; exact hA)
          have HBe : Hid (Below w.heap.size w wr) := Lib.hid (HB4.out.trans (HBk.out.mono HB4.out.size))
          have Hlen := Lib.hid hlen
          clear hA hlen HOk
          go_wp2_with (fail)
          go_ret2
          refine ⟨⟨A, c, by rw [Hlen.out]; rfl, HA.out⟩, HBe.out⟩

end Go.Proofs.Ytnjifmoclfgegaa
