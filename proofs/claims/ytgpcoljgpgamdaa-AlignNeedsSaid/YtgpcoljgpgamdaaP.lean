/- The contract of the reference's Lines. -/
import Derived.Test.YtgpcoljgpgamdaaN
namespace Go.Proofs.Ytgpcoljgpgamdaa
open Go.RowKit Go.Shelf
set_option linter.unusedVariables false

def RLinesSaid (R : Nat) (xs : List Cell) (w : World) (e : Ending) (w' : World) : Prop :=
  ∃ g, e = .returned (.slice (some ⟨g, 0, none⟩) R R) ∧ RowB w' g (linesC R xs) ∧ w.heap.size ≤ g ∧ Below w.heap.size w w'

set_option maxRecDepth 100000 in
set_option maxHeartbeats 4000000 in
theorem rlines17 (A : Option Addr) (xs : List Cell) (c : Nat) (R : Nat) (w : World) (hx : Cells w A xs) (hl : xs.length ≤ 17592186044416) (hr : rightC R xs = true) :
    Calls Try.prog 17 #[.int .i64 R, .slice A xs.length c] w (RLinesSaid R xs w) := by
  have Hx := Lib.hid hx
  unfold rightC at hr
  rw [Bool.and_eq_true, Bool.not_eq_true'] at hr
  have hR := (inR_iff.1 hr.1).2
  have Hok := Lib.hid (bads_all hr.2)
  have hmk := fun W => run_make_row' (P := Try.prog) 25 2 (.int .i64 0) 8 Try.underlying25 Try.info2 rfl .i64 .i64 R (by omega) (by omega) W
  clear hx hr
  go_enter Try.func17, Try.ntmps17
  go_wp2_with (fail)
  clear hmk
  have HR0 := Lib.hid (rowB_made w R)
  have HB0 : Hid (Below w.heap.size w (w.alloc (.cells (madeCells #[.int .i64 0] R) 2))) := Lib.hid ((Below.refl _ w).alloc (Nat.le_refl _) _)
  generalize w.alloc (.cells (madeCells #[.int .i64 0] R) 2) = w0 at *
  go_loopw [6] (fun i wr => ∃ k : Nat, k ≤ xs.length ∧ i = .int .i64 k ∧ Hid (RowB wr w.heap.size (linesOf R xs (basedTo xs k))) ∧ Hid (Below w.heap.size w wr)) (fun i _ => xs.length - (intOf i).toNat)
  case atStart => exact ⟨0, Nat.zero_le _, rfl, HR0, HB0⟩
  case round =>
    obtain ⟨k, hk, rfl, HRk, HB⟩ := hrel
    by_cases hlt : k < xs.length
    · obtain ⟨x, b, off, hxk, rfl, hc⟩ := (Hx.out.below HB.out).get k hlt
      have hok := Hok.out k hlt
      rw [hxk.out] at hok
      have Hc := Lib.hid hc
      have C := Lib.hid (based28 x wr)
      cases hb : isB x with
      | true =>
        rw [hb] at C
        have hj : k < xs.length ∧ isB (xs[k]?.getD default) = true := ⟨hlt, by rw [hxk.out]; exact hb⟩
        have hst : Hid (linesOf R xs (basedTo xs (k + 1)) = lineStep xs (linesOf R xs (basedTo xs k)) ⟨k, hj⟩) := Lib.hid (by rw [basedTo_yes hj, linesOf_snoc])
        unfold lineStep at hst
        dsimp only at hst
        rw [hxk.out] at hst
        have hbase := inR_iff.1 (okCell_base hok)
        unfold okCell at hok
        rw [Bool.and_eq_true] at hok
        have hw := of_decide_eq_true hok.1
        have hll := linesOf_len R xs (basedTo xs k)
        have hrk := HRk.out
        clear hb hok HRk hxk hj
        generalize linesOf R xs (basedTo xs k) = out at *
        obtain ⟨node, row, col, rws, cols, mn, mx, high, base, hbb, al⟩ := x
        obtain ⟨q0, q1, q2, q3, q4, q5, q6, q7, q8, q9, q10⟩ := hc
        dsimp only at hw hbase hst q0 q1 q2 q3 q4 q5 q6 q7 q8 q9 q10
        obtain ⟨row, rfl⟩ := Int.eq_ofNat_of_zero_le hw.1
        rw [Int.toNat_natCast] at hst
        have hrow : row < R := by omega
        unfold Cell.arr at C
        dsimp only at C
        go_wp2_with (fail)
        refine C.out.mono ?_
        rintro e W ⟨rfl, hbW⟩
        have i1 := hrk.below hbW hrk.lt
        have hcell := i1.cell row (by omega)
        have hc2 := Hc.out.below hbW Hc.out.lt
        have Z1 := Lib.hid hc2.2.1
        have Z8 := Lib.hid hc2.2.2.2.2.2.2.2.2.1
        have Z8b : Hid (W.cell? ⟨b, off + k * 11 + 5 + 3, none⟩ = some (.int .i64 base)) := Lib.hid hc2.2.2.2.2.2.2.2.2.1
        dsimp only at Z1 Z8
        generalize out[row]?.getD 0 = v at *
        have ZC := Lib.hid hcell
        have I1 := Lib.hid i1
        have HB2 := Lib.hid (HB.out.trans (hbW.mono HB.out.size))
        clear q0 q1 q2 q3 q4 q5 q6 q7 q8 q9 q10 hc2 hcell i1 hbW hrk Hc C hw HB
        by_cases hm : v < base
        · have Hst : Hid (linesOf R xs (basedTo xs (k + 1)) = out.set row base) := Lib.hid (by rw [hst.out, show max v base = base by omega])
          clear hst
          go_wp2_with (fail)
          refine wp_region_ord 24 [(0, true), (1, true), (2, true), (3, true), (4, true), (5, true), (6, true), (7, true), (8, true), (9, true), (10, true), (11, true), (12, true), (13, true), (14, true), (15, true), (16, true), (17, true), (18, true), (19, true), (20, true), (21, true), (22, true), (23, true), (24, false)] (by kernel_rfl) (by kernel_rfl) ?_
          intro Wc hWc
          iterate 6
            apply OrdAt.op (fun _ _ _ h => h) rfl rfl rfl
            · intro X hB
              go_simp
              try rfl
            · dsimp only [List.set_cons_zero, List.set_cons_succ]
          apply OrdAt.op (fun _ _ _ h => h) rfl rfl rfl
          · intro X hB
            have s := rd (hWc.tr hB) Z1.out
            go_simp
            try rfl
          · dsimp only [List.set_cons_zero, List.set_cons_succ]
          iterate 6
            apply OrdAt.op (fun _ _ _ h => h) rfl rfl rfl
            · intro X hB
              go_simp
              try rfl
            · dsimp only [List.set_cons_zero, List.set_cons_succ]
          apply OrdAt.op (fun _ _ _ h => h) rfl rfl rfl
          · intro X hB
            have s := rd (hWc.tr hB) Z1.out
            go_simp
            try rfl
          · dsimp only [List.set_cons_zero, List.set_cons_succ]
          apply OrdAt.op (fun _ _ _ h => h) rfl rfl rfl
          · intro X hB
            go_simp
            try rfl
          · dsimp only [List.set_cons_zero, List.set_cons_succ]
          apply OrdAt.op (fun _ _ _ h => h) rfl rfl rfl
          · intro X hB
            have s := rd (hWc.tr hB) ZC.out
            go_simp
            try rfl
          · dsimp only [List.set_cons_zero, List.set_cons_succ]
          iterate 5
            apply OrdAt.op (fun _ _ _ h => h) rfl rfl rfl
            · intro X hB
              go_simp
              try rfl
            · dsimp only [List.set_cons_zero, List.set_cons_succ]
          apply OrdAt.op (fun _ _ _ h => h) rfl rfl rfl
          · intro X hB
            have s := rd (hWc.tr hB) Z8.out
            have s := rd (hWc.tr hB) Z8b.out
            go_simp
            try rfl
          · dsimp only [List.set_cons_zero, List.set_cons_succ]
          iterate 2
            apply OrdAt.op (fun _ _ _ h => h) rfl rfl rfl
            · intro X hB
              go_simp
              try rfl
            · dsimp only [List.set_cons_zero, List.set_cons_succ]
          refine OrdAt.seq rfl rfl ?_
          intro X hB
          have hW2 := hWc.tr hB
          have f := (hW2.frozen (p := ⟨w.heap.size, row, none⟩) I1.out.lt).trans (I1.out.frozen row)
          have cc := rd hW2 ZC.out
          go_wp2_with (fail)
          refine ⟨.inl (by decide), OrdAt.done ?_⟩
          intro W3 hW3
          clear f cc
          have r2 := ((I1.out.below hW2 I1.out.lt).set row base).below hW3 (by have := I1.out.lt; have := hW2.size; simp only [World.setCell, Array.size_modify]; omega)
          have HR2 : Hid (RowB W3 w.heap.size (linesOf R xs (basedTo xs (k + 1)))) := Lib.hid (by rw [Hst.out]; exact r2)
          have HB3 := Lib.hid (((HB2.out.trans (hW2.mono HB2.out.size)).setCell (p := ⟨w.heap.size, row, none⟩) (Nat.le_refl _) (.int .i64 base)).trans (hW3.mono (by have := HB2.out.size; have := hW2.size; simp only [World.setCell, Array.size_modify]; omega)))
          clear r2 hW3 hW2 hB hWc
          go_wp2_with (fail)
          go_roundw
          case rel => exact ⟨k + 1, by omega, by go_num, HR2, HB3⟩
          case measure => simp [intOf]; omega
        · have Hst : Hid (linesOf R xs (basedTo xs (k + 1)) = out.set row v) := Lib.hid (by rw [hst.out, show max v base = v by omega])
          clear hst
          go_wp2_with (fail)
          refine wp_region_ord 24 [(0, true), (1, true), (2, true), (3, true), (4, true), (5, true), (6, true), (7, true), (8, true), (9, true), (10, true), (11, true), (12, true), (13, true), (14, true), (15, true), (16, true), (17, true), (18, true), (19, true), (20, true), (21, true), (22, true), (23, true), (24, false)] (by kernel_rfl) (by kernel_rfl) ?_
          intro Wc hWc
          iterate 6
            apply OrdAt.op (fun _ _ _ h => h) rfl rfl rfl
            · intro X hB
              go_simp
              try rfl
            · dsimp only [List.set_cons_zero, List.set_cons_succ]
          apply OrdAt.op (fun _ _ _ h => h) rfl rfl rfl
          · intro X hB
            have s := rd (hWc.tr hB) Z1.out
            go_simp
            try rfl
          · dsimp only [List.set_cons_zero, List.set_cons_succ]
          iterate 6
            apply OrdAt.op (fun _ _ _ h => h) rfl rfl rfl
            · intro X hB
              go_simp
              try rfl
            · dsimp only [List.set_cons_zero, List.set_cons_succ]
          apply OrdAt.op (fun _ _ _ h => h) rfl rfl rfl
          · intro X hB
            have s := rd (hWc.tr hB) Z1.out
            go_simp
            try rfl
          · dsimp only [List.set_cons_zero, List.set_cons_succ]
          apply OrdAt.op (fun _ _ _ h => h) rfl rfl rfl
          · intro X hB
            go_simp
            try rfl
          · dsimp only [List.set_cons_zero, List.set_cons_succ]
          apply OrdAt.op (fun _ _ _ h => h) rfl rfl rfl
          · intro X hB
            have s := rd (hWc.tr hB) ZC.out
            go_simp
            try rfl
          · dsimp only [List.set_cons_zero, List.set_cons_succ]
          iterate 5
            apply OrdAt.op (fun _ _ _ h => h) rfl rfl rfl
            · intro X hB
              go_simp
              try rfl
            · dsimp only [List.set_cons_zero, List.set_cons_succ]
          apply OrdAt.op (fun _ _ _ h => h) rfl rfl rfl
          · intro X hB
            have s := rd (hWc.tr hB) Z8.out
            have s := rd (hWc.tr hB) Z8b.out
            go_simp
            try rfl
          · dsimp only [List.set_cons_zero, List.set_cons_succ]
          iterate 2
            apply OrdAt.op (fun _ _ _ h => h) rfl rfl rfl
            · intro X hB
              go_simp
              try rfl
            · dsimp only [List.set_cons_zero, List.set_cons_succ]
          refine OrdAt.seq rfl rfl ?_
          intro X hB
          have hW2 := hWc.tr hB
          have f := (hW2.frozen (p := ⟨w.heap.size, row, none⟩) I1.out.lt).trans (I1.out.frozen row)
          have cc := rd hW2 ZC.out
          go_wp2_with (fail)
          refine ⟨.inl (by decide), OrdAt.done ?_⟩
          intro W3 hW3
          clear f cc
          have r2 := ((I1.out.below hW2 I1.out.lt).set row v).below hW3 (by have := I1.out.lt; have := hW2.size; simp only [World.setCell, Array.size_modify]; omega)
          have HR2 : Hid (RowB W3 w.heap.size (linesOf R xs (basedTo xs (k + 1)))) := Lib.hid (by rw [Hst.out]; exact r2)
          have HB3 := Lib.hid (((HB2.out.trans (hW2.mono HB2.out.size)).setCell (p := ⟨w.heap.size, row, none⟩) (Nat.le_refl _) (.int .i64 v)).trans (hW3.mono (by have := HB2.out.size; have := hW2.size; simp only [World.setCell, Array.size_modify]; omega)))
          clear r2 hW3 hW2 hB hWc
          go_wp2_with (fail)
          go_roundw
          case rel => exact ⟨k + 1, by omega, by go_num, HR2, HB3⟩
          case measure => simp [intOf]; omega
      | false =>
        have HR2 : Hid (RowB wr w.heap.size (linesOf R xs (basedTo xs (k + 1)))) := Lib.hid (by rw [basedTo_no (by rw [hxk.out]; exact hb)]; exact HRk.out)
        rw [hb] at C
        have hrl := HRk.out.lt
        clear hb hok HRk hxk
        obtain ⟨node, row, col, rws, cols, mn, mx, high, base, hbb, al⟩ := x
        obtain ⟨q0, q1, q2, q3, q4, q5, q6, q7, q8, q9, q10⟩ := hc
        dsimp only at q0 q1 q2 q3 q4 q5 q6 q7 q8 q9 q10
        unfold Cell.arr at C
        dsimp only at C
        go_wp2_with (fail)
        refine C.out.mono ?_
        rintro e W ⟨rfl, hbW⟩
        have HR3 := Lib.hid (HR2.out.below hbW hrl)
        have HB2 := Lib.hid (HB.out.trans (hbW.mono HB.out.size))
        clear hbW q0 q1 q2 q3 q4 q5 q6 q7 q8 q9 q10
        go_wp2_with (fail)
        go_roundw
        case rel => exact ⟨k + 1, by omega, by go_num, HR3, HB2⟩
        case measure => simp [intOf]; omega
    · obtain rfl : k = xs.length := by omega
      go_wp2_with (fail)
      go_ret
      exact ⟨_, rfl, HRk.out, Nat.le_refl _, HB.out⟩

end Go.Proofs.Ytgpcoljgpgamdaa
