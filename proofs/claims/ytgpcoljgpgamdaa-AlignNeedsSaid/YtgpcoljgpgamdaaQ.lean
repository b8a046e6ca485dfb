/- The contract of the reference's Needs. -/
import Derived.Test.YtgpcoljgpgamdaaP
namespace Go.Proofs.Ytgpcoljgpgamdaa
open Go.RowKit Go.Shelf
set_option linter.unusedVariables false

theorem grown_row {B : Nat} {a w w' : World} {tmp : Obj} {e : TypeId} {size : Nat} {v : Value} {n : Nat} {xs : List Value} (hB : Below B a w) (h : w.ownsRow B e size v n xs) (hg : (w.alloc tmp).grownBy w' v.ownBlock) (hs : B ≤ w.heap.size := by first | assumption | omega) : Below B a w' :=
  (hB.alloc hs tmp).grown hg (by simp; omega) (fun q e => by
    rcases h.2 with ⟨h0, _⟩ | ⟨g, cap, cur, h0, hg, _⟩
    · rw [h0] at e; simp [Value.ownBlock] at e
    · rw [h0] at e; simp [Value.ownBlock] at e; omega)

/-- a slice of numbers that a call hands back -/
def OwnInts (ys : List Int) (w : World) (e : Ending) (w' : World) : Prop :=
  ∃ A c, e = .returned (.slice A ys.length c) ∧ Ints w' A ys ∧ Below w.heap.size w w'

set_option maxRecDepth 100000 in
set_option maxHeartbeats 4000000 in
theorem rneeds18 (A : Option Addr) (xs : List Cell) (c : Nat) (R : Nat) (w : World) (hx : Cells w A xs) (hl : xs.length ≤ 1000) (hr : rightC R xs = true) :
    Calls Try.prog 18 #[.int .i64 R, .slice A xs.length c] w (OwnInts (xs.map (needOf (linesC R xs))) w) := by
  have H := Lib.hid (rlines17 A xs c R w hx (by omega) hr)
  have Hx := Lib.hid hx
  unfold rightC at hr
  rw [Bool.and_eq_true, Bool.not_eq_true'] at hr
  have hR := (inR_iff.1 hr.1).2
  have Hok := Lib.hid (bads_all hr.2)
  have Hlb : Hid (∀ i : Nat, 0 ≤ (linesC R xs)[i]?.getD 0 ∧ (linesC R xs)[i]?.getD 0 ≤ 1125899906842623) := Lib.hid (lines_bound R (xs := xs) (K := 1125899906842623) (by omega) (fun q => (inR_iff.1 (okCell_base (bads_all hr.2 q.1 q.2.1))).2) (basedTo xs xs.length))
  have Hll : Hid ((linesC R xs).length = R) := Lib.hid (linesOf_len _ _ _)
  obtain ⟨i0, hi, hz0, hz1, hz2⟩ := info_parts Try.info2
  have Hlen : Hid ((xs.map (needOf (linesC R xs))).length = xs.length) := Lib.hid (List.length_map _)
  clear hx hr
  generalize hLe : linesC R xs = L at *
  have HLe := Lib.hid hLe
  clear hLe
  go_enter Try.func18, Try.ntmps18
  go_wp2_with (fail)
  refine H.out.mono ?_
  rintro e w1 ⟨g, rfl, hrow, hg, hb1⟩
  rw [HLe.out] at hrow
  have HrowL := Lib.hid hrow
  have Hb1 := Lib.hid hb1
  have hsz1 := hb1.size
  have hBB : Hid (Below w1.heap.size w1 w1) := Lib.hid (Below.refl _ _)
  clear hrow hb1 H
  go_wp2_with (fail)
  go_loopw [6, 7] (fun v i wr => ∃ k : Nat, k ≤ xs.length ∧ i = .int .i64 k ∧ Hid (wr.ownsRow w1.heap.size 2 1 v k (((xs.take k).map (needOf L)).map (Value.int .i64))) ∧ Hid (Below w1.heap.size w1 wr)) (fun _ i _ => xs.length - (intOf i).toNat)
  case atStart => exact ⟨0, Nat.zero_le _, rfl, Lib.hid (World.ownsRow_nil _ _ _ _), hBB⟩
  case round =>
    obtain ⟨k, hk, rfl, hr, HB1⟩ := hrel
    have HB : Hid (Below w.heap.size w wr) := Lib.hid (Hb1.out.trans (HB1.out.mono Hb1.out.size))
    by_cases hlt : k < xs.length
    · obtain ⟨x, b, off, hxk, rfl, hc⟩ := (Hx.out.below HB.out).get k hlt
      have hok := Hok.out k hlt
      rw [hxk.out] at hok
      have Hc := Lib.hid hc
      have C := Lib.hid (based28 x wr)
      have hsnoc0 : ((xs.take k).map (needOf L)).map (Value.int .i64) ++ [.int .i64 (needOf L x)] = ((xs.take (k + 1)).map (needOf L)).map (Value.int .i64) := by
        have h1 : xs[k] = x := by have := hxk.out; rw [List.getElem?_eq_getElem hlt] at this; exact this
        rw [List.take_succ_eq_append_getElem hlt, h1]; simp
      cases hb : isB x with
      | true =>
        rw [hb] at C
        have hbase := inR_iff.1 (okCell_base hok)
        have hhigh := inR_iff.1 (okCell_high hok)
        unfold okCell at hok
        rw [Bool.and_eq_true] at hok
        have hw := of_decide_eq_true hok.1
        have hne : needOf L x = x.high + lineAt L x - x.base := by unfold needOf; rw [if_pos hb]; omega
        rw [hne] at hsnoc0
        unfold lineAt at hsnoc0
        obtain ⟨node, row, col, rws, cols, mn, mx, high, base, hbb, al⟩ := x
        obtain ⟨q0, q1, q2, q3, q4, q5, q6, q7, q8, q9, q10⟩ := hc
        dsimp only at hw hbase hhigh hsnoc0 q0 q1 q2 q3 q4 q5 q6 q7 q8 q9 q10
        obtain ⟨row, rfl⟩ := Int.eq_ofNat_of_zero_le hw.1
        rw [Int.toNat_natCast] at hsnoc0
        have hrow : row < R := by omega
        have hlr := Hlb.out row
        have q7b : wr.cell? ⟨b, off + k * 11 + 5 + 2, none⟩ = some (.int .i64 high) := q7
        have hLL := Hll.out
        have hlc := (HrowL.out.below HB1.out HrowL.out.lt).cell row (by omega)
        generalize L[row]?.getD 0 = vl at *
        have hsnoc := Lib.hid hsnoc0
        have HLC := Lib.hid hlc
        unfold Cell.arr at C
        dsimp only at C
        clear hb hok hxk hne hsnoc0 hlc hLL
        go_wp2_with (fail)
        refine C.out.mono ?_
        rintro e W ⟨rfl, hbW⟩
        have hc2 := Hc.out.below hbW Hc.out.lt
        have Z1 := Lib.hid hc2.2.1
        have Z8 := Lib.hid hc2.2.2.2.2.2.2.2.2.1
        have Z8b : Hid (W.cell? ⟨b, off + k * 11 + 5 + 3, none⟩ = some (.int .i64 base)) := Lib.hid hc2.2.2.2.2.2.2.2.2.1
        dsimp only at Z1 Z8
        have ZL := Lib.hid (rd hbW HLC.out)
        have W1 := Lib.hid (IntWalk.i64_in (high + vl) (by omega))
        have W2 := Lib.hid (IntWalk.i64_in (high + vl - base) (by omega))
        have HW := Lib.hid hbW
        clear q0 q1 q2 q3 q4 q5 q6 q7 q8 q9 q10 q7b hc2 hbW C
        go_wp2_with (fail)
        refine wp_region_ord 19 [(0, true), (1, true), (2, true), (3, true), (4, true), (5, true), (6, true), (7, true), (8, true), (9, true), (10, true), (11, true), (12, true), (13, true), (14, true), (15, true), (16, true), (17, true), (18, true)] (by kernel_rfl) (by kernel_rfl) ?_
        intro Wc hWc
        iterate 7
          apply OrdAt.op (fun _ _ _ h => h) rfl rfl rfl
          · intro X hB
            go_simp
            try rfl
          · dsimp only [List.set_cons_zero, List.set_cons_succ]
        apply OrdAt.op (fun _ _ _ h => h) rfl rfl rfl
        · intro X hB
          have s := rd (hWc.tr hB) Z1.out
          go_simp
          try rfl
        · dsimp only [List.set_cons_zero, List.set_cons_succ]
        apply OrdAt.op (fun _ _ _ h => h) rfl rfl rfl
        · intro X hB
          go_simp
          try rfl
        · dsimp only [List.set_cons_zero, List.set_cons_succ]
        apply OrdAt.op (fun _ _ _ h => h) rfl rfl rfl
        · intro X hB
          have s := rd (hWc.tr hB) ZL.out
          go_simp
          try rfl
        · dsimp only [List.set_cons_zero, List.set_cons_succ]
        apply OrdAt.op (fun _ _ _ h => h) rfl rfl rfl
        · intro X hB
          have s := W1.out
          go_simp
          try rfl
        · dsimp only [List.set_cons_zero, List.set_cons_succ]
        iterate 5
          apply OrdAt.op (fun _ _ _ h => h) rfl rfl rfl
          · intro X hB
            go_simp
            try rfl
          · dsimp only [List.set_cons_zero, List.set_cons_succ]
        apply OrdAt.op (fun _ _ _ h => h) rfl rfl rfl
        · intro X hB
          have s := rd (hWc.tr hB) Z8.out
          have s := rd (hWc.tr hB) Z8b.out
          go_simp
          try rfl
        · dsimp only [List.set_cons_zero, List.set_cons_succ]
        apply OrdAt.op (fun _ _ _ h => h) rfl rfl rfl
        · intro X hB
          have s := W2.out
          go_simp
          try rfl
        · dsimp only [List.set_cons_zero, List.set_cons_succ]
        apply OrdAt.op (fun _ _ _ h => h) rfl rfl rfl
        · intro X hB
          go_simp
          try rfl
        · dsimp only [List.set_cons_zero, List.set_cons_succ]
        refine OrdAt.done ?_
        intro W3 hW3
        have hX : Ext wr W3 := Ext.tr (Ext.tr HW.out hWc) hW3
        clear hWc hW3
        go_wp2_with (at_builtin; refine wpList_append_own _ rfl _ _ 25 rfl w1.heap.size 2 i0 (.int .i64 0) 1 8 Try.underlying25 hi hz0 hz1 hz2 rfl (by decide) _ _ _ rfl ((ownsRow_ext hr.out hX).alloc _) ⟨W3.heap.size, 0, none⟩ 1 1 [.int .i64 (high + vl - base)] rfl rfl (cell_one_new _ _ _) (by simp [Value.oneCell']) (by unfold maxLen; omega) (by omega) (by have := HB1.out.size; have := hX.size; simp; omega) ?_; intro v' w1' hown' hgrow _; rw [hsnoc.out] at hown'; have HO := Lib.hid hown'; have HBg := Lib.hid (grown_row (HB1.out.trans (hX.mono HB1.out.size)) (ownsRow_ext hr.out hX) hgrow (Nat.le_trans HB1.out.size hX.size)); clear hown' hgrow)
        go_roundw
        case rel => exact ⟨k + 1, by omega, by simp, HO, HBg⟩
        case measure => simp [intOf]; omega
      | false =>
        have hne : needOf L x = x.high := by unfold needOf; rw [if_neg (by rw [hb]; simp)]
        rw [hb] at C
        rw [hne] at hsnoc0
        have hsnoc := Lib.hid hsnoc0
        clear hb hok hxk hne hsnoc0
        obtain ⟨node, row, col, rws, cols, mn, mx, high, base, hbb, al⟩ := x
        obtain ⟨q0, q1, q2, q3, q4, q5, q6, q7, q8, q9, q10⟩ := hc
        dsimp only at hsnoc q0 q1 q2 q3 q4 q5 q6 q7 q8 q9 q10
        have q7b : wr.cell? ⟨b, off + k * 11 + 5 + 2, none⟩ = some (.int .i64 high) := q7
        unfold Cell.arr at C
        dsimp only at C
        go_wp2_with (fail)
        refine C.out.mono ?_
        rintro e W ⟨rfl, hbW⟩
        have hX : Ext wr W := hbW
        clear q0 q1 q2 q3 q4 q5 q6 q7 q8 q9 q10 q7b hbW C
        go_wp2_with (at_builtin; refine wpList_append_own _ rfl _ _ 25 rfl w1.heap.size 2 i0 (.int .i64 0) 1 8 Try.underlying25 hi hz0 hz1 hz2 rfl (by decide) _ _ _ rfl ((ownsRow_ext hr.out hX).alloc _) ⟨W.heap.size, 0, none⟩ 1 1 [.int .i64 (high)] rfl rfl (cell_one_new _ _ _) (by simp [Value.oneCell']) (by unfold maxLen; omega) (by omega) (by have := HB1.out.size; have := hX.size; simp; omega) ?_; intro v' w1' hown' hgrow _; rw [hsnoc.out] at hown'; have HO := Lib.hid hown'; have HBg := Lib.hid (grown_row (HB1.out.trans (hX.mono HB1.out.size)) (ownsRow_ext hr.out hX) hgrow (Nat.le_trans HB1.out.size hX.size)); clear hown' hgrow)
        go_roundw
        case rel => exact ⟨k + 1, by omega, by simp, HO, HBg⟩
        case measure => simp [intOf]; omega
    · obtain rfl : k = xs.length := by omega
      obtain ⟨A', c', rfl, hac, hcm, hin, _⟩ := ints_of_own hr.out (by simp)
      rw [List.take_of_length_le (Nat.le_refl _)] at hin
      have Hin := Lib.hid hin
      clear hin
      go_wp2_with (fail)
      go_ret
      exact ⟨A', c', by rw [Hlen.out]; rfl, Hin.out, HB.out⟩

end Go.Proofs.Ytgpcoljgpgamdaa
