/- The contract of edges.Cells. -/
import Derived.Test.YtnjifmoclfgegaaK1
import Derived.Test.YtnjifmoclfgegaaInv2
namespace Go.Proofs.Ytnjifmoclfgegaa
open Go.RowKit Go.Shelf
set_option linter.unusedVariables false

/-- the rectangle of a place -/
def rectOf (cols rows : List Int) (g0 g1 : Int) (p : Place) : Rect := ⟨st g0 cols p.col.toNat, st g1 rows p.row.toNat, sp g0 cols p.col.toNat p.cols.toNat, sp g1 rows p.row.toNat p.rows.toNat⟩
def rectAt (cols rows : List Int) (g0 g1 : Int) (ps : List Place) (k : Nat) : Rect := rectOf cols rows g0 g1 (ps[k]?.getD default)
def allFit (ps : List Place) (nr nc : Int) : Bool := ps.all fun p => fits p nr nc
def CellsSaid (cols rows : List Int) (g0 g1 : Int) (ps : List Place) (w : World) (e : Ending) (w' : World) : Prop :=
  (allFit ps rows.length cols.length = true → ∃ A c, e = .returned (.tuple #[.slice A ps.length c, .int .i64 0]) ∧ Rects w' A (upto (rectAt cols rows g0 g1 ps) ps.length)) ∧
  (allFit ps rows.length cols.length = false → e = .returned (.tuple #[.slice none 0 0, .int .i64 100])) ∧ Below w.heap.size w w'

theorem frame94 (tmps : Array Value) (hs : tmps.size = 94) : Ending.returned (Value.tuple #[(({ tmps := (tmps.setIfInBounds 8 (Value.slice none 0 0)).setIfInBounds 9 (Value.int IntKind.i64 100), defers := [] } : Act).tmps.getD 8 undef), (({ tmps := (tmps.setIfInBounds 8 (Value.slice none 0 0)).setIfInBounds 9 (Value.int IntKind.i64 100), defers := [] } : Act).tmps.getD 9 undef)]) = Ending.returned (Value.tuple #[Value.slice none 0 0, Value.int IntKind.i64 100]) := by
  simp [Array.getD_eq_getD_getElem?, hs]

set_option maxRecDepth 100000 in
set_option maxHeartbeats 4000000 in
theorem c21_wrong (A Ac Ar : Option Addr) (n c : Nat) (cols rows : List Int) (cc cr : Nat) (g0 g1 : Int) (w : World) (hc : Ints w Ac cols) (hr : Ints w Ar rows) (lc : cols.length ≤ 17592186044416) (lr : rows.length ≤ 17592186044416) (hw : right cols g0 = false ∨ right rows g1 = false) :
    Calls Try.prog 21 #[.slice A n c, .slice Ac cols.length cc, .slice Ar rows.length cr, .agg #[.int .i64 g0, .int .i64 g1]] w fun e w' => e = .returned (.tuple #[.slice none 0 0, .int .i64 100]) ∧ Below w.heap.size w w' := by
  have hB0 : Below w.heap.size w (w.alloc (.cells #[.int .i64 g0, .int .i64 g1] 38)) := (Below.refl _ w).alloc (Nat.le_refl _) _
  have HB0 := Lib.hid hB0
  have Hc := Lib.hid (hc.below hB0)
  have Hr := Lib.hid (hr.below hB0)
  have r7 := heap_alloc_new w (.cells #[.int .i64 g0, .int .i64 g1] 38)
  have H7 := Lib.hid r7
  clear hB0 hc hr r7
  have H1 : ∀ W, Ints W Ac cols → Calls Try.prog 12 #[.slice Ac cols.length cc, .int .i64 g0] W fun e w' => ∃ A' n' c' x, e = .returned (.tuple #[.slice A' n' c', .int .i64 x]) ∧ (right cols g0 = false → x = 100) ∧ (right cols g0 = true → x = 0) ∧ Below W.heap.size W w' := fun W h => by
    cases hr : right cols g0 with
    | false => exact (c12_wrong Ac cols cc g0 W h lc hr).mono fun e w' ⟨h1, h2⟩ => ⟨none, 0, 0, 100, h1, fun _ => rfl, fun h => by simp at h, h2⟩
    | true => exact (c12_right Ac cols cc g0 W h hr).mono fun e w' ⟨A', c', h1, h2, h3, h4⟩ => ⟨A', _, c', 0, h1, fun h => by simp at h, fun _ => rfl, h4⟩
  have H2 : ∀ W, Ints W Ar rows → Calls Try.prog 12 #[.slice Ar rows.length cr, .int .i64 g1] W fun e w' => ∃ A' n' c' x, e = .returned (.tuple #[.slice A' n' c', .int .i64 x]) ∧ (right rows g1 = false → x = 100) ∧ (right rows g1 = true → x = 0) ∧ Below W.heap.size W w' := fun W h => by
    cases hr : right rows g1 with
    | false => exact (c12_wrong Ar rows cr g1 W h lr hr).mono fun e w' ⟨h1, h2⟩ => ⟨none, 0, 0, 100, h1, fun _ => rfl, fun h => by simp at h, h2⟩
    | true => exact (c12_right Ar rows cr g1 W h hr).mono fun e w' ⟨A', c', h1, h2, h3, h4⟩ => ⟨A', _, c', 0, h1, fun h => by simp at h, fun _ => rfl, h4⟩
  have K1 := Lib.hid H1
  have K2 := Lib.hid H2
  have Hw := Lib.hid hw
  clear H1 H2 hw
  go_enter Try.func21, Try.ntmps21
  go_wp2
  refine wp_scope_jumps 0 (fun a w' => a.defers = [] ∧ a.tmps.size = 94 ∧ Below w.heap.size w w') (fun _ _ => 0) rfl ?first ?pass
  case first =>
    go_wp2_with (fail)
    refine (K1.out _ Hc.out).mono ?_
    rintro e w1 ⟨A1, n1, c1, x1, rfl, ha, hb, hb1⟩
    have Ha := Lib.hid ha
    have Hb := Lib.hid hb
    have r7 := (hb1.block _ (Array.getElem?_eq_some_iff.1 H7.out).1).trans H7.out
    have p0 : w1.cell? ⟨w.heap.size, 0, none⟩ = some (.int .i64 g0) := by simp [World.cell?, r7]
    have p1 : w1.cell? ⟨w.heap.size, 1, none⟩ = some (.int .i64 g1) := by simp [World.cell?, r7]
    have hB1 := HB0.out.trans (hb1.mono HB0.out.size)
    have HB1 := Lib.hid hB1
    have Hr1 := Lib.hid (Hr.out.below hb1)
    clear ha hb r7 hB1 hb1
    go_wp2_with (fail)
    refine (K2.out _ Hr1.out).mono ?_
    rintro e w2 ⟨A2, n2, c2, x2, rfl, ha, hb, hb2⟩
    have hB2 := HB1.out.trans (hb2.mono HB1.out.size)
    have HB2 := Lib.hid hB2
    clear hB2 hb2 p0 p1
    by_cases hx : x1 = 0
    · subst hx
      have h1 : right cols g0 = true := by
        cases h : right cols g0 with
        | true => rfl
        | false => exact absurd (Ha.out h) (by decide)
      obtain rfl := ha (by rcases Hw.out with h | h; rw [h1] at h; simp at h; exact h)
      clear h1 hb
      go_wp2
      refine wp_goto ?_
      exact ⟨rfl, rfl, rfl, HB2.out⟩
    · have hne : x1 = 100 := by
        cases h : right cols g0 with
        | false => exact Ha.out h
        | true => exact absurd (Hb.out h) hx
      subst hne
      clear hx ha hb
      go_wp2
      refine wp_goto ?_
      exact ⟨rfl, rfl, rfl, HB2.out⟩
  case pass =>
    rintro ⟨tmps, defers⟩ W ⟨hd, hs, hB⟩
    dsimp only at hd hs
    subst hd
    go_wp2
    refine ⟨rfl, _, results_tmp2 rfl _ _ _, ?_, hB⟩
    exact frame94 tmps hs

/-- what holds between the operations of Cells' statement that draws its order -/
inductive CellInv (w2 : World) (Ap Ac Ar A1 A2 : Option Addr) (np cp nc cc nr cr c1 c2 B7 B16 row col k b1 o1 b2 o2 : Nat) (g0 g1 : Int) (p : Place) (r : Rect) (v : Value) (l : List Rect) (done : Nat → Bool) : Act → World → Prop
  | mk {W : World} (v14 v76 v77 v78 v79 v80 v81 v82 v83 v84 v85 v86 v87 v88 v89 v90 v91 f44 f45 f46 f47 f48 f49 f50 f51 f52 f53 f54 f55 f56 f57 f58 f59 f60 f61 f62 f63 f64 f65 f66 f67 f68 f69 f70 f71 f72 f73 f74 f75 f92 : Value) (hB : Below w2.heap.size w2 W) (P : PRow W B16 p)
    (q15 : done 15 = false → W.ownsRow w2.heap.size 47 4 v k (flat l) ∧ v.ownBlock ≠ some B16) (q15t : done 15 = true → W.ownsRow w2.heap.size 47 4 v91 (k + 1) (flat (l ++ [r])))
    (q14 : done 14 = true → ∃ M, v90 = .slice (some ⟨M, 0, none⟩) 1 1 ∧ w2.heap.size ≤ M ∧ RRow W M r ∧ (done 15 = false → v.ownBlock ≠ some M))
    (o16 : done 16 = true → done 15 = true) (o15 : done 15 = true → done 0 = true) (o14 : done 15 = true → done 14 = true) (e14 : done 16 = false → v14 = v) (e14t : done 16 = true → v14 = v91)
    (i0 : done 0 = true → v76 = v) (i1 : done 1 = true → v77 = .slice A1 nc c1) (i2 : done 2 = true → v78 = .pointer (some ⟨B16, 2, none⟩)) (i3 : done 3 = true → v79 = .int .i64 col) (i4 : done 4 = true → v80 = .pointer (some ⟨b1, o1 + col, none⟩)) (i5 : done 5 = true → v81 = .int .i64 r.x) (i6 : done 6 = true → v82 = .slice A2 nr c2) (i7 : done 7 = true → v83 = .pointer (some ⟨B16, 1, none⟩)) (i8 : done 8 = true → v84 = .int .i64 row) (i9 : done 9 = true → v85 = .pointer (some ⟨b2, o2 + row, none⟩)) (i10 : done 10 = true → v86 = .int .i64 r.y) (i11 : done 11 = true → v87 = .int .i64 r.w) (i12 : done 12 = true → v88 = .int .i64 r.h) (i13 : done 13 = true → v89 = .agg r.arr) : CellInv w2 Ap Ac Ar A1 A2 np cp nc cc nr cr c1 c2 B7 B16 row col k b1 o1 b2 o2 g0 g1 p r v l done { tmps := #[.slice Ap np cp, .slice Ac nc cc, .slice Ar nr cr, .agg #[.int .i64 g0, .int .i64 g1], undef, undef, undef, .pointer (some ⟨B7, 0, none⟩), .slice none 0 0, .int .i64 0, .slice A1 nc c1, .int .i64 0, .slice A2 nr c2, .int .i64 0, v14, undef, .pointer (some ⟨B16, 0, none⟩), .int .i64 r.w, .int .i64 0, .int .i64 r.h, .int .i64 0, .tuple #[.slice A1 nc c1, .int .i64 0], .slice Ac nc cc, .pointer (some ⟨B7, 0, none⟩), .int .i64 g0, .tuple #[.slice A1 nc c1, .int .i64 0], .slice A1 nc c1, .int .i64 0, .tuple #[.slice A2 nr c2, .int .i64 0], .slice Ar nr cr, .pointer (some ⟨B7, 1, none⟩), .int .i64 g1, .tuple #[.slice A2 nr c2, .int .i64 0], .slice A2 nr c2, .int .i64 0, .int .i64 0, .bool false, .bool false, .int .i64 0, .bool false, .bool false, .slice Ap np cp, .int .i64 np, .int .i64 k, f44, f45, f46, f47, f48, f49, f50, f51, f52, f53, f54, f55, f56, f57, f58, f59, f60, f61, f62, f63, f64, f65, f66, f67, f68, f69, f70, f71, f72, f73, f74, f75, v76, v77, v78, v79, v80, v81, v82, v83, v84, v85, v86, v87, v88, v89, v90, v91, f92, undef], defers := [] } W

set_option maxRecDepth 100000 in
set_option maxHeartbeats 4000000 in
theorem c21_right (A Ac Ar : Option Addr) (ps : List Place) (c : Nat) (cols rows : List Int) (cc cr : Nat) (g0 g1 : Int) (w : World) (hp : Places w A ps) (hlp : ps.length ≤ 1000) (hc : Ints w Ac cols) (hr : Ints w Ar rows) (hw1 : right cols g0 = true) (hw2 : right rows g1 = true) :
    Calls Try.prog 21 #[.slice A ps.length c, .slice Ac cols.length cc, .slice Ar rows.length cr, .agg #[.int .i64 g0, .int .i64 g1]] w (CellsSaid cols rows g0 g1 ps w) := by
  have lc := (right_iff.1 hw1).1
  have lr := (right_iff.1 hw2).1
  have hB0 : Below w.heap.size w (w.alloc (.cells #[.int .i64 g0, .int .i64 g1] 38)) := (Below.refl _ w).alloc (Nat.le_refl _) _
  have HB0 := Lib.hid hB0
  have Hc := Lib.hid (hc.below hB0)
  have Hr := Lib.hid (hr.below hB0)
  have Hp := Lib.hid (hp.below hB0)
  have H7 := Lib.hid (heap_alloc_new w (.cells #[.int .i64 g0, .int .i64 g1] 38))
  have K1 := Lib.hid (fun W (h : Ints W Ac cols) => c12_right Ac cols cc g0 W h hw1)
  have K2 := Lib.hid (fun W (h : Ints W Ar rows) => c12_right Ar rows cr g1 W h hw2)
  have S1 := Lib.hid (fun W (h : Ints W Ac cols) (a n : Nat) (hs : a + n ≤ cols.length) => c14_right Ac cols cc g0 a n W h hw1 hs)
  have S2 := Lib.hid (fun W (h : Ints W Ar rows) (a n : Nat) (hs : a + n ≤ rows.length) => c14_right Ar rows cr g1 a n W h hw2 hs)
  clear hB0 hc hr hp hw1 hw2
  go_enter Try.func21, Try.ntmps21
  go_wp2
  refine wp_scope_jumps 0 (fun a w' => a.defers = [] ∧ a.tmps.size = 94 ∧ Below w.heap.size w w' ∧ Hid (allFit ps rows.length cols.length = false)) (fun _ _ => 0) rfl ?first ?pass
  case first =>
    go_wp2_with (fail)
    refine (K1.out _ Hc.out).mono ?_
    rintro e w1 ⟨A1, c1, rfl, hc1, hi1, hb1⟩
    have r7 := (hb1.block _ (Array.getElem?_eq_some_iff.1 H7.out).1).trans H7.out
    have p0 : w1.cell? ⟨w.heap.size, 0, none⟩ = some (.int .i64 g0) := by simp [World.cell?, r7]
    have p1 : w1.cell? ⟨w.heap.size, 1, none⟩ = some (.int .i64 g1) := by simp [World.cell?, r7]
    have HB1 := Lib.hid (HB0.out.trans (hb1.mono HB0.out.size))
    have Hr1 := Lib.hid (Hr.out.below hb1)
    have Hc1 := Lib.hid (Hc.out.below hb1)
    have Hp1 := Lib.hid (Hp.out.below hb1)
    have I1 := Lib.hid hi1
    have R7 := Lib.hid r7
    clear r7 hb1 hi1
    go_wp2_with (fail)
    refine (K2.out _ Hr1.out).mono ?_
    rintro e w2 ⟨A2, c2, rfl, hc2, hi2, hb2⟩
    have r7 := (hb2.block _ (Array.getElem?_eq_some_iff.1 R7.out).1).trans R7.out
    have HB2 := Lib.hid (HB1.out.trans (hb2.mono HB1.out.size))
    have Hr2 := Lib.hid (Hr1.out.below hb2)
    have Hc2 := Lib.hid (Hc1.out.below hb2)
    have Hp2 := Lib.hid (Hp1.out.below hb2)
    have I1' := Lib.hid (I1.out.below hb2)
    have I2 := Lib.hid hi2
    have R7' := Lib.hid r7
    clear r7 hb2 hi2 p0 p1 Hr1 Hc1 Hp1 I1 R7 Hr Hc Hp H7 K1 K2 HB0 HB1
    go_wp2
    go_loopw [14, 43] (fun o i wr => ∃ k : Nat, k ≤ ps.length ∧ i = .int .i64 k ∧ Below w2.heap.size w2 wr ∧ wr.ownsRow w2.heap.size 47 4 o k (flat (upto (rectAt cols rows g0 g1 ps) k)) ∧ Hid (∀ j, j < k → fits (ps[j]?.getD default) rows.length cols.length = true)) (fun _ i _ => ps.length - (intOf i).toNat)
    case atStart => exact ⟨0, Nat.zero_le _, rfl, Below.refl _ _, World.ownsRow_nil _ _ _ _, fun j hj => absurd hj (Nat.not_lt_zero j)⟩
    case round =>
      obtain ⟨k, hk, rfl, hB, hown, hf⟩ := hrel
      by_cases hlt : k < ps.length
      · obtain ⟨p, b, off, hpk, rfl, hpc⟩ := (Hp2.out.below hB).get k hlt
        have r7 := (hB.block _ (Array.getElem?_eq_some_iff.1 R7'.out).1).trans R7'.out
        have s0 : (wr.alloc (.cells p.arr 45)).cell? ⟨w.heap.size, 0, none⟩ = some (.int .i64 g0) := by
          have := (Below.heap_alloc wr (.cells p.arr 45) _ (Array.getElem?_eq_some_iff.1 r7).1).trans r7
          simp [World.cell?, this]
        have R7r := Lib.hid r7
        have Hpk := Lib.hid hpk.out
        obtain ⟨q0, q1, q2, q3, q4⟩ := hpc
        have HBr := Lib.hid (HB2.out.trans (hB.mono HB2.out.size))
        have Hown := Lib.hid hown
        have HB := Lib.hid hB
        clear r7 hpk hown hB s0
        cases hfit : fits p rows.length cols.length with
        | false =>
          have H30 := Lib.hid (fun W => by have := c30 p rows.length cols.length W (by omega) (by omega) (by omega) (by omega); rw [hfit] at this; exact this)
          have Hno : allFit ps rows.length cols.length = false := by
            unfold allFit
            rw [List.all_eq_false]
            refine ⟨ps[k], List.getElem_mem hlt, ?_⟩
            have e := Hpk.out
            rw [List.getElem?_eq_getElem hlt] at e
            simp at e
            rw [e, hfit]; simp
          have HNO := Lib.hid Hno
          clear Hno hfit
          go_wp2_with (fail)
          refine (H30.out _).mono ?_
          rintro e w3 ⟨rfl, hb3⟩
          go_wp2
          refine wp_goto ?_
          exact ⟨rfl, rfl, rfl, HBr.out.trans (((Below.refl _ wr).alloc (Nat.le_refl _) _).trans (hb3.mono (by simp)) |>.mono HBr.out.size), HNO⟩
        | true =>
          obtain ⟨⟨f1, f2, f3, f4⟩, f5, f6⟩ := fits_iff.1 hfit
          have H30 := Lib.hid (fun W => by have := c30 p rows.length cols.length W (by omega) (by omega) (by omega) (by omega); rw [hfit] at this; exact this)
          have Hnext : Hid (∀ j, j < k + 1 → fits (ps[j]?.getD default) rows.length cols.length = true) := fun j hj => by
            by_cases e : j = k
            · subst e; rw [Hpk.out]; exact hfit
            · exact hf.out j (by omega)
          have Hrect : Hid (upto (rectAt cols rows g0 g1 ps) (k + 1) = upto (rectAt cols rows g0 g1 ps) k ++ [rectOf cols rows g0 g1 p]) := by
            show _ = _
            rw [upto_succ]; unfold rectAt; rw [Hpk.out]
          clear hfit
          obtain ⟨node, row, col, prs, pcs⟩ := p
          dsimp only at f1 f2 f3 f4 f5 f6 q0 q1 q2 q3 q4
          obtain ⟨row, rfl⟩ := Int.eq_ofNat_of_zero_le f1
          obtain ⟨col, rfl⟩ := Int.eq_ofNat_of_zero_le f2
          obtain ⟨prs, rfl⟩ := Int.eq_ofNat_of_zero_le (show 0 ≤ prs by omega)
          obtain ⟨pcs, rfl⟩ := Int.eq_ofNat_of_zero_le (show 0 ≤ pcs by omega)
          have hcs : col + pcs ≤ cols.length := by omega
          have hrs : row + prs ≤ rows.length := by omega
          have P3 := Lib.hid (PRow.new wr ⟨node, row, col, prs, pcs⟩)
          have HB3 := Lib.hid (HB.out.trans (((Below.refl _ wr).alloc (Nat.le_refl _) (.cells (Place.arr ⟨node, row, col, prs, pcs⟩) 45)).mono HB.out.size))
          have f3' : 1 ≤ prs := by omega
          have f4' : 1 ≤ pcs := by omega
          clear f1 f2 f3 f4 f5 f6
          go_wp2_with (fail)
          refine (H30.out _).mono ?_
          rintro e w3 ⟨rfl, hb3⟩
          have r3 := P3.out.turn hb3
          have hB3 := HB3.out.trans (hb3.mono HB3.out.size)
          have r7 := (hB3.block _ (Array.getElem?_eq_some_iff.1 R7'.out).1).trans R7'.out
          have s0 : w3.cell? ⟨w.heap.size, 0, none⟩ = some (.int .i64 g0) := by simp [World.cell?, r7]
          have s1 : w3.cell? ⟨w.heap.size, 1, none⟩ = some (.int .i64 g1) := by simp [World.cell?, r7]
          obtain ⟨t0, t1, t2, t3, t4⟩ := r3.cells
          dsimp only at t0 t1 t2 t3 t4
          have HR3 := Lib.hid r3
          have HB3' := Lib.hid hB3
          clear r3 hB3 r7 q0 q1 q2 q3 q4
          go_wp2_with (fail)
          refine (S1.out _ (Hc2.out.below HB3'.out) col pcs hcs).mono ?_
          rintro e w4 ⟨rfl, hb4⟩
          have r4 := HR3.out.turn hb4
          have hB4 := HB3'.out.trans (hb4.mono HB3'.out.size)
          have r7 := (hB4.block _ (Array.getElem?_eq_some_iff.1 R7'.out).1).trans R7'.out
          have s0' : w4.cell? ⟨w.heap.size, 0, none⟩ = some (.int .i64 g0) := by simp [World.cell?, r7]
          have s1' : w4.cell? ⟨w.heap.size, 1, none⟩ = some (.int .i64 g1) := by simp [World.cell?, r7]
          obtain ⟨u0, u1, u2, u3, u4⟩ := r4.cells
          dsimp only at u0 u1 u2 u3 u4
          have HR4 := Lib.hid r4
          have HB4 := Lib.hid hB4
          have Hown3 := Lib.hid (own_turn (own_turn Hown.out ((Below.refl _ wr).alloc (Nat.le_refl _) (.cells (Place.arr ⟨node, row, col, prs, pcs⟩) 45))) hb3)
          have Hown4 := Lib.hid (own_turn Hown3.out hb4)
          clear r4 hB4 r7 t0 t1 t2 t3 t4 s0 s1 hb3
          go_wp2_with (fail)
          refine (S2.out _ (Hr2.out.below HB4.out) row prs hrs).mono ?_
          rintro e w5 ⟨rfl, hb5⟩
          have r5 := HR4.out.turn hb5
          have hB5 := HB4.out.trans (hb5.mono HB4.out.size)
          have HR5 := Lib.hid r5
          have HB5 := Lib.hid hB5
          have Hown5 := Lib.hid (own_turn Hown4.out hb5)
          clear r5 hB5 s0' s1' u0 u1 u2 u3 u4 hb4 hb5
          go_wp2_with (fail)
          have hcl : col < cols.length := by have := f4'; omega
          have hrl : row < rows.length := by have := f3'; omega
          obtain ⟨x1, b1, o1, hx1, rfl, hcell1⟩ := I1'.out.get col (by rw [upto_length]; exact hcl)
          obtain ⟨x2, b2, o2, hx2, rfl, hcell2⟩ := I2.out.get row (by rw [upto_length]; exact hrl)
          have lb1 := World.block_lt_of_cell? w2 _ hcell1
          have lb2 := World.block_lt_of_cell? w2 _ hcell2
          have hX1 : x1 = st g0 cols col := by rw [← hx1.out]; simp [upto, hcl]
          have hX2 : x2 = st g1 rows row := by rw [← hx2.out]; simp [upto, hrl]
          obtain ⟨r, hr⟩ : ∃ r : Rect, r = ⟨st g0 cols col, st g1 rows row, sp g0 cols col pcs, sp g1 rows row prs⟩ := ⟨_, rfl⟩
          have hrx : x1 = r.x := by rw [hX1, hr]
          have hry : x2 = r.y := by rw [hX2, hr]
          have hrw : sp g0 cols col pcs = r.w := by rw [hr]
          have hrh : sp g1 rows row prs = r.h := by rw [hr]
          have hsep : ∀ g, u14.ownBlock = some g → g < wr.heap.size := fun g hg => (own_block Hown.out hg).2
          rw [hrx] at hcell1
          rw [hry] at hcell2
          rw [hrw, hrh]
          have Hcell1 := Lib.hid hcell1
          have Hcell2 := Lib.hid hcell2
          have Hrr := Lib.hid hr
          clear hX1 hX2 hrx hry hrw hrh hx1 hx2 hcell1 hcell2 hr
          refine wp_region_done2 (by kernel_rfl) (by kernel_rfl) (CellInv w2 (some ⟨b, off, none⟩) Ac Ar (some ⟨b1, o1, none⟩) (some ⟨b2, o2, none⟩) ps.length c cols.length cc rows.length cr c1 c2 w.heap.size wr.heap.size row col k b1 o1 b2 o2 g0 g1 ⟨node, row, col, prs, pcs⟩ r u14 (upto (rectAt cols rows g0 g1 ps) k)) ?h0 ?step ?fin
          case h0 =>
            exact ⟨_, _, _, _, _, _, _, _, _, _, _, _, _, _, _, _, _, _, _, _, _, _, _, _, _, _, _, _, _, _, _, _, _, _, _, _, _, _, _, _, _, _, _, _, _, _, _, _, _, _, HB5.out.trans (((Dr.refl w5).step1.below w5.heap.size).mono HB5.out.size), HR5.out.turn ((Dr.refl w5).step1.below _), fun _ => ⟨own_turn Hown5.out ((Dr.refl w5).step1.below _), fun h => by have := hsep _ h; omega⟩, fun h => by simp at h, fun h => by simp at h, fun h => by simp at h, fun h => by simp at h, fun h => by simp at h, fun _ => rfl, fun h => by simp at h, fun h => by simp at h, fun h => by simp at h, fun h => by simp at h, fun h => by simp at h, fun h => by simp at h, fun h => by simp at h, fun h => by simp at h, fun h => by simp at h, fun h => by simp at h, fun h => by simp at h, fun h => by simp at h, fun h => by simp at h, fun h => by simp at h, fun h => by simp at h⟩
          case step =>
            rintro done i o a X ho hd he ⟨v14, v76, v77, v78, v79, v80, v81, v82, v83, v84, v85, v86, v87, v88, v89, v90, v91, f44, f45, f46, f47, f48, f49, f50, f51, f52, f53, f54, f55, f56, f57, f58, f59, f60, f61, f62, f63, f64, f65, f66, f67, f68, f69, f70, f71, f72, f73, f74, f75, f92, hB, P, q15, q15t, q14, o16, o15, o14, e14, e14t, i0, i1, i2, i3, i4, i5, i6, i7, i8, i9, i10, i11, i12, i13⟩ K hK
            have Hd := Lib.hid he
            clear he
            rcases i with _ | _ | _ | _ | _ | _ | _ | _ | _ | _ | _ | _ | _ | _ | _ | _ | _ | i
            rotate_left 17
            · exact absurd (Array.getElem?_eq_some_iff.1 ho).1 (by simp)
            · obtain rfl := Option.some.inj ho
              have n16 : done 16 = false := by cases h : done 16 with
                | false => rfl
                | true => exact absurd (o15 (o16 h)) (by rw [hd]; simp)
              obtain rfl := e14 n16
              refine wpOp_plain ho rfl ?_
              clear ho hd
              go_wp2
              exact ⟨_, _, v77, v78, v79, v80, v81, v82, v83, v84, v85, v86, v87, v88, v89, v90, v91, _, _, _, _, _, _, _, _, _, _, _, _, _, _, _, _, _, _, _, _, _, _, _, _, _, _, _, _, _, _, _, _, _, hB, P, q15, q15t, q14, fun h => o16 h, fun _ => rfl, fun h => o14 h, fun _ => rfl, fun h => absurd h (by show ¬ done 16 = true; rw [n16]; simp), fun _ => rfl, fun h => i1 h, fun h => i2 h, fun h => i3 h, fun h => i4 h, fun h => i5 h, fun h => i6 h, fun h => i7 h, fun h => i8 h, fun h => i9 h, fun h => i10 h, fun h => i11 h, fun h => i12 h, fun h => i13 h⟩
            · obtain rfl := Option.some.inj ho
              refine wpOp_plain ho rfl ?_
              clear ho hd
              go_wp2
              exact ⟨v14, v76, _, v78, v79, v80, v81, v82, v83, v84, v85, v86, v87, v88, v89, v90, v91, _, _, _, _, _, _, _, _, _, _, _, _, _, _, _, _, _, _, _, _, _, _, _, _, _, _, _, _, _, _, _, _, _, hB, P, q15, q15t, q14, fun h => o16 h, fun h => o15 h, fun h => o14 h, fun h => e14 h, fun h => e14t h, fun h => i0 h, fun _ => rfl, fun h => i2 h, fun h => i3 h, fun h => i4 h, fun h => i5 h, fun h => i6 h, fun h => i7 h, fun h => i8 h, fun h => i9 h, fun h => i10 h, fun h => i11 h, fun h => i12 h, fun h => i13 h⟩
            · obtain rfl := Option.some.inj ho
              have hP := P.cells
              refine wpOp_plain ho rfl ?_
              clear ho hd
              go_wp2
              exact ⟨v14, v76, v77, _, v79, v80, v81, v82, v83, v84, v85, v86, v87, v88, v89, v90, v91, _, _, _, _, _, _, _, _, _, _, _, _, _, _, _, _, _, _, _, _, _, _, _, _, _, _, _, _, _, _, _, _, _, hB, P, q15, q15t, q14, fun h => o16 h, fun h => o15 h, fun h => o14 h, fun h => e14 h, fun h => e14t h, fun h => i0 h, fun h => i1 h, fun _ => rfl, fun h => i3 h, fun h => i4 h, fun h => i5 h, fun h => i6 h, fun h => i7 h, fun h => i8 h, fun h => i9 h, fun h => i10 h, fun h => i11 h, fun h => i12 h, fun h => i13 h⟩
            · obtain rfl := Option.some.inj ho
              obtain rfl := i2 (Hd.out ⟨2, .data⟩ (by simp) rfl)
              obtain ⟨z0, z1, z2, z3, z4⟩ := P.cells
              dsimp only at z0 z1 z2 z3 z4
              refine wpOp_plain ho rfl ?_
              clear ho hd
              go_wp2
              exact ⟨v14, v76, v77, _, _, v80, v81, v82, v83, v84, v85, v86, v87, v88, v89, v90, v91, _, _, _, _, _, _, _, _, _, _, _, _, _, _, _, _, _, _, _, _, _, _, _, _, _, _, _, _, _, _, _, _, _, hB, P, q15, q15t, q14, fun h => o16 h, fun h => o15 h, fun h => o14 h, fun h => e14 h, fun h => e14t h, fun h => i0 h, fun h => i1 h, fun _ => rfl, fun _ => rfl, fun h => i4 h, fun h => i5 h, fun h => i6 h, fun h => i7 h, fun h => i8 h, fun h => i9 h, fun h => i10 h, fun h => i11 h, fun h => i12 h, fun h => i13 h⟩
            · obtain rfl := Option.some.inj ho
              obtain rfl := i1 (Hd.out ⟨1, .data⟩ (by simp) rfl)
              obtain rfl := i3 (Hd.out ⟨3, .data⟩ (by simp) rfl)
              refine wpOp_plain ho rfl ?_
              clear ho hd
              go_wp2
              exact ⟨v14, v76, _, v78, _, _, v81, v82, v83, v84, v85, v86, v87, v88, v89, v90, v91, _, _, _, _, _, _, _, _, _, _, _, _, _, _, _, _, _, _, _, _, _, _, _, _, _, _, _, _, _, _, _, _, _, hB, P, q15, q15t, q14, fun h => o16 h, fun h => o15 h, fun h => o14 h, fun h => e14 h, fun h => e14t h, fun h => i0 h, fun _ => rfl, fun h => i2 h, fun _ => rfl, fun _ => rfl, fun h => i5 h, fun h => i6 h, fun h => i7 h, fun h => i8 h, fun h => i9 h, fun h => i10 h, fun h => i11 h, fun h => i12 h, fun h => i13 h⟩
            · obtain rfl := Option.some.inj ho
              obtain rfl := i4 (Hd.out ⟨4, .data⟩ (by simp) rfl)
              have z0 := (hB.cell (p := ⟨b1, o1 + col, none⟩) lb1).trans Hcell1.out
              refine wpOp_plain ho rfl ?_
              clear ho hd
              go_wp2
              exact ⟨v14, v76, v77, v78, v79, _, _, v82, v83, v84, v85, v86, v87, v88, v89, v90, v91, _, _, _, _, _, _, _, _, _, _, _, _, _, _, _, _, _, _, _, _, _, _, _, _, _, _, _, _, _, _, _, _, _, hB, P, q15, q15t, q14, fun h => o16 h, fun h => o15 h, fun h => o14 h, fun h => e14 h, fun h => e14t h, fun h => i0 h, fun h => i1 h, fun h => i2 h, fun h => i3 h, fun _ => rfl, fun _ => rfl, fun h => i6 h, fun h => i7 h, fun h => i8 h, fun h => i9 h, fun h => i10 h, fun h => i11 h, fun h => i12 h, fun h => i13 h⟩
            · obtain rfl := Option.some.inj ho
              refine wpOp_plain ho rfl ?_
              clear ho hd
              go_wp2
              exact ⟨v14, v76, v77, v78, v79, v80, v81, _, v83, v84, v85, v86, v87, v88, v89, v90, v91, _, _, _, _, _, _, _, _, _, _, _, _, _, _, _, _, _, _, _, _, _, _, _, _, _, _, _, _, _, _, _, _, _, hB, P, q15, q15t, q14, fun h => o16 h, fun h => o15 h, fun h => o14 h, fun h => e14 h, fun h => e14t h, fun h => i0 h, fun h => i1 h, fun h => i2 h, fun h => i3 h, fun h => i4 h, fun h => i5 h, fun _ => rfl, fun h => i7 h, fun h => i8 h, fun h => i9 h, fun h => i10 h, fun h => i11 h, fun h => i12 h, fun h => i13 h⟩
            · obtain rfl := Option.some.inj ho
              have hP := P.cells
              refine wpOp_plain ho rfl ?_
              clear ho hd
              go_wp2
              exact ⟨v14, v76, v77, v78, v79, v80, v81, v82, _, v84, v85, v86, v87, v88, v89, v90, v91, _, _, _, _, _, _, _, _, _, _, _, _, _, _, _, _, _, _, _, _, _, _, _, _, _, _, _, _, _, _, _, _, _, hB, P, q15, q15t, q14, fun h => o16 h, fun h => o15 h, fun h => o14 h, fun h => e14 h, fun h => e14t h, fun h => i0 h, fun h => i1 h, fun h => i2 h, fun h => i3 h, fun h => i4 h, fun h => i5 h, fun h => i6 h, fun _ => rfl, fun h => i8 h, fun h => i9 h, fun h => i10 h, fun h => i11 h, fun h => i12 h, fun h => i13 h⟩
            · obtain rfl := Option.some.inj ho
              obtain rfl := i7 (Hd.out ⟨7, .data⟩ (by simp) rfl)
              obtain ⟨z0, z1, z2, z3, z4⟩ := P.cells
              dsimp only at z0 z1 z2 z3 z4
              refine wpOp_plain ho rfl ?_
              clear ho hd
              go_wp2
              exact ⟨v14, v76, v77, v78, v79, v80, v81, v82, _, _, v85, v86, v87, v88, v89, v90, v91, _, _, _, _, _, _, _, _, _, _, _, _, _, _, _, _, _, _, _, _, _, _, _, _, _, _, _, _, _, _, _, _, _, hB, P, q15, q15t, q14, fun h => o16 h, fun h => o15 h, fun h => o14 h, fun h => e14 h, fun h => e14t h, fun h => i0 h, fun h => i1 h, fun h => i2 h, fun h => i3 h, fun h => i4 h, fun h => i5 h, fun h => i6 h, fun _ => rfl, fun _ => rfl, fun h => i9 h, fun h => i10 h, fun h => i11 h, fun h => i12 h, fun h => i13 h⟩
            · obtain rfl := Option.some.inj ho
              obtain rfl := i6 (Hd.out ⟨6, .data⟩ (by simp) rfl)
              obtain rfl := i8 (Hd.out ⟨8, .data⟩ (by simp) rfl)
              refine wpOp_plain ho rfl ?_
              clear ho hd
              go_wp2
              exact ⟨v14, v76, v77, v78, v79, v80, v81, _, v83, _, _, v86, v87, v88, v89, v90, v91, _, _, _, _, _, _, _, _, _, _, _, _, _, _, _, _, _, _, _, _, _, _, _, _, _, _, _, _, _, _, _, _, _, hB, P, q15, q15t, q14, fun h => o16 h, fun h => o15 h, fun h => o14 h, fun h => e14 h, fun h => e14t h, fun h => i0 h, fun h => i1 h, fun h => i2 h, fun h => i3 h, fun h => i4 h, fun h => i5 h, fun _ => rfl, fun h => i7 h, fun _ => rfl, fun _ => rfl, fun h => i10 h, fun h => i11 h, fun h => i12 h, fun h => i13 h⟩
            · obtain rfl := Option.some.inj ho
              obtain rfl := i9 (Hd.out ⟨9, .data⟩ (by simp) rfl)
              have z0 := (hB.cell (p := ⟨b2, o2 + row, none⟩) lb2).trans Hcell2.out
              refine wpOp_plain ho rfl ?_
              clear ho hd
              go_wp2
              exact ⟨v14, v76, v77, v78, v79, v80, v81, v82, v83, v84, _, _, v87, v88, v89, v90, v91, _, _, _, _, _, _, _, _, _, _, _, _, _, _, _, _, _, _, _, _, _, _, _, _, _, _, _, _, _, _, _, _, _, hB, P, q15, q15t, q14, fun h => o16 h, fun h => o15 h, fun h => o14 h, fun h => e14 h, fun h => e14t h, fun h => i0 h, fun h => i1 h, fun h => i2 h, fun h => i3 h, fun h => i4 h, fun h => i5 h, fun h => i6 h, fun h => i7 h, fun h => i8 h, fun _ => rfl, fun _ => rfl, fun h => i11 h, fun h => i12 h, fun h => i13 h⟩
            · obtain rfl := Option.some.inj ho
              refine wpOp_plain ho rfl ?_
              clear ho hd
              go_wp2
              exact ⟨v14, v76, v77, v78, v79, v80, v81, v82, v83, v84, v85, v86, _, v88, v89, v90, v91, _, _, _, _, _, _, _, _, _, _, _, _, _, _, _, _, _, _, _, _, _, _, _, _, _, _, _, _, _, _, _, _, _, hB, P, q15, q15t, q14, fun h => o16 h, fun h => o15 h, fun h => o14 h, fun h => e14 h, fun h => e14t h, fun h => i0 h, fun h => i1 h, fun h => i2 h, fun h => i3 h, fun h => i4 h, fun h => i5 h, fun h => i6 h, fun h => i7 h, fun h => i8 h, fun h => i9 h, fun h => i10 h, fun _ => rfl, fun h => i12 h, fun h => i13 h⟩
            · obtain rfl := Option.some.inj ho
              refine wpOp_plain ho rfl ?_
              clear ho hd
              go_wp2
              exact ⟨v14, v76, v77, v78, v79, v80, v81, v82, v83, v84, v85, v86, v87, _, v89, v90, v91, _, _, _, _, _, _, _, _, _, _, _, _, _, _, _, _, _, _, _, _, _, _, _, _, _, _, _, _, _, _, _, _, _, hB, P, q15, q15t, q14, fun h => o16 h, fun h => o15 h, fun h => o14 h, fun h => e14 h, fun h => e14t h, fun h => i0 h, fun h => i1 h, fun h => i2 h, fun h => i3 h, fun h => i4 h, fun h => i5 h, fun h => i6 h, fun h => i7 h, fun h => i8 h, fun h => i9 h, fun h => i10 h, fun h => i11 h, fun _ => rfl, fun h => i13 h⟩
            · obtain rfl := Option.some.inj ho
              obtain rfl := i5 (Hd.out ⟨5, .data⟩ (by simp) rfl)
              obtain rfl := i10 (Hd.out ⟨10, .data⟩ (by simp) rfl)
              obtain rfl := i11 (Hd.out ⟨11, .data⟩ (by simp) rfl)
              obtain rfl := i12 (Hd.out ⟨12, .data⟩ (by simp) rfl)
              refine wpOp_plain ho rfl ?_
              clear ho hd
              go_wp2
              exact ⟨v14, v76, v77, v78, v79, v80, _, v82, v83, v84, v85, _, _, _, _, v90, v91, _, _, _, _, _, _, _, _, _, _, _, _, _, _, _, _, _, _, _, _, _, _, _, _, _, _, _, _, _, _, _, _, _, hB, P, q15, q15t, q14, fun h => o16 h, fun h => o15 h, fun h => o14 h, fun h => e14 h, fun h => e14t h, fun h => i0 h, fun h => i1 h, fun h => i2 h, fun h => i3 h, fun h => i4 h, fun _ => rfl, fun h => i6 h, fun h => i7 h, fun h => i8 h, fun h => i9 h, fun _ => rfl, fun _ => rfl, fun _ => rfl, fun _ => rfl⟩
            · obtain rfl := Option.some.inj ho
              obtain rfl := i13 (Hd.out ⟨13, .data⟩ (by simp) rfl)
              have n15 : done 15 = false := by cases h : done 15 with
                | false => rfl
                | true => exact absurd (o14 h) (by rw [hd]; simp)
              obtain ⟨hown, hs16⟩ := q15 n15
              refine wpOp_plain ho rfl ?_
              clear ho hd
              unfold Rect.arr
              go_wp2
              have hb : Below X.heap.size X (X.alloc (.cells r.arr 47)) := (Below.refl _ _).alloc (Nat.le_refl _) _
              exact ⟨v14, v76, v77, v78, v79, v80, v81, v82, v83, v84, v85, v86, v87, v88, _, _, v91, _, _, _, _, _, _, _, _, _, _, _, _, _, _, _, _, _, _, _, _, _, _, _, _, _, _, _, _, _, _, _, _, _, hB.alloc hB.size _, P.turn hb, fun _ => ⟨own_turn hown hb, hs16⟩, fun h => absurd h (by show ¬ done 15 = true; rw [n15]; simp), fun _ => ⟨X.heap.size, rfl, hB.size, RRow.new X r, fun _ h => by have := (own_block hown h).2; omega⟩, fun h => o16 h, fun h => o15 h, fun _ => rfl, fun h => e14 h, fun h => e14t h, fun h => i0 h, fun h => i1 h, fun h => i2 h, fun h => i3 h, fun h => i4 h, fun h => i5 h, fun h => i6 h, fun h => i7 h, fun h => i8 h, fun h => i9 h, fun h => i10 h, fun h => i11 h, fun h => i12 h, fun _ => rfl⟩
            · obtain rfl := Option.some.inj ho
              obtain rfl := i0 (Hd.out ⟨0, .data⟩ (by simp) rfl)
              obtain ⟨M, rfl, hM1, hM2, hM3⟩ := q14 (Hd.out ⟨14, .data⟩ (by simp) rfl)
              obtain ⟨hown, hs16⟩ := q15 hd
              have n16 : done 16 = false := by cases h : done 16 with
                | false => rfl
                | true => exact absurd (o16 h) (by rw [hd]; simp)
              obtain rfl := e14 n16
              have d0 := (Hd.out ⟨0, .data⟩ (by simp) rfl)
              have d14 := (Hd.out ⟨14, .data⟩ (by simp) rfl)
              refine wpOp_plain ho rfl ?_
              refine wp_append_rect w2.heap.size _ _ rfl _ k _ rfl hown M r rfl hM2 (by omega) hB.size ?_
              intro v' W1 hown1 hg
              have hbel : Below w2.heap.size X W1 := ⟨hg.os, hg.tape, hg.output, hg.size, fun q hq => hg.block q (Nat.lt_of_lt_of_le hq hB.size) (fun e => by have := (own_block hown e.symm).1; omega)⟩
              refine hK _ _ ?_
              exact ⟨_, _, v77, v78, v79, v80, v81, v82, v83, v84, v85, v86, v87, v88, v89, _, _, _, _, _, _, _, _, _, _, _, _, _, _, _, _, _, _, _, _, _, _, _, _, _, _, _, _, _, _, _, _, _, _, _, hB.trans hbel, ⟨(hg.block _ P.lt (fun e => hs16 e.symm)).trans P.at_⟩, fun h => absurd h (by show ¬ true = false; simp), fun _ => hown1, fun _ => ⟨M, rfl, hM1, ⟨(hg.block _ hM2.lt (fun e => hM3 hd e.symm)).trans hM2.at_⟩, fun h => absurd h (by show ¬ true = false; simp)⟩, fun _ => rfl, fun _ => d0, fun _ => d14, fun _ => rfl, fun h => absurd h (by show ¬ done 16 = true; rw [n16]; simp), fun _ => rfl, fun h => i1 h, fun h => i2 h, fun h => i3 h, fun h => i4 h, fun h => i5 h, fun h => i6 h, fun h => i7 h, fun h => i8 h, fun h => i9 h, fun h => i10 h, fun h => i11 h, fun h => i12 h, fun h => i13 h⟩
            · obtain rfl := Option.some.inj ho
              have d15 := (Hd.out ⟨15, .data⟩ (by simp) rfl)
              refine wpOp_plain ho rfl ?_
              clear ho hd
              go_wp2
              exact CellInv.mk (done := more done 16) _ _ v77 v78 v79 v80 v81 v82 v83 v84 v85 v86 v87 v88 v89 v90 v91 _ _ _ _ _ _ _ _ _ _ _ _ _ _ _ _ _ _ _ _ _ _ _ _ _ _ _ _ _ _ _ _ _ hB P q15 q15t q14 (fun _ => d15) (fun h => o15 h) (fun h => o14 h) (fun h => absurd h (by show ¬ true = false; simp)) (fun _ => rfl) (fun _ => rfl) (fun h => i1 h) (fun h => i2 h) (fun h => i3 h) (fun h => i4 h) (fun h => i5 h) (fun h => i6 h) (fun h => i7 h) (fun h => i8 h) (fun h => i9 h) (fun h => i10 h) (fun h => i11 h) (fun h => i12 h) (fun h => i13 h)
          case fin =>
            rintro done a X hall ⟨v14, v76, v77, v78, v79, v80, v81, v82, v83, v84, v85, v86, v87, v88, v89, v90, v91, f44, f45, f46, f47, f48, f49, f50, f51, f52, f53, f54, f55, f56, f57, f58, f59, f60, f61, f62, f63, f64, f65, f66, f67, f68, f69, f70, f71, f72, f73, f74, f75, f92, hB, P, q15, q15t, q14, o16, o15, o14, e14, e14t, i0, i1, i2, i3, i4, i5, i6, i7, i8, i9, i10, i11, i12, i13⟩
            have hown1 := q15t (hall 15 (by simp))
            obtain rfl := e14t (hall 16 (by simp))
            have Hown1 := Lib.hid hown1
            have HBX := Lib.hid hB
            clear q15 q15t q14 o16 o15 o14 e14 e14t i0 i1 i2 i3 i4 i5 i6 i7 i8 i9 i10 i11 i12 i13 hown1 hB P
            go_wp2
            go_roundw
            case rel =>
              exact ⟨k + 1, by omega, by go_num, HBX.out, by rw [Hrect.out]; unfold rectOf; rw [show (⟨st g0 cols (Int.toNat col), st g1 rows (Int.toNat row), sp g0 cols (Int.toNat col) (Int.toNat pcs), sp g1 rows (Int.toNat row) (Int.toNat prs)⟩ : Rect) = r from Hrr.out.symm]; exact Hown1.out, Hnext⟩
            case measure => simp [intOf]; omega
      · obtain rfl : k = ps.length := by omega
        have hall : allFit ps rows.length cols.length = true := by
          unfold allFit
          rw [List.all_eq_true]
          intro x hx
          obtain ⟨j, hj, rfl⟩ := List.getElem_of_mem hx
          have := hf.out j hj
          simpa [hj] using this
        obtain ⟨A', cap, e14, hrects⟩ := own_rects hown (by rw [upto_length])
        subst e14
        have Hrects := Lib.hid hrects
        have Hall := Lib.hid hall
        have HBr := Lib.hid (HB2.out.trans (hB.mono HB2.out.size))
        clear hrects hall hown hB
        go_wp2
        refine ⟨rfl, _, results_tmp2 rfl _ _ _, ⟨fun _ => ⟨_, _, rfl, Hrects.out⟩, fun h => ?_, HBr.out⟩⟩
        rw [Hall.out] at h; cases h
  case pass =>
    rintro ⟨tmps, defers⟩ W ⟨hd, hs, hB, hf⟩
    dsimp only at hd hs
    subst hd
    go_wp2
    refine ⟨rfl, _, results_tmp2 rfl _ _ _, ?_⟩
    refine ⟨fun h => ?_, fun _ => frame94 tmps hs, hB⟩
    rw [hf.out] at h; cases h
end Go.Proofs.Ytnjifmoclfgegaa
