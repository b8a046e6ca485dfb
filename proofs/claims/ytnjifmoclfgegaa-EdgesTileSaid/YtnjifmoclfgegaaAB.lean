/- Contract of edges.Gutters, of right bands and gaps with something between. -/
import Derived.Test.YtnjifmoclfgegaaAA
namespace Go.Proofs.Ytnjifmoclfgegaa
open Go Go.RowKit Go.Shelf Ords
set_option linter.unusedVariables false

theorem v33 (g high x : Int) (w : World) (h1 : 0 ≤ x ∧ x ≤ 25000000000000) (h3 : 0 ≤ g ∧ g ≤ 25000000000000) (h4 : 0 ≤ high ∧ high ≤ 25000000000000) :
    Calls Try.prog 33 #[.agg #[.int .i64 0, .int .i64 0, .int .i64 g, .int .i64 high], .int .i64 x, .int .i64 0] w fun e w' => e = .returned (.tuple #[.agg #[.int .i64 x, .int .i64 0, .int .i64 g, .int .i64 high], .int .i64 0]) ∧ Below w.heap.size w w' := by
  have h := m33 0 0 g high x 0 w (by omega) (by omega) h3 h4 h1 (by omega)
  rw [Int.zero_add, Int.add_zero] at h
  exact h
theorem h33 (g high x y : Int) (w : World) (h1 : 0 ≤ x ∧ x ≤ 25000000000000) (h2 : 0 ≤ y ∧ y ≤ 25000000000000) (h3 : 0 ≤ g ∧ g ≤ 25000000000000) (h4 : 0 ≤ high ∧ high ≤ 25000000000000) :
    Calls Try.prog 33 #[.agg #[.int .i64 0, .int .i64 0, .int .i64 g, .int .i64 high], .int .i64 x, .int .i64 y] w fun e w' => e = .returned (.tuple #[.agg #[.int .i64 x, .int .i64 y, .int .i64 g, .int .i64 high], .int .i64 0]) ∧ Below w.heap.size w w' := by
  have h := m33 0 0 g high x y w (by omega) (by omega) h3 h4 h1 h2
  rw [Int.zero_add, Int.zero_add] at h
  exact h

theorem grown_base {base : Nat} {X W1 : World} {v : Value} {n : Nat} {l : List Value} (hown : X.ownsRow base 47 4 v n l) (hg : X.grownBy W1 v.ownBlock) (hb : base ≤ X.heap.size) : Below base X W1 :=
  ⟨hg.os, hg.tape, hg.output, hg.size, fun q hq => hg.block q (Nat.lt_of_lt_of_le hq hb) (fun e => by have := (own_block hown e.symm).1; omega)⟩
theorem two_rects (W : World) (r : Rect) : RRow ((W.alloc (.cells r.arr 47)).alloc (.cells r.arr 47)) (W.heap.size + 1) r := ⟨by rw [show W.heap.size + 1 = (W.alloc (.cells r.arr 47)).heap.size by simp, heap_alloc_new]⟩
theorem rect_row {W : World} {b : Nat} {r : Rect} (h : RRow W b r) : RRow (W.alloc (.cells r.arr 47)) W.heap.size r ∧ Below W.heap.size W (W.alloc (.cells r.arr 47)) := ⟨RRow.new W r, (Below.refl _ _).alloc (Nat.le_refl _) _⟩
theorem own_two {W : World} {base n : Nat} {v : Value} {l : List Value} (h : W.ownsRow base 47 4 v n l) (x y : Obj) : ((W.alloc x).alloc y).ownsRow base 47 4 v n l := own_turn h (((Below.refl _ W).alloc (Nat.le_refl _) _).alloc (by simp) _)
theorem wpList_append_rect' {ops : Array Oper} {rest : List Oper} {o : Oper} {a : Act} {w : World} {Q : Exit → Act → World → Prop} (hgd : o.guard = none) (base : Nat) (x z : Operand) (ho : o.op = .call { callee := .builtin .append, args := #[x, z], argTypes := #[39, 39] })
    (v : Value) (n : Nat) (l : List Rect) (hx : a.eval x = v) (hown : w.ownsRow base 47 4 v n (flat l)) (M : Nat) (r : Rect) (hz : a.eval z = .slice (some ⟨M, 0, none⟩) 1 1) (hm : RRow w M r) (hn : n ≤ 1000000) (hbase : base ≤ w.heap.size)
    (h : ∀ v' W', W'.ownsRow base 47 4 v' (n + 1) (flat (l ++ [r])) → w.grownBy W' v.ownBlock → (v'.ownBlock = v.ownBlock ∨ v'.ownBlock = some w.heap.size) → wpList Try.prog ops Q rest (a.put o.dst v') W') : wpList Try.prog ops Q (o :: rest) a w := by
  obtain ⟨i0, hi, hz0, hz1, hz2⟩ := info_parts info47
  have hc : ∀ j u, (flat [r])[j]? = some u → w.cell? ((⟨M, 0, none⟩ : Addr).add j) = some u := by
    intro j u hu
    have hj : j < 4 := by have := (List.getElem?_eq_some_iff.1 hu).1; rw [flat_length] at this; simpa using this
    rw [addr_add', Nat.zero_add]
    have e : (flat [r])[j]? = r.cells[j]? := by simp [flat]
    rw [e] at hu
    rw [← hu]
    match j, hj with
    | 0, _ => simp [World.cell?, hm.at_, Rect.arr, Rect.cells]
    | 1, _ => simp [World.cell?, hm.at_, Rect.arr, Rect.cells]
    | 2, _ => simp [World.cell?, hm.at_, Rect.arr, Rect.cells]
    | 3, _ => simp [World.cell?, hm.at_, Rect.arr, Rect.cells]
  exact wpList_append_own_at w hgd x z 39 ho base 47 i0 _ 4 32 Try.underlying39 hi hz0 hz1 hz2 rfl (by decide) v n (flat l) hx hown ⟨M, 0, none⟩ 1 1 (flat [r]) hz (flat_length [r]) hc (flat_one [r]) (by unfold maxLen; omega) (by omega) hbase
    fun v' W' h1 h2 _ h3 => h v' W' (by rw [flat_append]; exact h1) h2 h3

/-- what holds in the loops over the rows' gaps -/
structure Gut (base : Nat) (w4 : World) (A6 : Option Addr) (ys : List Int) (v : Value) (n : Nat) (l : List Rect) (W : World) : Prop where
  own : W.ownsRow base 47 4 v n (flat l)
  below : Below base w4 W
  ys : Ints W A6 ys
  apart : ∀ b off, A6 = some ⟨b, off, none⟩ → v.ownBlock ≠ some b
theorem Gut.turn {base : Nat} {w4 W W' : World} {A6 : Option Addr} {ys : List Int} {v : Value} {n : Nat} {l : List Rect} (h : Gut base w4 A6 ys v n l W) (hb : Below W.heap.size W W') (hbase : base ≤ w4.heap.size) : Gut base w4 A6 ys v n l W' :=
  ⟨own_turn h.own hb, h.below.trans (hb.mono (Nat.le_trans hbase h.below.size)), h.ys.below hb, h.apart⟩
theorem Gut.app {base : Nat} {w4 W W' : World} {A6 : Option Addr} {ys : List Int} {v v' : Value} {n : Nat} {l : List Rect} {r : Rect} (h : Gut base w4 A6 ys v n l W) (hbase : base ≤ w4.heap.size) (hy : 0 < ys.length)
    (h1 : W'.ownsRow base 47 4 v' (n + 1) (flat (l ++ [r]))) (hg : W.grownBy W' v.ownBlock) (hv : v'.ownBlock = v.ownBlock ∨ v'.ownBlock = some W.heap.size) : Gut base w4 A6 ys v' (n + 1) (l ++ [r]) W' := by
  obtain ⟨b, off, hA, hc⟩ := h.ys 0 hy
  have hbw : b < W.heap.size := World.block_lt_of_cell? W _ hc
  refine ⟨h1, h.below.trans (grown_base h.own hg (Nat.le_trans hbase h.below.size)), fun j hj => ?_, fun b' off' e => ?_⟩
  · obtain ⟨b', off', hA', hc'⟩ := h.ys j hj
    refine ⟨b', off', hA', ?_⟩
    rw [← hc']
    have e := hg.block b' (World.block_lt_of_cell? W _ hc') (fun e => h.apart b' off' hA' e.symm)
    unfold World.cell?
    rw [e]
  · rw [hA] at e
    cases e
    rcases hv with hv | hv
    · rw [hv]; exact h.apart b off hA
    · rw [hv]; intro e; cases e; omega

set_option maxHeartbeats 4000000 in
set_option maxRecDepth 100000 in
theorem c24_right (Ac Ar : Option Addr) (cols rows : List Int) (cc cr : Nat) (g0 g1 : Int) (w : World) (hc : Ints w Ac cols) (hr : Ints w Ar rows) (hlc : cols.length ≤ 40) (hlr : rows.length ≤ 40) (hw1 : right cols g0 = true) (hw2 : right rows g1 = true) (hn : noGut cols rows g0 g1 = false) :
    Calls Try.prog 24 #[.slice Ac cols.length cc, .slice Ar rows.length cr, .agg #[.int .i64 g0, .int .i64 g1]] w fun e w' => (∃ A c, e = .returned (.tuple #[.slice A (guts cols rows g0 g1).length c, .int .i64 0]) ∧ Rects w' A (guts cols rows g0 g1)) ∧ Below w.heap.size w w' := by
  unfold noGut at hn
  rw [Bool.or_eq_false_iff, Bool.or_eq_false_iff] at hn
  have t1 : ((cols.length : Int) == 0) = false := by have := hn.1.1; rw [beq_eq_false_iff_ne] at this ⊢; omega
  have t2 : ((rows.length : Int) == 0) = false := by have := hn.1.2; rw [beq_eq_false_iff_ne] at this ⊢; omega
  have T3 := Lib.hid hn.2
  have hb0 := (right_iff.1 hw1).2.1
  have hb1 := (right_iff.1 hw2).2.1
  have HX := Lib.hid (fun k (hk : k ≤ cols.length) => gx_bounds hw1 k hk)
  have HY := Lib.hid (fun k (hk : k ≤ rows.length) => gx_bounds hw2 k hk)
  have HS := Lib.hid (fun k (hk : k ≤ cols.length) => st_bound hw1 hk)
  have HE := Lib.hid (right_iff.1 hw1).2.2
  have hH := ext_bound hw2
  have E13 := Lib.hid (fun W (h : Ints W Ar rows) => c13_right Ar rows cr g1 W h hw2)
  have E32c := Lib.hid (fun W B d (h : Ints W Ac cols) (h' : Ints W B (upto (st g0 cols) cols.length)) => c32 Ac B cols cc d g0 W h h' hw1)
  have E32r := Lib.hid (fun W B d (h : Ints W Ar rows) (h' : Ints W B (upto (st g1 rows) rows.length)) => c32 Ar B rows cr d g1 W h h' hw2)
  clear hn
  have lc := hlc
  have hB0 : Below w.heap.size w (w.alloc (.cells #[.int .i64 g0, .int .i64 g1] 38)) := (Below.refl _ w).alloc (Nat.le_refl _) _
  have HB0 := Lib.hid hB0
  have Hc := Lib.hid (hc.below hB0)
  have Hr := Lib.hid (hr.below hB0)
  have H7 := Lib.hid (heap_alloc_new w (.cells #[.int .i64 g0, .int .i64 g1] 38))
  have H7 := Lib.hid (heap_alloc_new w (.cells #[.int .i64 g0, .int .i64 g1] 38))
  have K1 := Lib.hid (fun W (h : Ints W Ac cols) => c12_right Ac cols cc g0 W h hw1)
  have K2 := Lib.hid (fun W (h : Ints W Ar rows) => c12_right Ar rows cr g1 W h hw2)
  have lr := (right_iff.1 hw2).1
  clear hB0 hc hr
  go_enter Try.func24, Try.ntmps24
  go_wp2_with (fail)
  refine (K1.out _ Hc.out).mono ?_
  rintro e w1 ⟨A1, c1, rfl, hc1, hi1, hb1⟩
  have r7 := (hb1.block _ (Array.getElem?_eq_some_iff.1 H7.out).1).trans H7.out
  have p0 : w1.cell? ⟨w.heap.size, 0, none⟩ = some (.int .i64 g0) := by simp [World.cell?, r7]
  have p1 : w1.cell? ⟨w.heap.size, 1, none⟩ = some (.int .i64 g1) := by simp [World.cell?, r7]
  have HB1 := Lib.hid (HB0.out.trans (hb1.mono HB0.out.size))
  have Hr1 := Lib.hid (Hr.out.below hb1)
  have Hc1 := Lib.hid (Hc.out.below hb1)
  have I1 := Lib.hid hi1
  have R7 := Lib.hid r7
  clear r7 hb1 hi1
  go_wp2_with (fail)
  refine (K2.out _ Hr1.out).mono ?_
  rintro e w2 ⟨A2, c2, rfl, hc2, hi2, hb2⟩
  have hz : Below w2.heap.size w2 (w2.alloc (.cells #[.int .i64 0, .int .i64 0] 38)) := (Below.refl _ w2).alloc (Nat.le_refl _) _
  have r7 := ((hb2.trans (hz.mono hb2.size)).block _ (Array.getElem?_eq_some_iff.1 R7.out).1).trans R7.out
  have HB2 := Lib.hid ((HB1.out.trans (hb2.mono HB1.out.size)).trans (hz.mono (Nat.le_trans HB1.out.size hb2.size)))
  have Hr2 := Lib.hid ((Hr1.out.below hb2).below hz)
  have Hc2 := Lib.hid ((Hc1.out.below hb2).below hz)
  have I1' := Lib.hid ((I1.out.below hb2).below hz)
  have I2 := Lib.hid (hi2.below hz)
  have R7' := Lib.hid r7
  clear p0 p1
  have p0 : (w2.alloc (.cells #[.int .i64 0, .int .i64 0] 38)).cell? ⟨w.heap.size, 0, none⟩ = some (.int .i64 g0) := by unfold World.cell?; rw [r7]; rfl
  have p1 : (w2.alloc (.cells #[.int .i64 0, .int .i64 0] 38)).cell? ⟨w.heap.size, 1, none⟩ = some (.int .i64 g1) := by unfold World.cell?; rw [r7]; rfl
  have z0 : (w2.alloc (.cells #[.int .i64 0, .int .i64 0] 38)).cell? ⟨w2.heap.size, 0, none⟩ = some (.int .i64 0) := by unfold World.cell?; rw [heap_alloc_new]; rfl
  have z1 : (w2.alloc (.cells #[.int .i64 0, .int .i64 0] 38)).cell? ⟨w2.heap.size, 1, none⟩ = some (.int .i64 0) := by unfold World.cell?; rw [heap_alloc_new]; rfl
  have hq := eq38 g0 g1 0 0 (w2.alloc (.cells #[.int .i64 0, .int .i64 0] 38))
  clear r7 hb2 hi2 Hr1 Hc1 I1 R7 Hr Hc H7 K1 K2 HB0 HB1 hz
  clear hw1 hw2
  rw [T3.out] at hq
  clear T3
  go_wp2_with (fail)
  clear hq z0 z1
  have hw0 : w.heap.size < (w2.alloc (.cells #[.int .i64 0, .int .i64 0] 38)).heap.size := (Array.getElem?_eq_some_iff.1 R7'.out).1
  generalize w2.alloc (.cells #[.int .i64 0, .int .i64 0] 38) = W2 at *
  refine (E13.out _ Hr2.out).mono ?_
  rintro e w3 ⟨rfl, hb3⟩
  clear p0 p1
  have HB3 := Lib.hid (HB2.out.trans (hb3.mono HB2.out.size))
  have Hr3 := Lib.hid (Hr2.out.below hb3)
  have Hc3 := Lib.hid (Hc2.out.below hb3)
  have J1 := Lib.hid (I1'.out.below hb3)
  have J2 := Lib.hid (I2.out.below hb3)
  have R3 := Lib.hid ((hb3.block _ hw0).trans R7'.out)
  clear hb3 Hr2 Hc2 I1' I2 R7' HB2 hw0
  generalize hHe : ext g1 rows = high at *
  have HH : Hid (ext g1 rows = high) := Lib.hid hHe
  clear hHe
  go_wp2_with (fail)
  refine (E32c.out _ _ _ Hc3.out J1.out).mono ?_
  rintro e w4 ⟨A3, c3, rfl, hi4, hb4, -⟩
  have r4 := (hb4.block _ (Array.getElem?_eq_some_iff.1 R3.out).1).trans R3.out
  have HB4 := Lib.hid (HB3.out.trans (hb4.mono HB3.out.size))
  have Hr4 := Lib.hid (Hr3.out.below hb4)
  have Hc4 := Lib.hid (Hc3.out.below hb4)
  have M1 := Lib.hid (J1.out.below hb4)
  have M2 := Lib.hid (J2.out.below hb4)
  have R4 := Lib.hid r4
  have G4 := Lib.hid hi4
  have HBf := HB4
  clear hb4 r4 hi4 Hr3 Hc3 J1 J2 R3 HB3
  go_wp2_with (fail)
  go_loopw [15, 73] (fun o i wr => ∃ k : Nat, k ≤ cols.length + 1 ∧ i = .int .i64 k ∧ Below w4.heap.size w4 wr ∧ wr.ownsRow w4.heap.size 47 4 o k (flat (upto (gutV g0 high cols) k))) (fun _ i _ => cols.length + 1 - (intOf i).toNat)
  case atStart => exact ⟨0, Nat.zero_le _, rfl, Below.refl _ _, World.ownsRow_nil _ _ _ _⟩
  case round =>
    obtain ⟨k, hk, rfl, hB, hown⟩ := hrel
    by_cases hlt : k < cols.length + 1
    · obtain ⟨x, b, off, hxk, rfl, hc⟩ := (G4.out.below hB).get k (by rw [upto_length]; exact hlt)
      rw [upto_get _ _ hlt] at hxk
      have hxb := HX.out k (by omega)
      rw [hxk.out] at hxb
      have r7 := (hB.block _ (Array.getElem?_eq_some_iff.1 R4.out).1).trans R4.out
      have p0 : wr.cell? ⟨w.heap.size, 0, none⟩ = some (.int .i64 g0) := by unfold World.cell?; rw [r7]; rfl
      have C := Lib.hid (v33 g0 high x wr hxb (by omega) hH)
      have Hup : Hid (upto (gutV g0 high cols) (k + 1) = upto (gutV g0 high cols) k ++ [⟨x, 0, g0, high⟩]) := Lib.hid (by rw [upto_succ]; unfold gutV; rw [hxk.out])
      have HB := Lib.hid hB
      have Hown := Lib.hid hown
      clear hB hown hxk hxb r7
      go_wp2_with (fail)
      refine C.out.mono ?_
      rintro e w5 ⟨rfl, hb5⟩
      have HB5 := Lib.hid (HB.out.trans (hb5.mono HB.out.size))
      have Hown5 := Lib.hid (own_turn Hown.out hb5)
      clear hb5 p0 hc C
      go_wp2_with (at_builtin; go_must (refine wpList_append_rect' rfl w4.heap.size _ _ rfl _ k _ rfl (own_two Hown5.out _ _) (w5.heap.size + 1) ⟨x, 0, g0, high⟩ rfl (two_rects w5 ⟨x, 0, g0, high⟩) (by omega) (by have := HB5.out.size; simp; omega) ?_); intro v' W' hown' hg' _; have HB6 : Hid (Below w4.heap.size w4 W') := Lib.hid (((HB5.out.alloc HB5.out.size _).alloc (by have := HB5.out.size; simp; omega) _).trans (grown_base (own_two Hown5.out _ _) hg' (by have := HB5.out.size; simp; omega))))
      go_roundw
      case rel => exact ⟨k + 1, by omega, by go_num, HB6.out, by rw [Hup.out]; exact hown'⟩
      case measure => simp [intOf]; omega
    · obtain rfl : k = cols.length + 1 := by omega
      have r7 := (hB.block _ (Array.getElem?_eq_some_iff.1 R4.out).1).trans R4.out
      have Hr5 := Lib.hid (Hr4.out.below hB)
      have N2 := Lib.hid (M2.out.below hB)
      have HBo := Lib.hid (HB4.out.trans (hB.mono HB4.out.size))
      have HB := Lib.hid hB
      have Hown := Lib.hid hown
      clear hB hown r7
      go_wp2_with (fail)
      refine (E32r.out _ _ _ Hr5.out N2.out).mono ?_
      rintro e w6 ⟨A6, c6, rfl, hi6, hb6, hbk6⟩
      have HG : Hid (Gut w4.heap.size w4 A6 (upto (gx g1 rows) (rows.length + 1)) u15 (cols.length + 1) (upto (gutV g0 high cols) (cols.length + 1) ++ rowsTo cols rows g0 g1 0) w6) := Lib.hid (by
        refine ⟨?_, HB.out.trans (hb6.mono HB.out.size), hi6, fun b off e => ?_⟩
        · have := own_turn Hown.out hb6
          simpa [rowsTo] using this
        · have h1 := hbk6 _ e
          intro h2
          have := (own_block Hown.out h2).2
          dsimp only at h1
          omega)
      have H46 : Hid (w4.heap.size ≤ w6.heap.size) := Lib.hid HG.out.below.size
      clear hi6 hb6 hbk6 Hown Hr5 N2 HBo
      have Rj : ∀ W, Below w4.heap.size w4 W → W.heap[w.heap.size]? = some (.cells #[.int .i64 g0, .int .i64 g1] 38 (0, 0)) := fun W hb => (hb.block _ (Array.getElem?_eq_some_iff.1 R4.out).1).trans R4.out
      have RJ := Lib.hid Rj
      clear Rj
      go_wp2_with (fail)
      go_loopw [15, 95] (fun o i wr => ∃ k : Nat, k ≤ rows.length + 1 ∧ i = .int .i64 k ∧ Hid (Gut w4.heap.size w4 A6 (upto (gx g1 rows) (rows.length + 1)) o (cols.length + 1 + k * cols.length) (upto (gutV g0 high cols) (cols.length + 1) ++ rowsTo cols rows g0 g1 k) wr)) (fun _ i _ => rows.length + 1 - (intOf i).toNat)
      case atStart => exact ⟨0, Nat.zero_le _, rfl, by rw [Nat.zero_mul, Nat.add_zero]; exact HG⟩
      case round =>
        obtain ⟨k, hk, rfl, HGk⟩ := hrel
        by_cases hlt : k < rows.length + 1
        · obtain ⟨y, b6, off6, hyk, rfl, hc6⟩ := HGk.out.ys.get k (by rw [upto_length]; exact hlt)
          rw [upto_get _ _ hlt] at hyk
          have hyb := HY.out k (by omega)
          rw [hyk.out] at hyb
          have tk : decide ((k : Int) < (rows.length : Int) + 1) = true := decide_eq_true (by omega)
          go_wp2_with (fail)
          clear hc6
          go_loopw [15, 101] (fun o i wr => ∃ q : Nat, q ≤ cols.length ∧ i = .int .i64 q ∧ Hid (Gut w4.heap.size w4 (some ⟨b6, off6, none⟩) (upto (gx g1 rows) (rows.length + 1)) o (cols.length + 1 + k * cols.length + q) ((upto (gutV g0 high cols) (cols.length + 1) ++ rowsTo cols rows g0 g1 k) ++ upto (gutH cols rows g0 g1 k) q) wr)) (fun _ i _ => cols.length - (intOf i).toNat)
          case atStart => exact ⟨0, Nat.zero_le _, rfl, by rw [show upto (gutH cols rows g0 g1 k) 0 = [] from rfl, List.append_nil, Nat.add_zero]; exact HGk⟩
          case round =>
            obtain ⟨q, hq, rfl, HGq⟩ := hrel
            by_cases hlq : q < cols.length
            · obtain ⟨x, bx, ox, hxq, rfl, hcx⟩ := (M1.out.below HGq.out.below).get q (by rw [upto_length]; exact hlq)
              obtain ⟨cw, bc, oc, hcq, rfl, hcc⟩ := (Hc4.out.below HGq.out.below).get q hlq
              rw [upto_get _ _ hlq] at hxq
              have hxb := HS.out q hq
              rw [hxq.out] at hxb
              have hcb := HE.out q hlq
              rw [hcq.out] at hcb
              have r7 := RJ.out _ HGq.out.below
              have C := Lib.hid (fun W => h33 cw g1 x y W hxb hyb (by omega) (by omega))
              have Hup : Hid (upto (gutH cols rows g0 g1 k) (q + 1) = upto (gutH cols rows g0 g1 k) q ++ [⟨x, y, cw, g1⟩]) := Lib.hid (by rw [upto_succ]; unfold gutH; rw [hxq.out, hyk.out, hcq.out])
              have ZC := Lib.hid hcc
              have Z1 : Hid (wr.cell? ⟨w.heap.size, 1, none⟩ = some (.int .i64 g1)) := Lib.hid (by unfold World.cell?; rw [r7]; rfl)
              have HGq' := HGq
              clear hcc r7 hxq hcq
              go_wp2_with (fail)
              clear hcx
              refine wp_region_ord 14 [(0, true), (1, true), (2, true), (3, true), (4, true), (5, true), (6, true), (7, true), (8, true), (9, true), (10, true), (11, true), (12, true), (13, false), (14, false), (15, false)] (by kernel_rfl) (by kernel_rfl) ?_
              intro Wc hWc
              iterate 3
                apply OrdAt.op (fun _ _ _ h => h) rfl rfl rfl
                · intro X hB
                  go_simp
                  try rfl
                · dsimp only [List.set_cons_zero, List.set_cons_succ]
              apply OrdAt.op (fun _ _ _ h => h) rfl rfl rfl
              · intro X hB
                have s := rd (hWc.tr hB) ZC.out
                go_simp
                try rfl
              · dsimp only [List.set_cons_zero, List.set_cons_succ]
              apply OrdAt.op (fun _ _ _ h => h) rfl rfl rfl
              · intro X hB
                go_simp
                try rfl
              · dsimp only [List.set_cons_zero, List.set_cons_succ]
              apply OrdAt.op (fun _ _ _ h => h) rfl rfl rfl
              · intro X hB
                have s := rd (hWc.tr hB) Z1.out
                go_simp
                try rfl
              · dsimp only [List.set_cons_zero, List.set_cons_succ]
              iterate 3
                apply OrdAt.op (fun _ _ _ h => h) rfl rfl rfl
                · intro X hB
                  go_simp
                  try rfl
                · dsimp only [List.set_cons_zero, List.set_cons_succ]
              apply OrdAt.call (fun _ _ _ h => h) rfl rfl rfl
              · intro X hB
                go_simp
                first | exact ⟨rfl, rfl⟩ | rfl
              · intro X hB
                refine (C.out _).mono ?_; rintro e W1 ⟨rfl, hb⟩; exact ⟨rfl, hb⟩
              · dsimp only [List.set_cons_zero, List.set_cons_succ]
              iterate 3
                apply OrdAt.op (fun _ _ _ h => h) rfl rfl rfl
                · intro X hB
                  go_simp
                  try rfl
                · dsimp only [List.set_cons_zero, List.set_cons_succ]
              refine OrdAt.seq rfl rfl ?_
              intro X hB
              go_wp2_with (fail)
              have hW4 := hWc.tr hB
              have hnew := Lib.hid (heap_alloc_new X (.cells #[.int .i64 0, .int .i64 0, .int .i64 0, .int .i64 0] 47))
              have hXs : Hid (wr.heap.size ≤ X.heap.size) := Lib.hid hW4.size
              have hXa : Hid (Ext wr (X.alloc (.cells #[.int .i64 0, .int .i64 0, .int .i64 0, .int .i64 0] 47))) := Lib.hid (hW4.tr ((Below.refl _ _).alloc (Nat.le_refl _) _))
              refine ⟨.inr ((Below.refl _ X).alloc (Nat.le_refl _) _), ?_⟩
              generalize X.alloc (.cells #[.int .i64 0, .int .i64 0, .int .i64 0, .int .i64 0] 47) = X2 at *
              clear hW4 hB
              refine OrdAt.seq rfl rfl ?_
              intro X3 hB
              have hlt2 := (Array.getElem?_eq_some_iff.1 hnew.out).1
              have g1' := (hB.block _ hlt2).trans hnew.out
              have hlt3 := (Array.getElem?_eq_some_iff.1 g1').1
              have z0 : X3.cell? ⟨X.heap.size, 0, none⟩ = some (.int .i64 0) := by unfold World.cell?; rw [g1']; rfl
              have z1 : X3.cell? ⟨X.heap.size, 1, none⟩ = some (.int .i64 0) := by unfold World.cell?; rw [g1']; rfl
              have z2 : X3.cell? ⟨X.heap.size, 2, none⟩ = some (.int .i64 0) := by unfold World.cell?; rw [g1']; rfl
              have z3 : X3.cell? ⟨X.heap.size, 3, none⟩ = some (.int .i64 0) := by unfold World.cell?; rw [g1']; rfl
              have f1 : ∀ i, X3.frozen? ⟨X.heap.size, i, none⟩ = false := fun i => by simp [World.frozen?, g1']
              have HX3 := Lib.hid (hXa.out.tr hB)
              have HR3 : Hid (RRow ((((X3.setCell ⟨X.heap.size, 0, none⟩ (.int .i64 x)).setCell ⟨X.heap.size, 1, none⟩ (.int .i64 y)).setCell ⟨X.heap.size, 2, none⟩ (.int .i64 cw)).setCell ⟨X.heap.size, 3, none⟩ (.int .i64 g1)) X.heap.size ⟨x, y, cw, g1⟩) := Lib.hid ⟨by simp [World.setCell, Array.getElem?_modify, g1', Rect.arr]⟩
              clear hB g1' hlt2 hlt3
              go_wp2_with (fail)
              refine ⟨.inl (by decide), ?_⟩
              refine OrdAt.seq rfl rfl ?_
              intro X4 hB4
              clear z0 z1 z2 z3 f1
              have HB4x := Lib.hid hB4
              clear hB4
              go_wp2_with (fail)
              refine ⟨.inl (by decide), OrdAt.done ?_⟩
              intro W3 hW3'
              have hW3 := HB4x.out.tr hW3'
              have hR := HR3.out.turn hW3
              have hbw : Below wr.heap.size wr W3 := ((((HX3.out.setCell (p := ⟨X.heap.size, 0, none⟩) hXs.out (.int .i64 x)).setCell (p := ⟨X.heap.size, 1, none⟩) hXs.out (.int .i64 y)).setCell (p := ⟨X.heap.size, 2, none⟩) hXs.out (.int .i64 cw)).setCell (p := ⟨X.heap.size, 3, none⟩) hXs.out (.int .i64 g1)).trans (hW3.mono (by simp only [World.setCell, Array.size_modify]; exact HX3.out.size))
              have HG3 := Lib.hid (HGq.out.turn hbw (Nat.le_refl _))
              have q0 : W3.cell? ⟨X.heap.size, 0, none⟩ = some (.int .i64 x) := by unfold World.cell?; rw [hR.at_]; rfl
              have q1 : W3.cell? ⟨X.heap.size, 1, none⟩ = some (.int .i64 y) := by unfold World.cell?; rw [hR.at_]; rfl
              have q2 : W3.cell? ⟨X.heap.size, 2, none⟩ = some (.int .i64 cw) := by unfold World.cell?; rw [hR.at_]; rfl
              have q3 : W3.cell? ⟨X.heap.size, 3, none⟩ = some (.int .i64 g1) := by unfold World.cell?; rw [hR.at_]; rfl
              clear hR hbw hW3 hW3' HB4x HR3 HX3 hXa hnew hXs ZC Z1
              have hkc : k * cols.length ≤ 40 * 40 := Nat.mul_le_mul (by omega) hlc
              go_wp2_with (at_builtin; go_must (refine wpList_append_rect' rfl w4.heap.size _ _ rfl _ (cols.length + 1 + k * cols.length + q) _ rfl (own_turn HG3.out.own ((Below.refl _ W3).alloc (Nat.le_refl _) _)) W3.heap.size ⟨x, y, cw, g1⟩ rfl (RRow.new W3 ⟨x, y, cw, g1⟩) (by omega) (by have := HG3.out.below.size; simp; omega) ?_); intro v' W' hown' hg' hv'; have HG6 := Lib.hid ((HG3.out.turn ((Below.refl _ W3).alloc (Nat.le_refl _) _) (Nat.le_refl _)).app (Nat.le_refl _) (by rw [upto_length]; omega) hown' hg' hv'))
              go_roundw
              case rel => exact ⟨q + 1, by omega, by go_num, by rw [Hup.out, ← List.append_assoc, ← Nat.add_assoc]; exact HG6⟩
              case measure => simp [intOf]; omega
            · obtain rfl : q = cols.length := by omega
              have HGn : Hid (Gut w4.heap.size w4 (some ⟨b6, off6, none⟩) (upto (gx g1 rows) (rows.length + 1)) u15 (cols.length + 1 + (k + 1) * cols.length) (upto (gutV g0 high cols) (cols.length + 1) ++ rowsTo cols rows g0 g1 (k + 1)) wr) := Lib.hid (by
                have h := HGq.out
                rw [List.append_assoc, Nat.add_assoc, ← Nat.succ_mul] at h
                exact h)
              clear HGq HGk
              go_wp2_with (fail)
              go_roundw
              case rel => exact ⟨k + 1, by omega, by go_num, HGn⟩
              case measure => simp [intOf]; omega
        · obtain rfl : k = rows.length + 1 := by omega
          have hlen : (guts cols rows g0 g1).length = cols.length + 1 + (rows.length + 1) * cols.length := by unfold guts; rw [List.length_append, upto_length, rowsTo_length]
          obtain ⟨A, c, rfl, hA⟩ := own_rects HGk.out.own (by rw [List.length_append, upto_length, rowsTo_length])
          have HA : Hid (Rects wr A (guts cols rows g0 g1)) := Lib.hid (by unfold guts; rw [HH.out]; exact hA)
          have HBe : Hid (Below w.heap.size w wr) := Lib.hid (HBf.out.trans (HGk.out.below.mono HBf.out.size))
          have Hlen := Lib.hid hlen
          clear hA hlen HGk
          go_wp2_with (fail)
          go_ret2
          refine ⟨⟨A, c, by rw [Hlen.out]; rfl, HA.out⟩, HBe.out⟩

end Go.Proofs.Ytnjifmoclfgegaa
