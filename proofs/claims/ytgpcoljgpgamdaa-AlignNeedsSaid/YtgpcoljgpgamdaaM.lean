/- The contract of align.Downs: for wrong cells or bands an error, for right ones how far each content is moved down. -/
import Derived.Test.YtgpcoljgpgamdaaL
namespace Go.Proofs.Ytgpcoljgpgamdaa
open Go.RowKit Go.Shelf
set_option linter.unusedVariables false
theorem run_store_func {P : Program} {w : World} {a : Addr} {m : Mode} (f : Fn) (x y : Array Value) : (store a (.func f x y) m).run P w = stored P w a (.func f x y) m := run_store P w a _ m rfl
attribute [local go_sem] run_store_func

theorem ownsRow_ext {w w' : World} {base : Nat} {e : TypeId} {size : Nat} {v : Value} {n : Nat} {xs : List Value} (h : w.ownsRow base e size v n xs) (hx : Ext w w') : w'.ownsRow base e size v n xs := by
  have hg : w.grownBy w' none := ⟨hx.os, hx.tape, hx.output, hx.size, fun k hk _ => hx.block k hk⟩
  rcases h.2 with ⟨h0, _⟩ | ⟨g, cap, cur, h0, _⟩
  · exact h.kept hg (.inl (by rw [h0]; rfl))
  · exact h.kept hg (.inr (by rw [h0]; simp [Value.ownBlock]))
theorem wp_scope_label {P : Program} {a : Act} {w : World} {Q : Exit → Act → World → Prop} {c rest : Code} (l : Nat) (J : Act → World → Prop) (μ : Act → World → Nat) (hf : findLabel c l = some (Code.skip.seq rest))
    (first : (∀ a w, J a w → rest.wp P (Exit.jump l J Q) a w) → c.wp P (Exit.jump l J Q) a w)
    (pass : ∀ a w, J a w → rest.wp P (Exit.jump l (fun a' w' => J a' w' ∧ μ a' w' < μ a w) Q) a w) : (Code.scope c).wp P Q a w :=
  wp_scope_jumps l J μ hf (first fun a w hJ => Code.wp_mono (fun e a' w' h => by
    cases e with
    | goto l' => exact ⟨h.1, h.2.1⟩
    | _ => exact h) (pass a w hJ)) fun a w hJ => wp_seq (wp_skip (pass a w hJ))

/-- the table of closures -/
def Moves (W : World) (B8 B11 : Nat) : Prop := W.cell? ⟨B11, 0, none⟩ = some (.func (.func 30) #[] #[.pointer (some ⟨B8, 0, none⟩)]) ∧ W.cell? ⟨B11, 1, none⟩ = some (.func (.func 31) #[] #[]) ∧ W.cell? ⟨B11, 2, none⟩ = some (.func (.func 32) #[] #[]) ∧ W.cell? ⟨B11, 3, none⟩ = some (.func (.func 33) #[] #[])
inductive DownJ (w : World) (A Ar : Option Addr) (c cr : Nat) (xs : List Cell) (rows L : List Int) (gap : Int) : Act → World → Prop
  | mk {W : World} (W1 : World) (gL B8 B11 : Nat) (k : Nat) (v v13 v14 v15 v33 v34 v35 v36 v37 v38 v39 v40 v41 v42 v43 v44 v45 v46 v47 v48 v49 v50 v51 v52 v53 v54 v55 v56 v57 v58 v59 v60 v61 v62 v63 v64 v65 v66 v67 v68 v69 v70 v71 v72 v73 v74 : Value) (h1 : Hid (Below w.heap.size w W1)) (h2 : Hid (Boxed W1 B8 25 (.slice (some ⟨gL, 0, none⟩) rows.length rows.length))) (h3 : Hid (RowB W1 gL L)) (h4 : Hid (Moves W1 B8 B11)) (hk : k ≤ xs.length) (hr : Hid (W.ownsRow W1.heap.size 2 1 v k (((xs.take k).map (downOf L rows gap)).map (Value.int .i64)))) (hB : Hid (Below W1.heap.size W1 W)) : DownJ w A Ar c cr xs rows L gap { tmps := #[.slice Ar rows.length cr, .int .i64 gap, .slice A xs.length c, undef, undef, undef, .slice none 0 0, .int .i64 0, .pointer (some ⟨B8, 0, none⟩), .int .i64 0, v, .pointer (some ⟨B11, 0, none⟩), .int .i64 k, v13, v14, v15, .tuple #[.slice (some ⟨gL, 0, none⟩) rows.length rows.length, .int .i64 0], .slice Ar rows.length cr, .int .i64 rows.length, .slice A xs.length c, .tuple #[.slice (some ⟨gL, 0, none⟩) rows.length rows.length, .int .i64 0], .slice (some ⟨gL, 0, none⟩) rows.length rows.length, .int .i64 0, .int .i64 0, .bool false, .bool false, .slice Ar rows.length cr, .int .i64 gap, .bool true, .bool false, .bool false, .func (.func 30) #[] #[.pointer (some ⟨B8, 0, none⟩)], .agg #[.func (.func 30) #[] #[.pointer (some ⟨B8, 0, none⟩)], .func (.func 31) #[] #[], .func (.func 32) #[] #[], .func (.func 33) #[] #[]], v33, v34, v35, v36, v37, v38, v39, v40, v41, v42, v43, v44, v45, v46, v47, v48, v49, v50, v51, v52, v53, v54, v55, v56, v57, v58, v59, v60, v61, v62, v63, v64, v65, v66, v67, v68, v69, v70, v71, v72, v73, v74], defers := [] } W

def DownsSaid (xs : List Cell) (rows : List Int) (gap : Int) (w : World) (e : Ending) (w' : World) : Prop :=
  ∃ A c, e = .returned (.tuple #[.slice A xs.length c, .int .i64 0]) ∧ xs.length ≤ c ∧ Ints w' A (xs.map (downOf (linesC rows.length xs) rows gap)) ∧ Below w.heap.size w w'

set_option maxRecDepth 100000 in
set_option maxHeartbeats 4000000 in
theorem downs19_right (A Ar : Option Addr) (xs : List Cell) (c cr : Nat) (rows : List Int) (gap : Int) (w : World) (hx : Cells w A xs) (hl : xs.length ≤ 1000) (hrows : Ints w Ar rows) (hr : rightC rows.length xs = true) (hb : right rows gap = true) :
    Calls Try.prog 19 #[.slice Ar rows.length cr, .int .i64 gap, .slice A xs.length c] w (DownsSaid xs rows gap w) := by
  have H := Lib.hid (lines12_right A xs c rows.length w hx (by omega) hr)
  have Hx := Lib.hid hx
  have Hrows := Lib.hid hrows
  have H16 := Lib.hid (fun W (h : Ints W Ar rows) => by have := c16 Ar rows cr gap W h (by have := (right_iff.1 hb).1; omega); rw [hb] at this; exact this)
  have H14 := Lib.hid (fun W (h : Ints W Ar rows) (a n : Nat) (hs : a + n ≤ rows.length) => c14_right Ar rows cr gap a n W h hb hs)
  have Hsp := Lib.hid (fun (a n : Nat) (hs : a + n ≤ rows.length) => sp_bounds hb (a := a) (n := n) hs)
  have hlr := (right_iff.1 hb).1
  unfold rightC at hr
  rw [Bool.and_eq_true, Bool.not_eq_true'] at hr
  have Hok := Lib.hid (bads_all hr.2)
  have Hlb := Lib.hid (lines_bound rows.length (xs := xs) (K := 1125899906842623) (by omega) (fun q => (inR_iff.1 (okCell_base (bads_all hr.2 q.1 q.2.1))).2) (basedTo xs xs.length))
  have Hll : Hid ((linesC rows.length xs).length = rows.length) := Lib.hid (linesOf_len _ _ _)
  obtain ⟨i0, hi, hz0, hz1, hz2⟩ := info_parts Try.info2
  clear hx hr hrows hb
  go_enter Try.func19, Try.ntmps19
  go_wp2_with (fail)
  refine wp_scope_label 0 (DownJ w A Ar c cr xs rows (linesC rows.length xs) gap) (fun a _ => xs.length - (intOf (a.tmps.getD 12 undef)).toNat) rfl ?first ?pass
  case first =>
    intro hpass
    go_wp2_with (fail)
    refine H.out.mono ?_
    rintro e w1 ⟨gL, rfl, hrow, hgL, hb1⟩
    have hsz1 := hb1.size
    obtain ⟨wa, hwa⟩ : ∃ wa, (w1.alloc (Obj.cells #[Value.slice (some ⟨gL, 0, none⟩) rows.length rows.length] 25)).alloc (Obj.cells #[Value.nilFunc, Value.nilFunc, Value.nilFunc, Value.nilFunc] 51) = wa := ⟨_, rfl⟩
    have ba : Below w1.heap.size w1 wa := by rw [← hwa]; exact ((Below.refl _ w1).alloc (Nat.le_refl _) _).alloc (by simp) _
    have sa : wa.heap.size = w1.heap.size + 2 := by rw [← hwa]; simp
    have bl : Boxed wa w1.heap.size 25 (.slice (some ⟨gL, 0, none⟩) rows.length rows.length) := by rw [← hwa]; exact (Boxed.new w1 25 _).alloc _
    have bm : wa.heap[w1.heap.size + 1]? = some (.cells #[Value.nilFunc, Value.nilFunc, Value.nilFunc, Value.nilFunc] 51 (0, 0)) := by
      rw [← hwa]
      have := heap_alloc_new (w1.alloc (Obj.cells #[Value.slice (some ⟨gL, 0, none⟩) rows.length rows.length] 25)) (Obj.cells #[Value.nilFunc, Value.nilFunc, Value.nilFunc, Value.nilFunc] 51)
      rw [World.size_alloc] at this; exact this
    have Hba := Lib.hid ba
    have Hbl := Lib.hid bl
    have Hbm := Lib.hid bm
    have Hb1 := Lib.hid hb1
    have Hrow := Lib.hid hrow
    have hgl := hrow.lt
    clear ba bl bm hb1 hrow
    go_wp2_with (fail)
    clear hwa
    refine (H16.out wa (Hrows.out.below (Hb1.out.trans (Hba.out.mono hsz1)))).mono ?_
    rintro e w2 ⟨rfl, hb2⟩
    have bm2 := (hb2.block (w1.heap.size + 1) (by omega)).trans Hbm.out
    have m0 : w2.cell? ⟨w1.heap.size + 1, 0, none⟩ = some Value.nilFunc := by simp [World.cell?, bm2]
    have m1 : w2.cell? ⟨w1.heap.size + 1, 1, none⟩ = some Value.nilFunc := by simp [World.cell?, bm2]
    have m2 : w2.cell? ⟨w1.heap.size + 1, 2, none⟩ = some Value.nilFunc := by simp [World.cell?, bm2]
    have m3 : w2.cell? ⟨w1.heap.size + 1, 3, none⟩ = some Value.nilFunc := by simp [World.cell?, bm2]
    have f0 : w2.frozen? ⟨w1.heap.size + 1, 0, none⟩ = false := by simp [World.frozen?, bm2]
    have f1 : w2.frozen? ⟨w1.heap.size + 1, 1, none⟩ = false := by simp [World.frozen?, bm2]
    have f2 : w2.frozen? ⟨w1.heap.size + 1, 2, none⟩ = false := by simp [World.frozen?, bm2]
    have f3 : w2.frozen? ⟨w1.heap.size + 1, 3, none⟩ = false := by simp [World.frozen?, bm2]
    have Hb2 := Lib.hid hb2
    have Hbm2 := Lib.hid bm2
    clear hb2 bm2
    go_wp2_with (fail)
    rename_i hK
    refine wp_label (hK _ _ (hpass _ _ ?_))
    clear hK
    have n0 := heap_setCell_same _ _ 0 _ _ (Value.func (Fn.func 30) #[] #[Value.pointer (some { block := w1.heap.size, off := 0 })]) Hbm2.out
    have n1 := heap_setCell_same _ _ 1 _ _ (Value.func (Fn.func 31) #[] #[]) n0
    have n2 := heap_setCell_same _ _ 2 _ _ (Value.func (Fn.func 32) #[] #[]) n1
    have n3 := heap_setCell_same _ _ 3 _ _ (Value.func (Fn.func 33) #[] #[]) n2
    simp only [List.setIfInBounds_toArray, List.set_cons_zero, List.set_cons_succ] at n3
    have hz2 := Hb2.out.size
    have hBa : Below (w1.heap.size + 1) wa ((((w2.setCell { block := w1.heap.size + 1, off := 0 } (Value.func (Fn.func 30) #[] #[Value.pointer (some { block := w1.heap.size, off := 0 })])).setCell { block := w1.heap.size + 1, off := 1 } (Value.func (Fn.func 31) #[] #[])).setCell { block := w1.heap.size + 1, off := 2 } (Value.func (Fn.func 32) #[] #[])).setCell { block := w1.heap.size + 1, off := 3 } (Value.func (Fn.func 33) #[] #[])) :=
      ((((Hb2.out.mono (B' := w1.heap.size + 1) (by omega)).setCell (p := ⟨w1.heap.size + 1, 0, none⟩) (Nat.le_refl _) _).setCell (p := ⟨w1.heap.size + 1, 1, none⟩) (Nat.le_refl _) _).setCell (p := ⟨w1.heap.size + 1, 2, none⟩) (Nat.le_refl _) _).setCell (p := ⟨w1.heap.size + 1, 3, none⟩) (Nat.le_refl _) _
    refine DownJ.mk _ gL w1.heap.size (w1.heap.size + 1) 0 _ _ _ _ _ _ _ _ _ _ _ _ _ _ _ _ _ _ _ _ _ _ _ _ _ _ _ _ _ _ _ _ _ _ _ _ _ _ _ _ _ _ _ _ _ _ (Lib.hid ((Hb1.out.trans (Hba.out.mono hsz1)).trans (hBa.mono (by omega)))) (Lib.hid ((hBa.block _ (by omega)).trans Hbl.out)) (Lib.hid ((Hrow.out.below Hba.out hgl).below hBa (by omega))) (Lib.hid ?_) (Nat.zero_le _) (Lib.hid (World.ownsRow_nil _ _ _ _)) (Lib.hid (Below.refl _ _))
    exact ⟨by simp [World.cell?, n3], by simp [World.cell?, n3], by simp [World.cell?, n3], by simp [World.cell?, n3]⟩
  case pass =>
    rintro a W ⟨W1, gL, B8, B11, k, v, v13, v14, v15, v33, v34, v35, v36, v37, v38, v39, v40, v41, v42, v43, v44, v45, v46, v47, v48, v49, v50, v51, v52, v53, v54, v55, v56, v57, v58, v59, v60, v61, v62, v63, v64, v65, v66, v67, v68, v69, v70, v71, v72, v73, v74, h1, h2, h3, h4, hk, hr, hB⟩
    have hwW : Below w.heap.size w W := h1.out.trans (hB.out.mono h1.out.size)
    by_cases hlt : k < xs.length
    · obtain ⟨x, b, off, hxk, rfl, hc⟩ := (Hx.out.below hwW).get k hlt
      have hok := Hok.out k hlt
      rw [hxk.out] at hok
      have hok2 := hok
      unfold okCell at hok2
      rw [Bool.and_eq_true, Bool.and_eq_true] at hok2
      have hw := of_decide_eq_true hok2.1
      have hal := inR_iff.1 hok2.2.1
      have hhi := inR_iff.1 (okCell_high hok)
      have hsnoc : Hid (((xs.take k).map (downOf (linesC rows.length xs) rows gap)).map (Value.int .i64) ++ [.int .i64 (downOf (linesC rows.length xs) rows gap x)] = ((xs.take (k + 1)).map (downOf (linesC rows.length xs) rows gap)).map (Value.int .i64)) := by
        refine Lib.hid ?_
        have h1 : xs[k] = x := by have := hxk.out; rw [List.getElem?_eq_getElem hlt] at this; exact this
        rw [List.take_succ_eq_append_getElem hlt, h1]; simp
      have H30 := Lib.hid (fun X (hX : Ext W1 X) (ha : x.al = 0) (m : Int) => d30 (linesC rows.length xs) x m B8 gL X rows.length Hll.out hok Hlb.out ha (boxed_below h2.out hX).cell (h3.out.below hX h3.out.lt))
      have hmv := h4.out
      have t1 : ((k : Int) == (xs.length : Int)) = false := by rw [beq_eq_false_iff_ne]; omega
      have t2 : (k == xs.length) = false := by rw [beq_eq_false_iff_ne]; omega
      have hce : ∃ (aln : Nat) (f : Nat) (caps : Array Value), (∀ args X, (callFunc f args).run Try.prog X = .ok (.enter f args) X) ∧ x.al = aln ∧ aln < 4 ∧ W1.cell? ⟨B11, aln, none⟩ = some (.func (.func f) #[] caps) ∧ ∀ X, Ext W1 X → ∀ m : Int, 0 ≤ m → m ≤ 1152921504606846976 → Calls Try.prog f (#[.agg x.arr, .int .i64 m] ++ caps) X fun e w' => e = .returned (.int .i64 (downF (linesC rows.length xs) x m)) ∧ Below X.heap.size X w' := by
        obtain ⟨m0, m1, m2, m3⟩ := hmv
        have : x.al = 0 ∨ x.al = 1 ∨ x.al = 2 ∨ x.al = 3 := by omega
        rcases this with h | h | h | h
        · exact ⟨0, 30, _, enters_of Try.func30 (by kernel_rfl) rfl, h, by omega, m0, fun X hX m _ _ => H30.out X hX h m⟩
        · exact ⟨1, 31, _, enters_of Try.func31 (by kernel_rfl) rfl, h, by omega, m1, fun X hX m _ _ => d31 _ x m X h⟩
        · exact ⟨2, 32, _, enters_of Try.func32 (by kernel_rfl) rfl, h, by omega, m2, fun X hX m q1 q2 => d32 _ x m X h q1 q2⟩
        · exact ⟨3, 33, _, enters_of Try.func33 (by kernel_rfl) rfl, h, by omega, m3, fun X hX m _ _ => d33 _ x m X h⟩
      obtain ⟨aln, f, caps, hen, hae, hal4, hfc, hfcall⟩ := hce
      have Hdo : Hid (downOf (linesC rows.length xs) rows gap x = downF (linesC rows.length xs) x (max (sp gap rows x.row.toNat x.rows.toNat - x.high) 0)) := Lib.hid rfl
      have Hfc := Lib.hid hfc
      have Hen := Lib.hid hen
      clear hen
      have Hfcall := Lib.hid hfcall
      clear hmv hfc hfcall H30 hok hok2
      generalize downOf (linesC rows.length xs) rows gap x = dv at *
      obtain ⟨node, row, col, rws, cols, mn, mx, high, base, hbb, al⟩ := x
      dsimp only at hw hal hhi hae
      subst hae
      obtain ⟨row, rfl⟩ := Int.eq_ofNat_of_zero_le hw.1
      obtain ⟨rws, rfl⟩ := Int.eq_ofNat_of_zero_le (show 0 ≤ rws by omega)
      dsimp only at Hdo
      rw [Int.toNat_natCast, Int.toNat_natCast] at Hdo
      obtain ⟨q0, q1, q2, q3, q4, q5, q6, q7, q8, q9, q10⟩ := hc
      dsimp only at q0 q1 q2 q3 q4 q5 q6 q7 q8 q9 q10
      have hs : row + rws ≤ rows.length := by omega
      have hspb := Hsp.out row rws hs
      have hpos : 0 < rws := by omega
      have HWw := Lib.hid hwW
      clear hwW
      go_wp2_with (fail)
      have hnw := heap_alloc_new W (.cells #[.int .i64 node, .int .i64 row, .int .i64 col, .int .i64 rws, .int .i64 cols, .int .i64 mn, .int .i64 mx, .int .i64 high, .int .i64 base, .bool hbb, .int .i64 aln] 41)
      have haw : Ext W (W.alloc (.cells #[.int .i64 node, .int .i64 row, .int .i64 col, .int .i64 rws, .int .i64 cols, .int .i64 mn, .int .i64 mx, .int .i64 high, .int .i64 base, .bool hbb, .int .i64 aln] 41)) := (Below.refl _ W).alloc (Nat.le_refl _) _
      refine (H14.out _ (Hrows.out.below (HWw.out.trans (haw.mono HWw.out.size))) row rws hs).mono ?_
      rintro e w3 ⟨rfl, hb3⟩
      have hW3 : Hid (Ext W w3) := Lib.hid (haw.tr hb3)
      have hk3 := (hb3.block W.heap.size (by simp)).trans hnw
      have z0 : w3.cell? ⟨W.heap.size, 0, none⟩ = some (.int .i64 node) := by simp [World.cell?, hk3]
      have z1 : w3.cell? ⟨W.heap.size, 1, none⟩ = some (.int .i64 row) := by simp [World.cell?, hk3]
      have z2 : w3.cell? ⟨W.heap.size, 2, none⟩ = some (.int .i64 col) := by simp [World.cell?, hk3]
      have z3 : w3.cell? ⟨W.heap.size, 3, none⟩ = some (.int .i64 rws) := by simp [World.cell?, hk3]
      have z4 : w3.cell? ⟨W.heap.size, 4, none⟩ = some (.int .i64 cols) := by simp [World.cell?, hk3]
      have z5 : w3.cell? ⟨W.heap.size, 5, none⟩ = some (.int .i64 mn) := by simp [World.cell?, hk3]
      have z6 : w3.cell? ⟨W.heap.size, 6, none⟩ = some (.int .i64 mx) := by simp [World.cell?, hk3]
      have z7 : w3.cell? ⟨W.heap.size, 7, none⟩ = some (.int .i64 high) := by simp [World.cell?, hk3]
      have z8 : w3.cell? ⟨W.heap.size, 8, none⟩ = some (.int .i64 base) := by simp [World.cell?, hk3]
      have z9 : w3.cell? ⟨W.heap.size, 9, none⟩ = some (.bool hbb) := by simp [World.cell?, hk3]
      have z10 : w3.cell? ⟨W.heap.size, 10, none⟩ = some (.int .i64 aln) := by simp [World.cell?, hk3]
      have WN := Lib.hid (IntWalk.i64_in (sp gap rows row rws - high) (by omega))
      have Z0 := Lib.hid z0
      have Z1 := Lib.hid z1
      have Z2 := Lib.hid z2
      have Z3 := Lib.hid z3
      have Z4 := Lib.hid z4
      have Z5 := Lib.hid z5
      have Z6 := Lib.hid z6
      have Z7 := Lib.hid z7
      have Z8 := Lib.hid z8
      have Z9 := Lib.hid z9
      have Z10 := Lib.hid z10
      have h13 : Hid (Ext W1 w3) := Lib.hid (Ext.tr hB.out hW3.out)
      have h3c : Hid (Ext w3 w3) := Lib.hid (Below.refl _ _)
      have gb : ∀ {a b : World}, Ext a b → a.grownBy b none := fun h => ⟨h.os, h.tape, h.output, h.size, fun k hk _ => h.block k hk⟩
      have hbi1 : (0 : Int) ≤ (aln : Int) := by omega
      have hbi2 : (aln : Int) < 4 := by omega
      clear z0 z1 z2 z3 z4 z5 z6 z7 z8 z9 z10 q0 q1 q2 q3 q4 q5 q6 q7 q8 q9 q10 hb3 hk3 hnw haw
      by_cases hm : sp gap rows row rws - high < 0
      · have hdv : Hid (downF (linesC rows.length xs) ⟨node, row, col, rws, cols, mn, mx, high, base, hbb, aln⟩ (0) = dv) := Lib.hid (by rw [Hdo.out, show max (sp gap rows row rws - high) 0 = 0 by omega])
        clear Hdo
        have Hcl := Lib.hid (fun X (hX : Ext W1 X) => Hfcall.out X hX (0) (by omega) (by omega))
        rw [hdv.out] at Hcl
        clear Hfcall hdv
        go_wp2_with (fail)
        refine wp_region_ord 14 [(0, true), (1, true), (2, true), (3, true), (4, true), (5, true), (6, true), (7, true), (8, true), (9, true), (10, true), (11, true), (12, true), (13, false), (14, false), (15, false)] (by kernel_rfl) (by kernel_rfl) ?_
        intro Wc hWc
        iterate 2
          apply OrdAt.op (fun _ _ _ h => h) rfl rfl rfl
          · intro X hB2
            go_simp
            try rfl
          · dsimp only [List.set_cons_zero, List.set_cons_succ]
        apply OrdAt.op (fun _ _ _ h => h) rfl rfl rfl
        · intro X hB2
          have s := rd (h3c.out.tr (hWc.tr hB2)) Z10.out
          go_simp
          try rfl
        · dsimp only [List.set_cons_zero, List.set_cons_succ]
        apply OrdAt.op (fun _ _ _ h => h) rfl rfl rfl
        · intro X hB2
          go_simp
          try rfl
        · dsimp only [List.set_cons_zero, List.set_cons_succ]
        apply OrdAt.op (fun _ _ _ h => h) rfl rfl rfl
        · intro X hB2
          have s := rd (h13.out.tr (h3c.out.tr (hWc.tr hB2))) Hfc.out
          go_simp
          try rfl
        · dsimp only [List.set_cons_zero, List.set_cons_succ]
        apply OrdAt.op (fun _ _ _ h => h) rfl rfl rfl
        · intro X hB2
          have e := h3c.out.tr (hWc.tr hB2)
          have s0 := rd e Z0.out
          have s1 := rd e Z1.out
          have s2 := rd e Z2.out
          have s3 := rd e Z3.out
          have s4 := rd e Z4.out
          have s5 := rd e Z5.out
          have s6 := rd e Z6.out
          have s7 := rd e Z7.out
          have s8 := rd e Z8.out
          have s9 := rd e Z9.out
          have s10 := rd e Z10.out
          go_simp
          try rfl
        · dsimp only [List.set_cons_zero, List.set_cons_succ]
        iterate 3
          apply OrdAt.op (fun _ _ _ h => h) rfl rfl rfl
          · intro X hB2
            go_simp
            try rfl
          · dsimp only [List.set_cons_zero, List.set_cons_succ]
        apply OrdAt.op (fun _ _ _ h => h) rfl rfl rfl
        · intro X hB2
          have s := rd (h3c.out.tr (hWc.tr hB2)) Z7.out
          go_simp
          try rfl
        · dsimp only [List.set_cons_zero, List.set_cons_succ]
        apply OrdAt.op (fun _ _ _ h => h) rfl rfl rfl
        · intro X hB2
          have s := WN.out
          go_simp
          try rfl
        · dsimp only [List.set_cons_zero, List.set_cons_succ]
        apply OrdAt.op (fun _ _ _ h => h) rfl rfl rfl
        · intro X hB2
          go_simp
          try rfl
        · dsimp only [List.set_cons_zero, List.set_cons_succ]
        apply OrdAt.call (fun _ _ _ h => h) rfl rfl rfl
        · intro X hB2
          have s := Hen.out
          go_simp
          first | exact ⟨rfl, rfl⟩ | rfl
        · intro X hB2
          refine (Hcl.out X (h13.out.tr (h3c.out.tr (hWc.tr hB2)))).mono ?_; rintro e W9 ⟨rfl, hb⟩; exact ⟨rfl, hb⟩
        · dsimp only [List.set_cons_zero, List.set_cons_succ]
        refine OrdAt.seq rfl rfl ?_
        intro X hB2
        go_wp2_with (fail)
        have hX0 := h3c.out.tr (hWc.tr hB2)
        have hrowX := (ownsRow_ext hr.out (hW3.out.tr hX0)).alloc (.cells #[.int .i64 dv] 2)
        have hnewX := cell_one_new X (.int .i64 dv) 2
        have hszX := Nat.le_trans hB.out.size (hW3.out.tr hX0).size
        have HBX := Lib.hid (HWw.out.trans ((hW3.out.tr hX0).mono HWw.out.size))
        have HBX1 := Lib.hid (hB.out.trans ((hW3.out.tr hX0).mono hB.out.size))
        refine ⟨.inr ((Below.refl _ X).alloc (Nat.le_refl _) _), ?_⟩
        have hXX : Ext X (X.alloc (.cells #[.int .i64 dv] 2)) := (Below.refl _ X).alloc (Nat.le_refl _) _
        have hszX2 := hXX.size
        have HXX := Lib.hid hXX
        have hcX : (X.alloc (.cells #[.int .i64 dv] 2)).cell? ⟨X.heap.size, 0, none⟩ = some (.int .i64 dv) := by unfold World.cell?; rw [heap_alloc_new]; rfl
        have HcX := Lib.hid hcX
        have Hrx := Lib.hid hrowX
        clear hXX hcX hrowX hnewX
        generalize X.alloc (.cells #[.int .i64 dv] 2) = X2 at *
        refine OrdAt.seq rfl rfl ?_
        intro Y hY
        have hrowY := ownsRow_ext Hrx.out hY
        have hcY := rd hY HcX.out
        have hszY := hY.size
        have HBY := Lib.hid ((HBX1.out.trans (HXX.out.mono hszX)).trans (hY.mono (by omega)))
        refine wp_append_own Y _ _ 25 rfl W1.heap.size 2 i0 (.int .i64 0) 1 8 Try.underlying25 hi hz0 hz1 hz2 rfl (by decide) v k _ rfl hrowY ⟨X.heap.size, 0, none⟩ 1 1 [.int .i64 dv] rfl rfl (fun j u hu => by
          cases j with
          | zero => simp at hu; subst hu; exact hcY
          | succ j => simp at hu) (by simp [Value.oneCell']) (by unfold maxLen; omega) (by omega) (by omega) ?_
        intro v' w1' hown' hgrow _
        have hBg : Below W1.heap.size W1 w1' := HBY.out.grown hgrow (by omega) (fun q e => by
          rcases hrowY.2 with ⟨h0, _⟩ | ⟨g, cap, cur, h0, hg, _⟩
          · rw [h0] at e; simp [Value.ownBlock] at e
          · rw [h0] at e; simp [Value.ownBlock] at e; omega)
        rw [hsnoc.out] at hown'
        have HO := Lib.hid hown'
        have HBg := Lib.hid hBg
        clear hown' hgrow hrowY hcY hBg
        refine ⟨.inl (by decide), ?_⟩
        simp only [Act.put, List.setIfInBounds_toArray, List.set_cons_zero, List.set_cons_succ]
        refine OrdAt.seq rfl rfl ?_
        intro Z hZ
        go_wp2_with (fail)
        refine ⟨.inl (by decide), OrdAt.done ?_⟩
        intro Z2 hZ2
        have HBZ := Lib.hid ((HBg.out.trans (hZ.mono HBg.out.size)).trans (hZ2.mono (by have := HBg.out.size; have := hZ.size; omega)))
        have HOZ := Lib.hid (ownsRow_ext (ownsRow_ext HO.out hZ) hZ2)
        clear hZ hZ2
        go_wp2_with (fail)
        refine wp_goto ?_
        refine ⟨rfl, DownJ.mk W1 gL B8 B11 (k + 1) v' _ _ _ _ _ _ _ _ _ _ _ _ _ _ _ _ _ _ _ _ _ _ _ _ _ _ _ _ _ _ _ _ _ _ _ _ _ _ _ _ _ _ _ _ _ h1 h2 h3 h4 hlt HOZ HBZ, ?_⟩
        simp [intOf]; omega
      · have hdv : Hid (downF (linesC rows.length xs) ⟨node, row, col, rws, cols, mn, mx, high, base, hbb, aln⟩ (sp gap rows row rws - high) = dv) := Lib.hid (by rw [Hdo.out, show max (sp gap rows row rws - high) 0 = sp gap rows row rws - high by omega])
        clear Hdo
        have Hcl := Lib.hid (fun X (hX : Ext W1 X) => Hfcall.out X hX (sp gap rows row rws - high) (by omega) (by omega))
        rw [hdv.out] at Hcl
        clear Hfcall hdv
        have hmF : Hid ((sp gap rows row rws - high < 0) = False) := Lib.hid (eq_false hm)
        go_wp2_with (fail)
        refine wp_region_ord 14 [(0, true), (1, true), (2, true), (3, true), (4, true), (5, true), (6, true), (7, true), (8, true), (9, true), (10, true), (11, true), (12, true), (13, false), (14, false), (15, false)] (by kernel_rfl) (by kernel_rfl) ?_
        intro Wc hWc
        iterate 2
          apply OrdAt.op (fun _ _ _ h => h) rfl rfl rfl
          · intro X hB2
            go_simp
            try rfl
          · dsimp only [List.set_cons_zero, List.set_cons_succ]
        apply OrdAt.op (fun _ _ _ h => h) rfl rfl rfl
        · intro X hB2
          have s := rd (h3c.out.tr (hWc.tr hB2)) Z10.out
          go_simp
          try rfl
        · dsimp only [List.set_cons_zero, List.set_cons_succ]
        apply OrdAt.op (fun _ _ _ h => h) rfl rfl rfl
        · intro X hB2
          go_simp
          try rfl
        · dsimp only [List.set_cons_zero, List.set_cons_succ]
        apply OrdAt.op (fun _ _ _ h => h) rfl rfl rfl
        · intro X hB2
          have s := rd (h13.out.tr (h3c.out.tr (hWc.tr hB2))) Hfc.out
          go_simp
          try rfl
        · dsimp only [List.set_cons_zero, List.set_cons_succ]
        apply OrdAt.op (fun _ _ _ h => h) rfl rfl rfl
        · intro X hB2
          have e := h3c.out.tr (hWc.tr hB2)
          have s0 := rd e Z0.out
          have s1 := rd e Z1.out
          have s2 := rd e Z2.out
          have s3 := rd e Z3.out
          have s4 := rd e Z4.out
          have s5 := rd e Z5.out
          have s6 := rd e Z6.out
          have s7 := rd e Z7.out
          have s8 := rd e Z8.out
          have s9 := rd e Z9.out
          have s10 := rd e Z10.out
          go_simp
          try rfl
        · dsimp only [List.set_cons_zero, List.set_cons_succ]
        iterate 3
          apply OrdAt.op (fun _ _ _ h => h) rfl rfl rfl
          · intro X hB2
            go_simp
            try rfl
          · dsimp only [List.set_cons_zero, List.set_cons_succ]
        apply OrdAt.op (fun _ _ _ h => h) rfl rfl rfl
        · intro X hB2
          have s := rd (h3c.out.tr (hWc.tr hB2)) Z7.out
          go_simp
          try rfl
        · dsimp only [List.set_cons_zero, List.set_cons_succ]
        apply OrdAt.op (fun _ _ _ h => h) rfl rfl rfl
        · intro X hB2
          have s := WN.out
          go_simp
          try rfl
        · dsimp only [List.set_cons_zero, List.set_cons_succ]
        apply OrdAt.op (fun _ _ _ h => h) rfl rfl rfl
        · intro X hB2
          have s := hmF.out
          go_simp
          try rfl
        · dsimp only [List.set_cons_zero, List.set_cons_succ]
        apply OrdAt.call (fun _ _ _ h => h) rfl rfl rfl
        · intro X hB2
          have s := Hen.out
          go_simp
          first | exact ⟨rfl, rfl⟩ | rfl
        · intro X hB2
          refine (Hcl.out X (h13.out.tr (h3c.out.tr (hWc.tr hB2)))).mono ?_; rintro e W9 ⟨rfl, hb⟩; exact ⟨rfl, hb⟩
        · dsimp only [List.set_cons_zero, List.set_cons_succ]
        refine OrdAt.seq rfl rfl ?_
        intro X hB2
        go_wp2_with (fail)
        have hX0 := h3c.out.tr (hWc.tr hB2)
        have hrowX := (ownsRow_ext hr.out (hW3.out.tr hX0)).alloc (.cells #[.int .i64 dv] 2)
        have hnewX := cell_one_new X (.int .i64 dv) 2
        have hszX := Nat.le_trans hB.out.size (hW3.out.tr hX0).size
        have HBX := Lib.hid (HWw.out.trans ((hW3.out.tr hX0).mono HWw.out.size))
        have HBX1 := Lib.hid (hB.out.trans ((hW3.out.tr hX0).mono hB.out.size))
        refine ⟨.inr ((Below.refl _ X).alloc (Nat.le_refl _) _), ?_⟩
        have hXX : Ext X (X.alloc (.cells #[.int .i64 dv] 2)) := (Below.refl _ X).alloc (Nat.le_refl _) _
        have hszX2 := hXX.size
        have HXX := Lib.hid hXX
        have hcX : (X.alloc (.cells #[.int .i64 dv] 2)).cell? ⟨X.heap.size, 0, none⟩ = some (.int .i64 dv) := by unfold World.cell?; rw [heap_alloc_new]; rfl
        have HcX := Lib.hid hcX
        have Hrx := Lib.hid hrowX
        clear hXX hcX hrowX hnewX
        generalize X.alloc (.cells #[.int .i64 dv] 2) = X2 at *
        refine OrdAt.seq rfl rfl ?_
        intro Y hY
        have hrowY := ownsRow_ext Hrx.out hY
        have hcY := rd hY HcX.out
        have hszY := hY.size
        have HBY := Lib.hid ((HBX1.out.trans (HXX.out.mono hszX)).trans (hY.mono (by omega)))
        refine wp_append_own Y _ _ 25 rfl W1.heap.size 2 i0 (.int .i64 0) 1 8 Try.underlying25 hi hz0 hz1 hz2 rfl (by decide) v k _ rfl hrowY ⟨X.heap.size, 0, none⟩ 1 1 [.int .i64 dv] rfl rfl (fun j u hu => by
          cases j with
          | zero => simp at hu; subst hu; exact hcY
          | succ j => simp at hu) (by simp [Value.oneCell']) (by unfold maxLen; omega) (by omega) (by omega) ?_
        intro v' w1' hown' hgrow _
        have hBg : Below W1.heap.size W1 w1' := HBY.out.grown hgrow (by omega) (fun q e => by
          rcases hrowY.2 with ⟨h0, _⟩ | ⟨g, cap, cur, h0, hg, _⟩
          · rw [h0] at e; simp [Value.ownBlock] at e
          · rw [h0] at e; simp [Value.ownBlock] at e; omega)
        rw [hsnoc.out] at hown'
        have HO := Lib.hid hown'
        have HBg := Lib.hid hBg
        clear hown' hgrow hrowY hcY hBg
        refine ⟨.inl (by decide), ?_⟩
        simp only [Act.put, List.setIfInBounds_toArray, List.set_cons_zero, List.set_cons_succ]
        refine OrdAt.seq rfl rfl ?_
        intro Z hZ
        go_wp2_with (fail)
        refine ⟨.inl (by decide), OrdAt.done ?_⟩
        intro Z2 hZ2
        have HBZ := Lib.hid ((HBg.out.trans (hZ.mono HBg.out.size)).trans (hZ2.mono (by have := HBg.out.size; have := hZ.size; omega)))
        have HOZ := Lib.hid (ownsRow_ext (ownsRow_ext HO.out hZ) hZ2)
        clear hZ hZ2
        go_wp2_with (fail)
        refine wp_goto ?_
        refine ⟨rfl, DownJ.mk W1 gL B8 B11 (k + 1) v' _ _ _ _ _ _ _ _ _ _ _ _ _ _ _ _ _ _ _ _ _ _ _ _ _ _ _ _ _ _ _ _ _ _ _ _ _ _ _ _ _ _ _ _ _ h1 h2 h3 h4 hlt HOZ HBZ, ?_⟩
        simp [intOf]; omega
    · obtain rfl : k = xs.length := by omega
      have t1 : ((xs.length : Int) == (xs.length : Int)) = true := by simp
      obtain ⟨A', c', rfl, hac, hcm, hin, _⟩ := ints_of_own hr.out (by simp)
      rw [List.take_of_length_le (Nat.le_refl _)] at hin
      have Hin := Lib.hid hin
      have HWw := Lib.hid hwW
      clear hin hwW t1
      go_wp2_with (fail)
      go_ret2
      exact ⟨A', c', rfl, hac, Hin.out, HWw.out⟩

end Go.Proofs.Ytgpcoljgpgamdaa
