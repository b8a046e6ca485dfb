/- The contract of align.Lines: for wrong cells an error, for right ones the rows' lines. -/
import Derived.Test.YtgpcoljgpgamdaaH
import Derived.Test.YtgpcoljgpgamdaaOrd
import Derived.Deep.OwnRows
namespace Go.Proofs.Ytgpcoljgpgamdaa
open Go.RowKit Go.Shelf
attribute [local go_sem] Oper.semAt_some
set_option linter.unusedVariables false

theorem lines12_wrong (A : Option Addr) (xs : List Cell) (c : Nat) (rows : Int) (w : World) (hx : Cells w A xs) (hl : xs.length ≤ 17592186044416) (hr : rightC rows xs = false) :
    Calls Try.prog 12 #[.int .i64 rows, .slice A xs.length c] w fun e w' => e = .returned (.tuple #[.slice none 0 0, .int .i64 170]) ∧ Below w.heap.size w w' := by
  have H := Lib.hid (right15 A xs c rows w hx hl)
  rw [hr] at H
  clear hx hr
  go_enter Try.func12, Try.ntmps12
  go_wp2_with (fail)
  refine H.out.mono ?_
  rintro e w1 ⟨rfl, hb⟩
  have HB := Lib.hid hb
  clear hb
  go_wp2_with (fail)
  go_ret2
  exact ⟨rfl, HB.out⟩

/-- a block that is a row of numbers -/
def RowB (W : World) (g : Nat) (xs : List Int) : Prop := W.heap[g]? = some (.cells (xs.map (Value.int .i64)).toArray 2 (0, 0))
theorem RowB.lt {W : World} {g : Nat} {xs : List Int} (h : RowB W g xs) : g < W.heap.size := (Array.getElem?_eq_some_iff.1 h).1
theorem RowB.cell {W : World} {g : Nat} {xs : List Int} (h : RowB W g xs) (j : Nat) (hj : j < xs.length) : W.cell? ⟨g, j, none⟩ = some (.int .i64 (xs[j]?.getD 0)) := by
  simp [World.cell?, show W.heap[g]? = _ from h, hj]
theorem RowB.frozen {W : World} {g : Nat} {xs : List Int} (h : RowB W g xs) (j : Nat) : W.frozen? ⟨g, j, none⟩ = false := by simp [World.frozen?, show W.heap[g]? = _ from h]
theorem RowB.kept {W W' : World} {row : Option Nat} {g : Nat} {xs : List Int} (h : RowB W g xs) (hg : W.grownBy W' row) (hne : some g ≠ row) : RowB W' g xs := (hg.block g h.lt hne).trans h
theorem RowB.below {W W' : World} {B g : Nat} {xs : List Int} (h : RowB W g xs) (hb : Below B W W') (hB : g < B) : RowB W' g xs := (hb.block g hB).trans h
theorem RowB.set {W : World} {g : Nat} {xs : List Int} (h : RowB W g xs) (j : Nat) (x : Int) : RowB (W.setCell ⟨g, j, none⟩ (.int .i64 x)) g (xs.set j x) := by
  have := heap_setCell_same W g j _ 2 (.int .i64 x) h
  unfold RowB
  rw [this]
  simp [List.map_set]
theorem rowB_own {β : Type} (g : Nat) (f : β → List Int) : Own (fun s W => RowB W g (f s)) := fun s X Y row hs hg hrow =>
  hs.kept hg (fun e' => by obtain ⟨o, ho, hc⟩ := hrow g e'.symm; rw [show X.heap[g]? = _ from hs] at ho; cases ho; cases hc)
theorem rowB_made (W : World) (n : Nat) : RowB (W.alloc (.cells (madeCells #[.int .i64 0] n) 2)) W.heap.size (List.replicate n 0) := by
  unfold RowB
  rw [heap_alloc_new]
  congr 2
  apply Array.ext
  · simp [madeCells]
  · intro i h1 h2
    simp [madeCells, Nat.mod_one]
theorem RowB.ints {W : World} {g : Nat} {xs : List Int} (h : RowB W g xs) : Ints W (some ⟨g, 0, none⟩) xs := fun j hj => ⟨g, 0, rfl, by rw [Nat.zero_add]; exact h.cell j hj⟩

/-- the lines behind some cells that stand on them -/
def lineStep (xs : List Cell) (out : List Int) (j : Bx xs) : List Int :=
  out.set (xs[j.1]?.getD default).row.toNat (max (out[(xs[j.1]?.getD default).row.toNat]?.getD 0) (xs[j.1]?.getD default).base)
def linesOf (R : Nat) (xs : List Cell) (pre : List (Bx xs)) : List Int := pre.foldl (lineStep xs) (List.replicate R 0)
theorem linesOf_snoc (R : Nat) (xs : List Cell) (pre : List (Bx xs)) (x : Bx xs) : linesOf R xs (pre ++ [x]) = lineStep xs (linesOf R xs pre) x := by simp [linesOf]
theorem lineFold_len (xs : List Cell) : ∀ (pre : List (Bx xs)) (out : List Int), (pre.foldl (lineStep xs) out).length = out.length
  | [], out => rfl
  | x :: pre, out => by rw [List.foldl_cons, lineFold_len xs pre, lineStep, List.length_set]
theorem linesOf_len (R : Nat) (xs : List Cell) (pre : List (Bx xs)) : (linesOf R xs pre).length = R := by rw [linesOf, lineFold_len, List.length_replicate]
theorem RowB.alloc {W : World} {g : Nat} {xs : List Int} (h : RowB W g xs) (o : Obj) : RowB (W.alloc o) g xs := h.kept (World.grownBy_alloc W o none) (by simp)

theorem ownFrom_size {β : Type} (m B : Nat) : OwnFrom B (fun (_ : β) W => m ≤ W.heap.size) := fun _ _ _ _ hs hg _ => Nat.le_trans hs hg.size


theorem boxed_set_other {W : World} {B g j : Nat} {t : TypeId} {v : Value} (h : Boxed W B t v) (hne : B ≠ g) (u : Value) : Boxed (W.setCell ⟨g, j, none⟩ u) B t v :=
  (heap_setCell_other W ⟨g, j, none⟩ B u (fun e => hne e)).trans h
theorem keepsOthers_below {W W' : World} (h : Below W.heap.size W W') : KeepsOthers W W' := ⟨h.size, fun k o ho _ => (h.block k (Array.getElem?_eq_some_iff.1 ho).1).trans ho⟩

theorem c35_stops (n : Nat) (hn : 1 ≤ n) (Bs : Nat) (S : Nat → Prop) (A : Option Addr) (xs : List Cell) (c : Nat) (hl : xs.length ≤ 17592186044416)
    (hSA : ∀ b off, A = some ⟨b, off, none⟩ → 0 < xs.length → S b) (w : World) (hS : ∀ k, S k → k < w.heap.size) (hBs : w.cell? ⟨Bs, 0, none⟩ = some (.slice A xs.length c)) (hx : Cells w A xs) :
    SeqStopsK Fence.wide n Try.prog 35 #[.pointer (some ⟨Bs, 0, none⟩)] (encX xs) (Keeps S) (fun ys => ys = basedTo xs xs.length) (fun pre => ∃ k, k ≤ xs.length ∧ pre = basedTo xs k) xs.length w := fun l J Jx W hW hJ hJx hY h0 => by
  have hc2 : W.cell? ⟨Bs, 0, none⟩ = some (.slice A xs.length c) := (hW.cell (p := ⟨Bs, 0, none⟩) (World.block_lt_of_cell? w _ hBs)).trans hBs
  exact c35w n l Bs S A xs c hl hSA J Jx hn (fun X Y h hB => Keeps.of_below hB h) (fun s X Y hs hB => hJ s X Y none hs ⟨hB.os, hB.tape, hB.output, hB.size, fun k hk _ => hB.block k hk⟩ (fun r e => by cases e)) hY W (fun k hk => Nat.lt_of_lt_of_le (hS k hk) hW.size) hc2 (hx.below hW) h0

def LinesSaid (R : Nat) (xs : List Cell) (w : World) (e : Ending) (w' : World) : Prop :=
  ∃ g, e = .returned (.tuple #[.slice (some ⟨g, 0, none⟩) R R, .int .i64 0]) ∧ RowB w' g (linesOf R xs (basedTo xs xs.length)) ∧ w.heap.size ≤ g ∧ Below w.heap.size w w'

set_option maxRecDepth 100000 in
set_option maxHeartbeats 4000000 in
theorem lines12_right (A : Option Addr) (xs : List Cell) (c : Nat) (R : Nat) (w : World) (hx : Cells w A xs) (hl : xs.length ≤ 17592186044416) (hr : rightC R xs = true) :
    Calls Try.prog 12 #[.int .i64 R, .slice A xs.length c] w (LinesSaid R xs w) := by
  have h := right15 A xs c R w hx hl
  rw [hr] at h
  have H := Lib.hid h
  have Hx := Lib.hid hx
  unfold rightC at hr
  rw [Bool.and_eq_true, Bool.not_eq_true'] at hr
  have hR := (inR_iff.1 hr.1).2
  have Hok := Lib.hid (bads_all hr.2)
  have hmk := fun W => run_make_row' (P := Try.prog) 25 2 (.int .i64 0) 8 Try.underlying25 Try.info2 rfl .i64 .i64 R (by omega) (by omega) W
  clear h hx hr
  refine (callsIn_wide (n := 3)).1 ?_
  refine callsIn_of_wp_marks Try.func12 rfl trivial ?_ rfl
  simp only [Try.ntmps12, List.size_toArray, List.length_cons, List.length_nil, Nat.reduceAdd, Nat.reduceSub, Array.replicate_succ, Array.replicate_zero, List.push_toArray, List.append_toArray, List.nil_append, List.cons_append]
  gi_wp2_with (fail)
  refine ⟨trivial, (callsIn_wide.2 H.out).mono ?_⟩
  rintro e w1 ⟨rfl, hb1⟩
  have Hb1 := Lib.hid hb1
  clear hb1
  gi_wp2_with (fail)
  refine ⟨trivial, (callsIn_wide.2 (based23 _ _ _ _)).mono ?_⟩
  rintro e w2 ⟨rfl, rfl⟩
  clear hmk
  gi_wp2_with (fail)
  obtain ⟨W0, hW0⟩ : ∃ W0, (((w1.alloc (Obj.cells (madeCells #[Value.int IntKind.i64 0] R) 2)).alloc (Obj.cells #[Value.slice (some ⟨w1.heap.size, 0, none⟩) R R] 25)).alloc (Obj.cells #[Value.slice A xs.length c] 22)) = W0 := ⟨_, rfl⟩
  have hsz : W0.heap.size = w1.heap.size + 3 := by rw [← hW0]; simp
  have hsz1 := Hb1.out.size
  have rb : RowB W0 w1.heap.size (List.replicate R 0) := by rw [← hW0]; exact ((rowB_made w1 R).alloc _).alloc _
  have bx1 : Boxed W0 (w1.heap.size + 1) 25 (.slice (some ⟨w1.heap.size, 0, none⟩) R R) := by
    have := (Boxed.new (w1.alloc (Obj.cells (madeCells #[Value.int IntKind.i64 0] R) 2)) 25 (.slice (some ⟨w1.heap.size, 0, none⟩) R R)).alloc (Obj.cells #[Value.slice A xs.length c] 22)
    rw [World.size_alloc, hW0] at this; exact this
  have bx2 : Boxed W0 (w1.heap.size + 1 + 1) 22 (.slice A xs.length c) := by
    have := Boxed.new ((w1.alloc (Obj.cells (madeCells #[Value.int IntKind.i64 0] R) 2)).alloc (Obj.cells #[Value.slice (some ⟨w1.heap.size, 0, none⟩) R R] 25)) 22 (.slice A xs.length c)
    rw [World.size_alloc, World.size_alloc, hW0] at this; exact this
  have hBw : Below w1.heap.size w1 W0 := by rw [← hW0]; exact (((Below.refl _ w1).alloc (Nat.le_refl _) _).alloc (by simp) _).alloc (by simp; omega) _
  have hB0 : Below w.heap.size w W0 := Hb1.out.trans (hBw.mono hsz1)
  have hxW0 := Hx.out.below hB0
  rw [hW0]
  clear hW0 hBw H
  have hS : ∀ k, (k < w.heap.size ∨ k = w1.heap.size + 1 + 1) → k < W0.heap.size := fun k hk => by omega
  refine wpIn_rangeFunc_ownH (F := Fence.wide) (n := 3) rfl (by omega) (gf := 35) (lb := #[.pointer (some ⟨w1.heap.size + 1 + 1, 0, none⟩)]) rfl trivial (enters_of Try.func35 (by kernel_rfl) rfl)
    (c35_stops 2 (by omega) (w1.heap.size + 1 + 1) (fun k => k < w.heap.size ∨ k = w1.heap.size + 1 + 1) A xs c hl
      (fun b off e h0 => by obtain ⟨b', off', e', hc⟩ := Hx.out 0 h0; rw [e] at e'; cases e'; exact .inl hc.lt) W0 hS bx2.cell hxW0)
    (fun h k => h.trans k) (Keeps.putObj W0 hS) (Below.refl _ _) (fun _ => rfl)
    (fun pre W => (RowB W w1.heap.size (linesOf R xs pre) ∧ Boxed W (w1.heap.size + 1) 25 (.slice (some ⟨w1.heap.size, 0, none⟩) R R)) ∧ Below w.heap.size w W ∧ W0.heap.size ≤ W.heap.size) (fun _ _ _ => False)
    (OwnFrom.and (OwnFrom.and (Own.from (rowB_own _ _) _) (Own.from (boxed_own _ _ _) _)) (OwnFrom.and (ownFrom_below (Nat.le_refl _) (by omega)) (ownFrom_size _ _))) (fun _ _ _ _ _ h _ _ => h.elim)
    ⟨⟨rb, bx1⟩, hB0, Nat.le_refl _⟩
    (fun x a' W => ∃ Bc, W0.heap.size ≤ Bc ∧ W.heap[Bc]? = some (.cells (xs[x.1]?.getD default).arr 41 (0, 0)) ∧ a' = { tmps := #[.int .i64 R, .slice A xs.length c, undef, undef, .slice none 0 0, .int .i64 0, .pointer (some ⟨w1.heap.size + 1, 0, none⟩), undef, .pointer (some ⟨Bc, 0, none⟩), .int .i64 R, .slice A xs.length c, .bool true, .bool false, .int .i64 R, .slice (some ⟨w1.heap.size, 0, none⟩) R R, .slice A xs.length c, .func (.func 35) #[] #[.pointer (some ⟨w1.heap.size + 1 + 1, 0, none⟩)], .int .i64 (x.1 : Nat), .agg (xs[x.1]?.getD default).arr, undef, undef, undef, undef, undef, undef, undef, undef, undef, undef, undef, undef, undef, undef, undef, undef], defers := [] })
    ?hAx ?assign ?body ?done ?stop
  case hAx =>
    rintro x a' _ X Y row ⟨Bc, h1, h2, h3⟩ hg hrow
    refine ⟨Bc, h1, (hg.block Bc (Array.getElem?_eq_some_iff.1 h2).1 (fun e' => ?_)).trans h2, h3⟩
    obtain ⟨_, o, ho, hc⟩ := hrow Bc e'.symm
    rw [h2] at ho; cases ho; cases hc
  case assign =>
    rintro l pre ⟨j, hj⟩ W K ⟨⟨i1, i2⟩, hB, hz⟩ hK
    have HK := Lib.hid hK
    have I1 := Lib.hid i1
    have I2 := Lib.hid i2
    have HB := Lib.hid hB
    clear hK i1 i2 hB hxW0 rb bx1 bx2 hB0 hS
    unfold encX at *
    dsimp only at HK ⊢
    generalize xs[j]?.getD default = cx at HK ⊢
    obtain ⟨node, row, col, rws, cols, mn, mx, high, base, hbb, al⟩ := cx
    unfold Cell.arr at *
    dsimp only at HK ⊢
    gi_wp2
    refine HK.out _ _ ((KeepsOthers.alloc _ _).from _) (Keeps.of_below ((Below.refl _ W).alloc (Nat.le_refl _) _) (fun k hk => ?_)) ⟨⟨I1.out.alloc _, I2.out.alloc _⟩, HB.out.alloc HB.out.size _, by simp; omega⟩ ⟨W.heap.size, hz, heap_alloc_new W _, rfl⟩
    have := HB.out.size; omega
  case body =>
    rintro l pre ⟨j, hj⟩ a' W hl' hrr ⟨⟨i1, i2⟩, hB, hz⟩ ⟨Bc, hBc, hblk, rfl⟩ hlt
    have hok := Hok.out j hj.1
    have hlen := linesOf_len R xs pre
    have hst : Hid (linesOf R xs (pre ++ [⟨j, hj⟩]) = lineStep xs (linesOf R xs pre) ⟨j, hj⟩) := Lib.hid (linesOf_snoc R xs pre ⟨j, hj⟩)
    unfold lineStep at hst
    dsimp only at hst hblk ⊢
    generalize linesOf R xs pre = out at *
    generalize xs[j]?.getD default = cx at hblk hok hst ⊢
    obtain ⟨node, row, col, rws, cols, mn, mx, high, base, hbb, al⟩ := cx
    unfold okCell at hok
    rw [Bool.and_eq_true] at hok
    have hw := of_decide_eq_true hok.1
    dsimp only at hw hst
    obtain ⟨row, rfl⟩ := Int.eq_ofNat_of_zero_le hw.1
    rw [Int.toNat_natCast] at hst
    have hrow : row < R := by omega
    have hcell := i1.cell row (by omega)
    have z1 : W.cell? ⟨Bc, 1, none⟩ = some (.int .i64 row) := by simp [World.cell?, hblk, Cell.arr]
    have z8 : W.cell? ⟨Bc, 8, none⟩ = some (.int .i64 base) := by simp [World.cell?, hblk, Cell.arr]
    generalize out[row]?.getD 0 = v at *
    have Z1 := Lib.hid z1
    have Z8 := Lib.hid z8
    have ZC := Lib.hid hcell
    have ZB := Lib.hid i2.cell
    have I1 := Lib.hid i1
    have I2 := Lib.hid i2
    have HB := Lib.hid hB
    have Hlen := Lib.hid hlen
    clear z1 z8 hcell i1 i2 hB hok hw hlen hblk hxW0 rb bx1 bx2 hB0 hS hrr Hx Hok Hb1
    unfold Cell.arr
    dsimp only
    by_cases hm : v < base
    · have Hst : Hid (linesOf R xs (pre ++ [⟨j, hj⟩]) = out.set row base) := Lib.hid (by rw [hst.out, show max v base = base by omega])
      clear hst
      gi_wp2_with (fail)
      refine wpIn_region_ord 15 [(0, true), (1, true), (2, true), (3, true), (4, true), (5, true), (6, true), (7, true), (8, true), (9, true), (10, true), (11, true), (12, true), (13, true), (14, true), (15, false)] (by kernel_rfl) (by kernel_rfl) ?_
      intro Wc hWc
      apply OrdAt.op (fun _ _ _ h => h) rfl rfl rfl
      · intro X hB
        have s := rd (hWc.tr hB) ZB.out
        go_simp
        try rfl
      · dsimp only [List.set_cons_zero, List.set_cons_succ]
      iterate 2
        apply OrdAt.op (fun _ _ _ h => h) rfl rfl rfl
        · intro X hB
          go_simp
          try rfl
        · dsimp only [List.set_cons_zero, List.set_cons_succ]
      apply OrdAt.op (fun _ _ _ h => h) rfl rfl rfl
      · intro X hB
        have s := rd (hWc.tr hB) Z1.out
        go_simp
        try rfl
      · dsimp only [List.set_cons_zero, List.set_cons_succ]
      apply OrdAt.op (fun _ _ _ h => h) rfl rfl rfl
      · intro X hB
        have s := rd (hWc.tr hB) ZB.out
        go_simp
        try rfl
      · dsimp only [List.set_cons_zero, List.set_cons_succ]
      iterate 2
        apply OrdAt.op (fun _ _ _ h => h) rfl rfl rfl
        · intro X hB
          go_simp
          try rfl
        · dsimp only [List.set_cons_zero, List.set_cons_succ]
      apply OrdAt.op (fun _ _ _ h => h) rfl rfl rfl
      · intro X hB
        have s := rd (hWc.tr hB) Z1.out
        go_simp
        try rfl
      · dsimp only [List.set_cons_zero, List.set_cons_succ]
      apply OrdAt.op (fun _ _ _ h => h) rfl rfl rfl
      · intro X hB
        go_simp
        try rfl
      · dsimp only [List.set_cons_zero, List.set_cons_succ]
      apply OrdAt.op (fun _ _ _ h => h) rfl rfl rfl
      · intro X hB
        have s := rd (hWc.tr hB) ZC.out
        go_simp
        try rfl
      · dsimp only [List.set_cons_zero, List.set_cons_succ]
      iterate 2
        apply OrdAt.op (fun _ _ _ h => h) rfl rfl rfl
        · intro X hB
          go_simp
          try rfl
        · dsimp only [List.set_cons_zero, List.set_cons_succ]
      apply OrdAt.op (fun _ _ _ h => h) rfl rfl rfl
      · intro X hB
        have s := rd (hWc.tr hB) Z8.out
        go_simp
        try rfl
      · dsimp only [List.set_cons_zero, List.set_cons_succ]
      iterate 2
        apply OrdAt.op (fun _ _ _ h => h) rfl rfl rfl
        · intro X hB
          go_simp
          try rfl
        · dsimp only [List.set_cons_zero, List.set_cons_succ]
      refine OrdAt.seq rfl rfl ?_
      intro X hB
      have hW2 := hWc.tr hB
      have f := (hW2.frozen (p := ⟨w1.heap.size, row, none⟩) I1.out.lt).trans (I1.out.frozen row)
      have cc := rd hW2 ZC.out
      go_wp2_with (fail)
      refine ⟨.inl (by decide), OrdAt.done ?_⟩
      intro W3 hW3
      clear f cc
      gi_wp2_with (fail)
      have r2 := ((I1.out.below hW2 I1.out.lt).set row base).below hW3 (by have := I1.out.lt; have := hW2.size; simp [World.setCell]; omega)
      have hg : w1.heap.size < W.heap.size := I1.out.lt
      have b2 := boxed_below (boxed_set_other (g := w1.heap.size) (j := row) (boxed_below I2.out hW2) (by omega) (.int .i64 base)) hW3
      have hsz3 := hW3.size
      have hsz2 := hW2.size
      simp [World.setCell] at hsz3
      exact ⟨(((keepsOthers_below hW2).trans (KeepsOthers.setCell _ _ _)).trans (keepsOthers_below hW3)).from _, ((Keeps.of_below hW2 (fun k hk => by omega)).setCell (p := ⟨w1.heap.size, row, none⟩) (fun hk => by dsimp only at hk; omega) _).trans (Keeps.of_below hW3 (fun k hk => by simp [World.setCell]; omega)),
        ⟨by rw [Hst.out]; exact r2, b2⟩, ((HB.out.trans (hW2.mono HB.out.size)).setCell (p := ⟨w1.heap.size, row, none⟩) hsz1 _).trans (hW3.mono (by have := HB.out.size; simp [World.setCell]; omega)), by omega⟩
    · have Hst : Hid (linesOf R xs (pre ++ [⟨j, hj⟩]) = out.set row v) := Lib.hid (by rw [hst.out, show max v base = v by omega])
      clear hst
      gi_wp2_with (fail)
      refine wpIn_region_ord 15 [(0, true), (1, true), (2, true), (3, true), (4, true), (5, true), (6, true), (7, true), (8, true), (9, true), (10, true), (11, true), (12, true), (13, true), (14, true), (15, false)] (by kernel_rfl) (by kernel_rfl) ?_
      intro Wc hWc
      apply OrdAt.op (fun _ _ _ h => h) rfl rfl rfl
      · intro X hB
        have s := rd (hWc.tr hB) ZB.out
        go_simp
        try rfl
      · dsimp only [List.set_cons_zero, List.set_cons_succ]
      iterate 2
        apply OrdAt.op (fun _ _ _ h => h) rfl rfl rfl
        · intro X hB
          go_simp
          try rfl
        · dsimp only [List.set_cons_zero, List.set_cons_succ]
      apply OrdAt.op (fun _ _ _ h => h) rfl rfl rfl
      · intro X hB
        have s := rd (hWc.tr hB) Z1.out
        go_simp
        try rfl
      · dsimp only [List.set_cons_zero, List.set_cons_succ]
      apply OrdAt.op (fun _ _ _ h => h) rfl rfl rfl
      · intro X hB
        have s := rd (hWc.tr hB) ZB.out
        go_simp
        try rfl
      · dsimp only [List.set_cons_zero, List.set_cons_succ]
      iterate 2
        apply OrdAt.op (fun _ _ _ h => h) rfl rfl rfl
        · intro X hB
          go_simp
          try rfl
        · dsimp only [List.set_cons_zero, List.set_cons_succ]
      apply OrdAt.op (fun _ _ _ h => h) rfl rfl rfl
      · intro X hB
        have s := rd (hWc.tr hB) Z1.out
        go_simp
        try rfl
      · dsimp only [List.set_cons_zero, List.set_cons_succ]
      apply OrdAt.op (fun _ _ _ h => h) rfl rfl rfl
      · intro X hB
        go_simp
        try rfl
      · dsimp only [List.set_cons_zero, List.set_cons_succ]
      apply OrdAt.op (fun _ _ _ h => h) rfl rfl rfl
      · intro X hB
        have s := rd (hWc.tr hB) ZC.out
        go_simp
        try rfl
      · dsimp only [List.set_cons_zero, List.set_cons_succ]
      iterate 2
        apply OrdAt.op (fun _ _ _ h => h) rfl rfl rfl
        · intro X hB
          go_simp
          try rfl
        · dsimp only [List.set_cons_zero, List.set_cons_succ]
      apply OrdAt.op (fun _ _ _ h => h) rfl rfl rfl
      · intro X hB
        have s := rd (hWc.tr hB) Z8.out
        go_simp
        try rfl
      · dsimp only [List.set_cons_zero, List.set_cons_succ]
      iterate 2
        apply OrdAt.op (fun _ _ _ h => h) rfl rfl rfl
        · intro X hB
          go_simp
          try rfl
        · dsimp only [List.set_cons_zero, List.set_cons_succ]
      refine OrdAt.seq rfl rfl ?_
      intro X hB
      have hW2 := hWc.tr hB
      have f := (hW2.frozen (p := ⟨w1.heap.size, row, none⟩) I1.out.lt).trans (I1.out.frozen row)
      have cc := rd hW2 ZC.out
      go_wp2_with (fail)
      refine ⟨.inl (by decide), OrdAt.done ?_⟩
      intro W3 hW3
      clear f cc
      gi_wp2_with (fail)
      have r2 := ((I1.out.below hW2 I1.out.lt).set row v).below hW3 (by have := I1.out.lt; have := hW2.size; simp [World.setCell]; omega)
      have hg : w1.heap.size < W.heap.size := I1.out.lt
      have b2 := boxed_below (boxed_set_other (g := w1.heap.size) (j := row) (boxed_below I2.out hW2) (by omega) (.int .i64 v)) hW3
      have hsz3 := hW3.size
      have hsz2 := hW2.size
      simp [World.setCell] at hsz3
      exact ⟨(((keepsOthers_below hW2).trans (KeepsOthers.setCell _ _ _)).trans (keepsOthers_below hW3)).from _, ((Keeps.of_below hW2 (fun k hk => by omega)).setCell (p := ⟨w1.heap.size, row, none⟩) (fun hk => by dsimp only at hk; omega) _).trans (Keeps.of_below hW3 (fun k hk => by simp [World.setCell]; omega)),
        ⟨by rw [Hst.out]; exact r2, b2⟩, ((HB.out.trans (hW2.mono HB.out.size)).setCell (p := ⟨w1.heap.size, row, none⟩) hsz1 _).trans (hW3.mono (by have := HB.out.size; simp [World.setCell]; omega)), by omega⟩
  case done =>
    rintro D ys W hD rfl ⟨⟨i1, i2⟩, hB, hz⟩ hK
    have hKb := (belowK_b (w := W0) (n₀ := W0.heap.size) (Nat.le_refl _) W D _ (.deferred none) (by omega) hK rfl rfl).mono (B' := w.heap.size) (by omega)
    have q := i2.cell
    have I1 := Lib.hid i1
    have HB := Lib.hid hB
    clear i1 i2 hB hxW0 rb bx1 bx2 hB0 hS Hok
    gi_wp2
    refine ⟨by simp, .inl ⟨_, _, rfl, run_takeDeferred hK, ?_⟩⟩
    exact ⟨_, results_tmp2 rfl _ _ _, w1.heap.size, rfl, I1.out.kept (grownBy_putObj' W D _) (by simp; omega), hsz1, HB.out.trans hKb⟩
  case stop =>
    rintro D cc pre W _ _ h _
    exact h.elim

end Go.Proofs.Ytgpcoljgpgamdaa
