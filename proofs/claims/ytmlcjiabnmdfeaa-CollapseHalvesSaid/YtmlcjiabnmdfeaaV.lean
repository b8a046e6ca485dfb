/- Halves along a box's sides, in plain words; the closure that takes the greatest. -/
import Derived.Test.YtmlcjiabnmdfeaaU
namespace Go.Proofs.Ytmlcjiabnmdfeaa
open Go Go.RowKit Go.Shelf CT
set_option linter.unusedVariables false

def mx (a b : Int) : Int := if a < b then b else a
/-- rows and columns -/
structure Bx where
  r : Int
  c : Int
  re : Int
  ce : Int
def inCols (b : Bx) (x : Edge) : Bool := decide (b.c ≤ x.col) && decide (x.col < b.ce)
def inRows (b : Bx) (x : Edge) : Bool := decide (b.r ≤ x.row) && decide (x.row < b.re)
/-- does an edge lie at a side of a box? 0: above, 1: right, 2: below, 3: left -/
def hit (b : Bx) (k : Nat) (x : Edge) : Bool :=
  if k = 0 then x.lies && inCols b x && (x.row == b.r) else if k = 2 then x.lies && inCols b x && (x.row == b.re)
  else if k = 3 then !x.lies && inRows b x && (x.col == b.c) else !x.lies && inRows b x && (x.col == b.ce)
def firstS (k : Nat) : Bool := k == 0 || k == 3
def stepH (b : Bx) (wi : Bool) (k : Nat) (m : Int) (x : Edge) : Int := if hit b k x = true then mx m (CT.half x.width (firstS k == wi)) else m
/-- the greatest halves -/
def halvesOf (l : List Edge) (b : Bx) (wi : Bool) (k : Nat) : Int := l.foldl (stepH b wi k) 0
def four (o : Nat → Int) : Array Value := #[.int .i64 (o 0), .int .i64 (o 1), .int .i64 (o 2), .int .i64 (o 3)]
theorem four_upd (o : Nat → Int) {k : Nat} (hk : k < 4) (x : Int) : (four o).setIfInBounds k (.int .i64 x) = four (upd o k x) := by
  rcases k with _ | _ | _ | _ | k
  all_goals first | rfl | omega
theorem four_at (o : Nat → Int) {k : Nat} (hk : k < 4) : (four o)[k]? = some (.int .i64 (o k)) := by
  rcases k with _ | _ | _ | _ | k
  all_goals first | rfl | omega
theorem half_low (n : Int) (first : Bool) : 0 ≤ CT.half n first := by
  unfold CT.half
  split
  · exact Int.le_refl _
  · split <;> omega

set_option maxRecDepth 100000 in
set_option maxHeartbeats 8000000 in
/-- halves: the closure -/
theorem c58 (k : Nat) (hk : k < 4) (x : Edge) (hx : x.width ≤ 9223372036854775807) (fi wi : Bool) (Bo Bw : Nat) (o : Nat → Int) (w : World) (ho : w.heap[Bo]? = some (.cells (four o) 52 (0, 0))) (hw : Boxed w Bw 4 (.bool wi)) :
    Calls Try.prog 58 #[.int .i64 k, .agg x.arr, .bool fi, .pointer (some ⟨Bo, 0, none⟩), .pointer (some ⟨Bw, 0, none⟩)] w fun e w' => (∃ v, e = .returned v) ∧ w'.heap[Bo]? = some (.cells (four (upd o k (mx (o k) (CT.half x.width (fi == wi))))) 52 (0, 0)) ∧ w.grownBy w' (some Bo) := by
  have hba : Below w.heap.size w (w.alloc (.cells x.arr 47)) := (Below.refl _ _).alloc (Nat.le_refl _) _
  have HXA : Hid ((w.alloc (.cells x.arr 47)).heap[w.heap.size]? = some (.cells x.arr 47 (0, 0))) := Lib.hid (heap_alloc_new _ _)
  have HO := Lib.hid ((hba.block _ (Array.getElem?_eq_some_iff.1 ho).1).trans ho)
  have HWI : Hid (Boxed (w.alloc (.cells x.arr 47)) Bw 4 (.bool wi)) := Lib.hid ((hba.block _ hw.lt).trans hw)
  have HOL := Lib.hid (Array.getElem?_eq_some_iff.1 ho).1
  have HB := Lib.hid hba
  have HH := Lib.hid fun W => CT.c12 x.width (fi == wi) W hx
  obtain ⟨hh, hhh⟩ : ∃ h, CT.half x.width (fi == wi) = h := ⟨_, rfl⟩
  rw [hhh] at HH ⊢
  obtain ⟨mm, hmm⟩ : ∃ m, (if o k < hh then hh else o k) = m := ⟨_, rfl⟩
  rw [show mx (o k) hh = mm from hmm]
  have HM := Lib.hid hmm
  clear hba ho hw hx hhh hmm
  obtain ⟨e0, e1, e2, e3, e4, e5, e6, e7, e8, e9⟩ := x
  unfold Edge.arr at *
  dsimp only at HXA HO HWI HB HH ⊢
  have P0 : Hid (_ = some (Value.int .i64 (o k))) := Lib.hid (cell_of (j := k) HO.out (four_at o hk))
  have P1 : Hid (_ = some (Value.int .i64 e4)) := Lib.hid (cell_of (j := 4) HXA.out rfl)
  have P2 := Lib.hid HWI.out.cell
  have u1 : (k : Int) < 4 := by omega
  obtain ⟨I, hI0⟩ : ∃ I : OrdX.Off, I.row = none := ⟨⟨_⟩, rfl⟩
  have HIn : Hid (∀ b : Nat, some b ≠ OrdX.Off.row) := Lib.hid fun b e => by rw [hI0] at e; cases e
  clear hI0
  go_enter Try.func58, Try.ntmps58
  go_wp2_with (fail)
  generalize w.alloc (.cells #[.int .i64 e0, .int .i64 e1, .bool e2, .int .i64 e3, .int .i64 e4, .int .u32 e5, .int .i64 e6, .int .i64 e7, .int .i64 e8, .int .i64 e9] 47) = wx at *
  refine OrdX.wp_region_ordN 14 [(0, true), (1, true), (2, true), (3, true), (4, true), (5, true), (6, true), (7, true), (8, true), (9, true), (10, true), (11, true), (12, true), (13, true), (14, false)] (by kernel_rfl) (by kernel_rfl) ?_
  intro Wc hWc
  iterate 3
    apply OrdX.OrdAt.op OrdX.on_put rfl rfl rfl
    · intro X hB
      go_simp
      try rfl
    · dsimp only [List.set_cons_zero, List.set_cons_succ]
  apply OrdX.OrdAt.op OrdX.on_put rfl rfl rfl
  · intro X hB
    have s := OrdX.rd (hWc.g.tr hB) (HIn.out _) (P0.out)
    go_simp
    try rfl
  · dsimp only [List.set_cons_zero, List.set_cons_succ]
  iterate 3
    apply OrdX.OrdAt.op OrdX.on_put rfl rfl rfl
    · intro X hB
      go_simp
      try rfl
    · dsimp only [List.set_cons_zero, List.set_cons_succ]
  apply OrdX.OrdAt.op OrdX.on_put rfl rfl rfl
  · intro X hB
    have s := OrdX.rd (hWc.g.tr hB) (HIn.out _) (P1.out)
    go_simp
    try rfl
  · dsimp only [List.set_cons_zero, List.set_cons_succ]
  apply OrdX.OrdAt.op OrdX.on_put rfl rfl rfl
  · intro X hB
    go_simp
    try rfl
  · dsimp only [List.set_cons_zero, List.set_cons_succ]
  apply OrdX.OrdAt.op OrdX.on_put rfl rfl rfl
  · intro X hB
    have s := OrdX.rd (hWc.g.tr hB) (HIn.out _) (P2.out)
    go_simp
    try rfl
  · dsimp only [List.set_cons_zero, List.set_cons_succ]
  apply OrdX.OrdAt.op OrdX.on_put rfl rfl rfl
  · intro X hB
    go_simp
    try rfl
  · dsimp only [List.set_cons_zero, List.set_cons_succ]
  apply OrdX.OrdAt.call OrdX.on_put rfl rfl rfl
  · intro X hB
    go_simp
    first | exact ⟨rfl, rfl⟩ | rfl
  · intro X hB
    refine (HH.out X).mono ?_
    rintro e W1 ⟨rfl, rfl⟩
    exact ⟨rfl, Below.refl _ _⟩
  · dsimp only [List.set_cons_zero, List.set_cons_succ]
  apply OrdX.OrdAt.op OrdX.on_put rfl rfl rfl
  · intro X hB
    have sm := HM.out
    go_simp
    try rfl
  · dsimp only [List.set_cons_zero, List.set_cons_succ]
  apply OrdX.OrdAt.op OrdX.on_put rfl rfl rfl
  · intro X hB
    go_simp
    try rfl
  · dsimp only [List.set_cons_zero, List.set_cons_succ]
  refine OrdX.OrdAt.seq rfl rfl ?_
  intro X hB
  have hbx := hWc.trans (hB.mono hWc.size)
  have HOX := Lib.hid ((hbx.block _ (Array.getElem?_eq_some_iff.1 HO.out).1).trans HO.out)
  have HBX := Lib.hid (HB.out.trans (hbx.mono HB.out.size))
  have s := cell_of (j := k) HOX.out (four_at o hk)
  have fz : X.frozen? ⟨Bo, k, none⟩ = false := frozen_of HOX.out
  clear hbx hB hWc
  go_wp2_with (fail)
  refine ⟨.inl (by decide), OrdX.OrdAt.done ?_⟩
  intro W9 hW9
  refine OrdX.on_normal ?_
  have hL := heap_set_self HOX.out k (.int .i64 mm)
  rw [four_upd o hk] at hL
  have hL9 := (hW9.block _ (Array.getElem?_eq_some_iff.1 hL).1).trans hL
  have hg1 : w.grownBy (X.setCell ⟨Bo, k, none⟩ (.int .i64 mm)) (some Bo) := by
    have h2 := (Below.refl X.heap.size X)
    have hsb := (HBX.out.mono (Nat.le_of_lt HOL.out)).setCell (p := ⟨Bo, k, none⟩) (Nat.le_refl _) (.int .i64 mm)
    refine ⟨hsb.os, hsb.tape, hsb.output, ?_, fun i hi hn => ?_⟩
    · exact Nat.le_trans HBX.out.size (KeepsWalks.setCell X _ _).size
    · exact (heap_set_other X k _ fun e => hn (by rw [e])).trans (HBX.out.block i hi)
  have HL := Lib.hid hL9
  have HBB : Hid (w.grownBy W9 (some Bo)) := Lib.hid ⟨hW9.os.trans hg1.os, hW9.tape.trans hg1.tape, hW9.output.trans hg1.output, Nat.le_trans hg1.size hW9.size, fun i hi hn => (hW9.block i (Nat.lt_of_lt_of_le hi hg1.size)).trans (hg1.block i hi hn)⟩
  clear hL hL9 hg1 hW9 s fz
  exact ⟨rfl, _, results_none rfl _ _ _, ⟨_, rfl⟩, HL.out, HBB.out⟩
end Go.Proofs.Ytmlcjiabnmdfeaa
