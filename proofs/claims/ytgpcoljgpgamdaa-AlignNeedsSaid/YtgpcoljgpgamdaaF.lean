/- Cells in memory; contracts of align.Right and what it calls, of the reference's Right. -/
import Derived.Test.YtgpcoljgpgamdaaE
namespace Go.Proofs.Ytgpcoljgpgamdaa
open Go.RowKit
set_option linter.unusedVariables false

structure Cell where
  node : Int
  row : Int
  col : Int
  rows : Int
  cols : Int
  mn : Int
  mx : Int
  high : Int
  base : Int
  hb : Bool
  al : Int
instance : Inhabited Cell := ⟨⟨0, 0, 0, 0, 0, 0, 0, 0, 0, false, 0⟩⟩
def Cell.arr (p : Cell) : Array Value := #[.int .i64 p.node, .int .i64 p.row, .int .i64 p.col, .int .i64 p.rows, .int .i64 p.cols, .int .i64 p.mn, .int .i64 p.mx, .int .i64 p.high, .int .i64 p.base, .bool p.hb, .int .i64 p.al]
def Cell.cells (p : Cell) : List Value := [.int .i64 p.node, .int .i64 p.row, .int .i64 p.col, .int .i64 p.rows, .int .i64 p.cols, .int .i64 p.mn, .int .i64 p.mx, .int .i64 p.high, .int .i64 p.base, .bool p.hb, .int .i64 p.al]
def CellAt (w : World) (b o : Nat) (p : Cell) : Prop :=
  w.cell? ⟨b, o, none⟩ = some (.int .i64 p.node) ∧ w.cell? ⟨b, o + 1, none⟩ = some (.int .i64 p.row) ∧ w.cell? ⟨b, o + 2, none⟩ = some (.int .i64 p.col) ∧ w.cell? ⟨b, o + 3, none⟩ = some (.int .i64 p.rows) ∧ w.cell? ⟨b, o + 4, none⟩ = some (.int .i64 p.cols) ∧ w.cell? ⟨b, o + 5, none⟩ = some (.int .i64 p.mn) ∧ w.cell? ⟨b, o + 6, none⟩ = some (.int .i64 p.mx) ∧ w.cell? ⟨b, o + 7, none⟩ = some (.int .i64 p.high) ∧ w.cell? ⟨b, o + 8, none⟩ = some (.int .i64 p.base) ∧ w.cell? ⟨b, o + 9, none⟩ = some (.bool p.hb) ∧ w.cell? ⟨b, o + 10, none⟩ = some (.int .i64 p.al)
theorem CellAt.below {w w' : World} {b o : Nat} {s : Cell} (h : CellAt w b o s) {B : Nat} (hb : Below B w w') (hB : b < B) : CellAt w' b o s :=
  have f := fun i => hb.cell (p := ⟨b, i, none⟩) hB
  ⟨(f _).trans h.1, (f _).trans h.2.1, (f _).trans h.2.2.1, (f _).trans h.2.2.2.1, (f _).trans h.2.2.2.2.1, (f _).trans h.2.2.2.2.2.1, (f _).trans h.2.2.2.2.2.2.1, (f _).trans h.2.2.2.2.2.2.2.1, (f _).trans h.2.2.2.2.2.2.2.2.1, (f _).trans h.2.2.2.2.2.2.2.2.2.1, (f _).trans h.2.2.2.2.2.2.2.2.2.2⟩
theorem CellAt.lt {w : World} {b o : Nat} {s : Cell} (h : CellAt w b o s) : b < w.heap.size := World.block_lt_of_cell? w _ h.1
theorem CellAt.new (w : World) (t : TypeId) (s : Cell) : CellAt (w.alloc (.cells s.arr t)) w.heap.size 0 s := by
  refine ⟨?_, ?_, ?_, ?_, ?_, ?_, ?_, ?_, ?_, ?_, ?_⟩ <;> (unfold World.cell?; rw [heap_alloc_new]; rfl)
theorem CellAt.same {w w' : World} {b o : Nat} {s : Cell} (h : CellAt w b o s) (hs : w'.heap[b]? = w.heap[b]?) : CellAt w' b o s :=
  have f := fun i => World.cell?_of_block (w := w) (a := ⟨b, i, none⟩) hs
  ⟨(f _).trans h.1, (f _).trans h.2.1, (f _).trans h.2.2.1, (f _).trans h.2.2.2.1, (f _).trans h.2.2.2.2.1, (f _).trans h.2.2.2.2.2.1, (f _).trans h.2.2.2.2.2.2.1, (f _).trans h.2.2.2.2.2.2.2.1, (f _).trans h.2.2.2.2.2.2.2.2.1, (f _).trans h.2.2.2.2.2.2.2.2.2.1, (f _).trans h.2.2.2.2.2.2.2.2.2.2⟩
def Cells (w : World) (A : Option Addr) (xs : List Cell) : Prop :=
  ∀ j, j < xs.length → ∃ b off, A = some ⟨b, off, none⟩ ∧ CellAt w b (off + j * 11) (xs[j]?.getD default)
theorem Cells.get {w : World} {A : Option Addr} {xs : List Cell} (h : Cells w A xs) (j : Nat) (hj : j < xs.length) :
    ∃ x b off, Hid (xs[j]?.getD default = x) ∧ A = some ⟨b, off, none⟩ ∧ CellAt w b (off + j * 11) x :=
  let ⟨b, off, hA, hc⟩ := h j hj; ⟨_, b, off, Lib.hid rfl, hA, hc⟩
theorem Cells.below {w w' : World} {A : Option Addr} {xs : List Cell} (h : Cells w A xs) (hb : Below w.heap.size w w') : Cells w' A xs := fun j hj =>
  let ⟨b, off, hA, hc⟩ := h j hj
  ⟨b, off, hA, hc.below hb hc.lt⟩
theorem Cells.take {w : World} {A : Option Addr} {xs : List Cell} (h : Cells w A xs) (n : Nat) : Cells w A (xs.take n) := fun j hj => by
  obtain ⟨b, off, hA, hc⟩ := h j (by rw [List.length_take] at hj; omega)
  refine ⟨b, off, hA, ?_⟩
  rw [List.getElem?_take, if_pos (by rw [List.length_take] at hj; omega)]
  exact hc

/-- a right cell, of so many rows -/
def okW (rows : Int) (c : Cell) : Bool := decide (0 ≤ c.row ∧ c.row < rows ∧ 1 ≤ c.rows ∧ c.rows ≤ rows - c.row)
def okCell (rows : Int) (c : Cell) : Bool := okW rows c && (inR 0 3 c.al && (inR 0 1125899906842623 c.high && inR 0 1125899906842623 c.base))

theorem ints_two (w : World) (n m : Int) (t : TypeId) : Ints (w.alloc (.cells #[.int .i64 n, .int .i64 m] t)) (some ⟨w.heap.size, 0, none⟩) [n, m] := fun j hj => by
  refine ⟨w.heap.size, 0, rfl, ?_⟩
  unfold World.cell?
  rw [heap_alloc_new]
  match j, hj with
  | 0, _ => rfl
  | 1, _ => rfl
theorem outs_one (lo hi n : Int) : outs lo hi [n] = !inR lo hi n := by simp [outs]
theorem outs_two (lo hi n m : Int) : outs lo hi [n, m] = !(inR lo hi n && inR lo hi m) := by simp [outs]

theorem one26 (lo hi n : Int) (h : lo ≤ hi) (w : World) (b : Nat) (hb : w.heap.size = b) : Calls Try.prog 26 #[.int .i64 lo, .int .i64 hi, .slice (some ⟨b, 0, none⟩) 1 1] (w.alloc (.cells #[.int .i64 n] 2)) fun e w' => e = .returned (.bool (inR lo hi n)) ∧ Below b w w' := by
  subst hb
  have hB : Below w.heap.size w (w.alloc (.cells #[.int .i64 n] 2)) := (Below.refl _ w).alloc (Nat.le_refl _) _
  refine (within26 (some ⟨w.heap.size, 0, none⟩) [n] 1 lo hi h _ (ints_one w n 2) (by simp)).mono ?_
  rintro e w' ⟨rfl, hb⟩
  exact ⟨by rw [outs_one, Bool.not_not], hB.trans (hb.mono hB.size)⟩
theorem two26 (lo hi n m : Int) (h : lo ≤ hi) (w : World) (b : Nat) (hb : w.heap.size = b) : Calls Try.prog 26 #[.int .i64 lo, .int .i64 hi, .slice (some ⟨b, 0, none⟩) 2 2] (w.alloc (.cells #[.int .i64 n, .int .i64 m] 2)) fun e w' => e = .returned (.bool (inR lo hi n && inR lo hi m)) ∧ Below b w w' := by
  subst hb
  have hB : Below w.heap.size w (w.alloc (.cells #[.int .i64 n, .int .i64 m] 2)) := (Below.refl _ w).alloc (Nat.le_refl _) _
  refine (within26 (some ⟨w.heap.size, 0, none⟩) [n, m] 2 lo hi h _ (ints_two w n m 2) (by simp)).mono ?_
  rintro e w' ⟨rfl, hb⟩
  exact ⟨by rw [outs_two, Bool.not_not], hB.trans (hb.mono hB.size)⟩

set_option maxHeartbeats 2000000 in
/-- the closure in align.Right -/
theorem c25w (c : Cell) (rows : Int) (B : Nat) (w : World) (h0 : 0 ≤ rows) (h1 : rows ≤ 10000) (hp : w.cell? ⟨B, 0, none⟩ = some (.int .i64 rows)) :
    Calls Try.prog 25 #[.agg c.arr, .pointer (some ⟨B, 0, none⟩)] w fun e w' => e = .returned (.bool (!okCell rows c)) ∧ Below w.heap.size w w' := by
  have hB1 : Below w.heap.size w (w.alloc (.cells c.arr 41)) := (Below.refl _ w).alloc (Nat.le_refl _) _
  have hB2 : Below w.heap.size w ((w.alloc (.cells c.arr 41)).alloc (.cells #[.int .i64 c.node, .int .i64 c.row, .int .i64 c.col, .int .i64 c.rows, .int .i64 c.cols] 37)) := hB1.alloc (by simp) _
  have hq := (hB2.cell (p := ⟨B, 0, none⟩) (World.block_lt_of_cell? w _ hp)).trans hp
  have hk : ((w.alloc (.cells c.arr 41)).alloc (.cells #[.int .i64 c.node, .int .i64 c.row, .int .i64 c.col, .int .i64 c.rows, .int .i64 c.cols] 37)).heap[w.heap.size]? = some (.cells c.arr 41) := by
    rw [Below.heap_alloc _ _ _ (by simp)]; exact heap_alloc_new w _
  have C1 := Lib.hid (one26 0 3 c.al (by omega))
  have C2 := Lib.hid (two26 0 1125899906842623 c.high c.base (by omega))
  have Hr : Hid (okCell rows c = (okW rows c && (inR 0 3 c.al && (inR 0 1125899906842623 c.high && inR 0 1125899906842623 c.base)))) := Lib.hid rfl
  have Hk := Lib.hid hk
  have HB2 := Lib.hid hB2
  clear hB1 hB2 hp hk
  generalize okCell rows c = r at *
  cases hw : okW rows c with
  | true =>
    obtain ⟨a1, a2, a3, a4⟩ := of_decide_eq_true hw
    rw [hw] at Hr
    generalize inR 0 3 c.al = x1 at *
    generalize (inR 0 1125899906842623 c.high && inR 0 1125899906842623 c.base) = x2 at *
    obtain ⟨node, row, col, rws, cols, mn, mx, high, base, hb, al⟩ := c
    dsimp only at *
    unfold Cell.arr at *
    dsimp only at *
    clear hw
    cases x1 with
    | true =>
      obtain rfl : r = x2 := by have := Hr.out; simpa using this
      go_enter Try.func25, Try.ntmps25
      go_wp2_with (fail)
      refine (C1.out _ _ (by simp)).mono ?_
      rintro e w1 ⟨rfl, hb1⟩
      have hk1 := (hb1.block w.heap.size (by omega)).trans Hk.out
      have q7 : w1.cell? ⟨w.heap.size, 7, none⟩ = some (.int .i64 high) := by simp [World.cell?, hk1]
      have q8 : w1.cell? ⟨w.heap.size, 8, none⟩ = some (.int .i64 base) := by simp [World.cell?, hk1]
      have HB3 := Lib.hid (HB2.out.trans (hb1.mono (by omega)))
      clear hb1 hk1
      go_wp2_with (fail)
      refine (C2.out _ _ rfl).mono ?_
      rintro e w2 ⟨rfl, hb2⟩
      have HB4 := Lib.hid (HB3.out.trans (hb2.mono HB3.out.size))
      clear hb2 q7 q8
      go_wp2_with (fail)
      go_ret
      exact ⟨rfl, HB4.out⟩
    | false =>
      obtain rfl : r = false := by have := Hr.out; simpa using this
      go_enter Try.func25, Try.ntmps25
      go_wp2_with (fail)
      refine (C1.out _ _ (by simp)).mono ?_
      rintro e w1 ⟨rfl, hb1⟩
      have HB3 := Lib.hid (HB2.out.trans (hb1.mono (by omega)))
      clear hb1
      go_wp2_with (fail)
      go_ret
      exact ⟨rfl, HB3.out⟩
  | false =>
    rw [hw] at Hr
    obtain rfl : r = false := by have := Hr.out; simpa using this
    have hn := of_decide_eq_false hw
    obtain ⟨node, row, col, rws, cols, mn, mx, high, base, hb, al⟩ := c
    dsimp only at *
    unfold Cell.arr at *
    dsimp only at *
    clear hw
    have Hn := Lib.hid hn
    clear hn
    by_cases b1 : 0 ≤ row
    · by_cases b2 : row < rows
      · by_cases b3 : 1 ≤ rws
        · have b4 : rows - row < rws := by have := Hn.out; omega
          go_enter Try.func25, Try.ntmps25
          go_wp2_with (fail)
          go_ret
          exact ⟨rfl, HB2.out⟩
        · go_enter Try.func25, Try.ntmps25
          go_wp2_with (fail)
          go_ret
          exact ⟨rfl, HB2.out⟩
      · go_enter Try.func25, Try.ntmps25
        go_wp2_with (fail)
        go_ret
        exact ⟨rfl, HB2.out⟩
    · go_enter Try.func25, Try.ntmps25
      go_wp2_with (fail)
      go_ret
      exact ⟨rfl, HB2.out⟩

end Go.Proofs.Ytgpcoljgpgamdaa
