/- EdgesGutters: what the program and the reference give is the same. -/
import Derived.Test.YtnjifmoclfgegaaAD
namespace Go.Proofs.Ytnjifmoclfgegaa
open Go Go.RowKit Go.Shelf
set_option linter.unusedVariables false

set_option maxHeartbeats 2000000 in
theorem gutters0 (Ac Ar : Option Addr) (n m cc cr : Nat) (g0 g1 : Int) (rs : List Rect) (er : Int) (w : World) (hcc : n ≤ cc) (hcr : m ≤ cr) (hn : n ≤ 17592186044416) (hm : m ≤ 17592186044416) (hc : n ≤ 40) (hr : m ≤ 40) (hrs : rs.length ≤ 1000000)
    (h24 : ∀ W, Below w.heap.size w W → Calls Try.prog 24 #[.slice Ac n cc, .slice Ar m cr, .agg #[.int .i64 g0, .int .i64 g1]] W (CellsGive rs er W))
    (h25 : ∀ W, Below w.heap.size w W → Calls Try.prog 25 #[.slice Ac n cc, .slice Ar m cr, .agg #[.int .i64 g0, .int .i64 g1]] W (CellsGive rs er W)) :
    Calls Try.prog 8 #[.slice Ac n cc, .slice Ar m cr, .agg #[.int .i64 g0, .int .i64 g1]] w fun e w' => e = .returned (.bool true) ∧ Below w.heap.size w w' := by
  have E24 := Lib.hid h24
  have E25 := Lib.hid h25
  have t1 : ((40 : Int) < (n : Int)) = False := by simp; omega
  have t2 : ((40 : Int) < (m : Int)) = False := by simp; omega
  have H0 := Lib.hid ((Below.refl w.heap.size w).alloc (Nat.le_refl _) (.cells #[.int .i64 g0, .int .i64 g1] 38))
  have H7 := Lib.hid (heap_alloc_new w (.cells #[.int .i64 g0, .int .i64 g1] 38))
  clear h24 h25
  go_enter Try.func8, Try.ntmps8
  go_wp2_with (fail)
  refine (c10 _).mono ?_
  rintro e w1 ⟨rfl, hb1⟩
  have r7 := (hb1.block _ (Array.getElem?_eq_some_iff.1 H7.out).1).trans H7.out
  have p0 : w1.cell? ⟨w.heap.size, 0, none⟩ = some (.int .i64 g0) := by unfold World.cell?; rw [r7]; rfl
  have p1 : w1.cell? ⟨w.heap.size, 1, none⟩ = some (.int .i64 g1) := by unfold World.cell?; rw [r7]; rfl
  have HB1 := Lib.hid (H0.out.trans (hb1.mono H0.out.size))
  have R1 := Lib.hid r7
  clear hb1 r7 H0 H7
  go_wp2_with (fail)
  refine (E24.out _ HB1.out).mono ?_
  rintro e w2 ⟨⟨A1, c1, rfl, hr1⟩, hb2⟩
  have r7 := (hb2.block _ (Array.getElem?_eq_some_iff.1 R1.out).1).trans R1.out
  clear p0 p1
  have p0 : w2.cell? ⟨w.heap.size, 0, none⟩ = some (.int .i64 g0) := by unfold World.cell?; rw [r7]; rfl
  have p1 : w2.cell? ⟨w.heap.size, 1, none⟩ = some (.int .i64 g1) := by unfold World.cell?; rw [r7]; rfl
  have HB2 := Lib.hid (HB1.out.trans (hb2.mono HB1.out.size))
  have Q1 := Lib.hid hr1
  clear hb2 r7 hr1
  go_wp2_with (fail)
  refine (E25.out _ HB2.out).mono ?_
  rintro e w3 ⟨⟨A2, c2, rfl, hr2⟩, hb3⟩
  have HB3 := Lib.hid (HB2.out.trans (hb3.mono HB2.out.size))
  have Q2 := Lib.hid (Q1.out.below hb3)
  have Q3 := Lib.hid hr2
  clear hb3 hr2 p0 p1
  go_wp2_with (fail)
  refine (c23 A1 A2 rs c1 c2 _ Q2.out Q3.out (by omega)).mono ?_
  rintro e w4 ⟨rfl, hd⟩
  have HB4 := Lib.hid (HB3.out.trans (hd.below w.heap.size))
  clear hd
  go_wp2_with (fail)
  go_ret
  exact ⟨rfl, HB4.out⟩

set_option maxHeartbeats 2000000 in
theorem gutters1 (Ac Ar : Option Addr) (n m cc cr : Nat) (g0 g1 : Int) (rs : List Rect) (er : Int) (w : World) (hcc : n ≤ cc) (hcr : m ≤ cr) (hn : n ≤ 17592186044416) (hm : m ≤ 17592186044416) (hc : n ≤ 40) (hr : 40 < m) (hrs : rs.length ≤ 1000000)
    (h24 : ∀ W, Below w.heap.size w W → Calls Try.prog 24 #[.slice Ac n cc, .slice Ar 40 cr, .agg #[.int .i64 g0, .int .i64 g1]] W (CellsGive rs er W))
    (h25 : ∀ W, Below w.heap.size w W → Calls Try.prog 25 #[.slice Ac n cc, .slice Ar 40 cr, .agg #[.int .i64 g0, .int .i64 g1]] W (CellsGive rs er W)) :
    Calls Try.prog 8 #[.slice Ac n cc, .slice Ar m cr, .agg #[.int .i64 g0, .int .i64 g1]] w fun e w' => e = .returned (.bool true) ∧ Below w.heap.size w w' := by
  have E24 := Lib.hid h24
  have E25 := Lib.hid h25
  have t1 : ((40 : Int) < (n : Int)) = False := by simp; omega
  have t2 : ((40 : Int) < (m : Int)) = True := by simp; omega
  have H0 := Lib.hid ((Below.refl w.heap.size w).alloc (Nat.le_refl _) (.cells #[.int .i64 g0, .int .i64 g1] 38))
  have H7 := Lib.hid (heap_alloc_new w (.cells #[.int .i64 g0, .int .i64 g1] 38))
  clear h24 h25
  go_enter Try.func8, Try.ntmps8
  go_wp2_with (fail)
  refine (c10 _).mono ?_
  rintro e w1 ⟨rfl, hb1⟩
  have r7 := (hb1.block _ (Array.getElem?_eq_some_iff.1 H7.out).1).trans H7.out
  have p0 : w1.cell? ⟨w.heap.size, 0, none⟩ = some (.int .i64 g0) := by unfold World.cell?; rw [r7]; rfl
  have p1 : w1.cell? ⟨w.heap.size, 1, none⟩ = some (.int .i64 g1) := by unfold World.cell?; rw [r7]; rfl
  have HB1 := Lib.hid (H0.out.trans (hb1.mono H0.out.size))
  have R1 := Lib.hid r7
  clear hb1 r7 H0 H7
  go_wp2_with (fail)
  refine (E24.out _ HB1.out).mono ?_
  rintro e w2 ⟨⟨A1, c1, rfl, hr1⟩, hb2⟩
  have r7 := (hb2.block _ (Array.getElem?_eq_some_iff.1 R1.out).1).trans R1.out
  clear p0 p1
  have p0 : w2.cell? ⟨w.heap.size, 0, none⟩ = some (.int .i64 g0) := by unfold World.cell?; rw [r7]; rfl
  have p1 : w2.cell? ⟨w.heap.size, 1, none⟩ = some (.int .i64 g1) := by unfold World.cell?; rw [r7]; rfl
  have HB2 := Lib.hid (HB1.out.trans (hb2.mono HB1.out.size))
  have Q1 := Lib.hid hr1
  clear hb2 r7 hr1
  go_wp2_with (fail)
  refine (E25.out _ HB2.out).mono ?_
  rintro e w3 ⟨⟨A2, c2, rfl, hr2⟩, hb3⟩
  have HB3 := Lib.hid (HB2.out.trans (hb3.mono HB2.out.size))
  have Q2 := Lib.hid (Q1.out.below hb3)
  have Q3 := Lib.hid hr2
  clear hb3 hr2 p0 p1
  go_wp2_with (fail)
  refine (c23 A1 A2 rs c1 c2 _ Q2.out Q3.out (by omega)).mono ?_
  rintro e w4 ⟨rfl, hd⟩
  have HB4 := Lib.hid (HB3.out.trans (hd.below w.heap.size))
  clear hd
  go_wp2_with (fail)
  go_ret
  exact ⟨rfl, HB4.out⟩

set_option maxHeartbeats 2000000 in
theorem gutters2 (Ac Ar : Option Addr) (n m cc cr : Nat) (g0 g1 : Int) (rs : List Rect) (er : Int) (w : World) (hcc : n ≤ cc) (hcr : m ≤ cr) (hn : n ≤ 17592186044416) (hm : m ≤ 17592186044416) (hc : 40 < n) (hr : m ≤ 40) (hrs : rs.length ≤ 1000000)
    (h24 : ∀ W, Below w.heap.size w W → Calls Try.prog 24 #[.slice Ac 40 cc, .slice Ar m cr, .agg #[.int .i64 g0, .int .i64 g1]] W (CellsGive rs er W))
    (h25 : ∀ W, Below w.heap.size w W → Calls Try.prog 25 #[.slice Ac 40 cc, .slice Ar m cr, .agg #[.int .i64 g0, .int .i64 g1]] W (CellsGive rs er W)) :
    Calls Try.prog 8 #[.slice Ac n cc, .slice Ar m cr, .agg #[.int .i64 g0, .int .i64 g1]] w fun e w' => e = .returned (.bool true) ∧ Below w.heap.size w w' := by
  have E24 := Lib.hid h24
  have E25 := Lib.hid h25
  have t1 : ((40 : Int) < (n : Int)) = True := by simp; omega
  have t2 : ((40 : Int) < (m : Int)) = False := by simp; omega
  have H0 := Lib.hid ((Below.refl w.heap.size w).alloc (Nat.le_refl _) (.cells #[.int .i64 g0, .int .i64 g1] 38))
  have H7 := Lib.hid (heap_alloc_new w (.cells #[.int .i64 g0, .int .i64 g1] 38))
  clear h24 h25
  go_enter Try.func8, Try.ntmps8
  go_wp2_with (fail)
  refine (c10 _).mono ?_
  rintro e w1 ⟨rfl, hb1⟩
  have r7 := (hb1.block _ (Array.getElem?_eq_some_iff.1 H7.out).1).trans H7.out
  have p0 : w1.cell? ⟨w.heap.size, 0, none⟩ = some (.int .i64 g0) := by unfold World.cell?; rw [r7]; rfl
  have p1 : w1.cell? ⟨w.heap.size, 1, none⟩ = some (.int .i64 g1) := by unfold World.cell?; rw [r7]; rfl
  have HB1 := Lib.hid (H0.out.trans (hb1.mono H0.out.size))
  have R1 := Lib.hid r7
  clear hb1 r7 H0 H7
  go_wp2_with (fail)
  refine (E24.out _ HB1.out).mono ?_
  rintro e w2 ⟨⟨A1, c1, rfl, hr1⟩, hb2⟩
  have r7 := (hb2.block _ (Array.getElem?_eq_some_iff.1 R1.out).1).trans R1.out
  clear p0 p1
  have p0 : w2.cell? ⟨w.heap.size, 0, none⟩ = some (.int .i64 g0) := by unfold World.cell?; rw [r7]; rfl
  have p1 : w2.cell? ⟨w.heap.size, 1, none⟩ = some (.int .i64 g1) := by unfold World.cell?; rw [r7]; rfl
  have HB2 := Lib.hid (HB1.out.trans (hb2.mono HB1.out.size))
  have Q1 := Lib.hid hr1
  clear hb2 r7 hr1
  go_wp2_with (fail)
  refine (E25.out _ HB2.out).mono ?_
  rintro e w3 ⟨⟨A2, c2, rfl, hr2⟩, hb3⟩
  have HB3 := Lib.hid (HB2.out.trans (hb3.mono HB2.out.size))
  have Q2 := Lib.hid (Q1.out.below hb3)
  have Q3 := Lib.hid hr2
  clear hb3 hr2 p0 p1
  go_wp2_with (fail)
  refine (c23 A1 A2 rs c1 c2 _ Q2.out Q3.out (by omega)).mono ?_
  rintro e w4 ⟨rfl, hd⟩
  have HB4 := Lib.hid (HB3.out.trans (hd.below w.heap.size))
  clear hd
  go_wp2_with (fail)
  go_ret
  exact ⟨rfl, HB4.out⟩

set_option maxHeartbeats 2000000 in
theorem gutters3 (Ac Ar : Option Addr) (n m cc cr : Nat) (g0 g1 : Int) (rs : List Rect) (er : Int) (w : World) (hcc : n ≤ cc) (hcr : m ≤ cr) (hn : n ≤ 17592186044416) (hm : m ≤ 17592186044416) (hc : 40 < n) (hr : 40 < m) (hrs : rs.length ≤ 1000000)
    (h24 : ∀ W, Below w.heap.size w W → Calls Try.prog 24 #[.slice Ac 40 cc, .slice Ar 40 cr, .agg #[.int .i64 g0, .int .i64 g1]] W (CellsGive rs er W))
    (h25 : ∀ W, Below w.heap.size w W → Calls Try.prog 25 #[.slice Ac 40 cc, .slice Ar 40 cr, .agg #[.int .i64 g0, .int .i64 g1]] W (CellsGive rs er W)) :
    Calls Try.prog 8 #[.slice Ac n cc, .slice Ar m cr, .agg #[.int .i64 g0, .int .i64 g1]] w fun e w' => e = .returned (.bool true) ∧ Below w.heap.size w w' := by
  have E24 := Lib.hid h24
  have E25 := Lib.hid h25
  have t1 : ((40 : Int) < (n : Int)) = True := by simp; omega
  have t2 : ((40 : Int) < (m : Int)) = True := by simp; omega
  have H0 := Lib.hid ((Below.refl w.heap.size w).alloc (Nat.le_refl _) (.cells #[.int .i64 g0, .int .i64 g1] 38))
  have H7 := Lib.hid (heap_alloc_new w (.cells #[.int .i64 g0, .int .i64 g1] 38))
  clear h24 h25
  go_enter Try.func8, Try.ntmps8
  go_wp2_with (fail)
  refine (c10 _).mono ?_
  rintro e w1 ⟨rfl, hb1⟩
  have r7 := (hb1.block _ (Array.getElem?_eq_some_iff.1 H7.out).1).trans H7.out
  have p0 : w1.cell? ⟨w.heap.size, 0, none⟩ = some (.int .i64 g0) := by unfold World.cell?; rw [r7]; rfl
  have p1 : w1.cell? ⟨w.heap.size, 1, none⟩ = some (.int .i64 g1) := by unfold World.cell?; rw [r7]; rfl
  have HB1 := Lib.hid (H0.out.trans (hb1.mono H0.out.size))
  have R1 := Lib.hid r7
  clear hb1 r7 H0 H7
  go_wp2_with (fail)
  refine (E24.out _ HB1.out).mono ?_
  rintro e w2 ⟨⟨A1, c1, rfl, hr1⟩, hb2⟩
  have r7 := (hb2.block _ (Array.getElem?_eq_some_iff.1 R1.out).1).trans R1.out
  clear p0 p1
  have p0 : w2.cell? ⟨w.heap.size, 0, none⟩ = some (.int .i64 g0) := by unfold World.cell?; rw [r7]; rfl
  have p1 : w2.cell? ⟨w.heap.size, 1, none⟩ = some (.int .i64 g1) := by unfold World.cell?; rw [r7]; rfl
  have HB2 := Lib.hid (HB1.out.trans (hb2.mono HB1.out.size))
  have Q1 := Lib.hid hr1
  clear hb2 r7 hr1
  go_wp2_with (fail)
  refine (E25.out _ HB2.out).mono ?_
  rintro e w3 ⟨⟨A2, c2, rfl, hr2⟩, hb3⟩
  have HB3 := Lib.hid (HB2.out.trans (hb3.mono HB2.out.size))
  have Q2 := Lib.hid (Q1.out.below hb3)
  have Q3 := Lib.hid hr2
  clear hb3 hr2 p0 p1
  go_wp2_with (fail)
  refine (c23 A1 A2 rs c1 c2 _ Q2.out Q3.out (by omega)).mono ?_
  rintro e w4 ⟨rfl, hd⟩
  have HB4 := Lib.hid (HB3.out.trans (hd.below w.heap.size))
  clear hd
  go_wp2_with (fail)
  go_ret
  exact ⟨rfl, HB4.out⟩

theorem gutsG_len {cols rows : List Int} {g0 g1 : Int} (h1 : cols.length ≤ 40) (h2 : rows.length ≤ 40) : (gutsG cols rows g0 g1).length ≤ 1000000 := by
  unfold gutsG
  split
  · unfold guts
    rw [List.length_append, upto_length, rowsTo_length]
    have : (rows.length + 1) * cols.length ≤ 41 * 40 := Nat.mul_le_mul (by omega) h1
    omega
  · simp
theorem gutters_walk (Ac Ar : Option Addr) (cols0 rows0 : List Int) (cc cr : Nat) (g0 g1 : Int) (w : World) (hc0 : Ints w Ac cols0) (hcc : cols0.length ≤ cc) (hlc : cols0.length ≤ 17592186044416) (hr0 : Ints w Ar rows0) (hcr : rows0.length ≤ cr) (hlr : rows0.length ≤ 17592186044416) :
    Calls Try.prog 8 #[.slice Ac cols0.length cc, .slice Ar rows0.length cr, .agg #[.int .i64 g0, .int .i64 g1]] w fun e w' => e = .returned (.bool true) ∧ Below w.heap.size w w' := by
  have a1 : (cols0.take 40).length ≤ 40 := by simp; omega
  have a2 : (rows0.take 40).length ≤ 40 := by simp; omega
  have i1 := hc0.take 40
  have i2 := hr0.take 40
  have k24 := fun W (hb : Below w.heap.size w W) => c24 Ac Ar (cols0.take 40) (rows0.take 40) cc cr g0 g1 W (i1.below hb) (i2.below hb) a1 a2
  have k25 := fun W (hb : Below w.heap.size w W) => c25 Ac Ar (cols0.take 40) (rows0.take 40) cc cr g0 g1 W (i1.below hb) (i2.below hb) a1 a2
  have hl := gutsG_len (g0 := g0) (g1 := g1) a1 a2
  have e1 : (cols0.take 40).length = if 40 < cols0.length then 40 else cols0.length := by rw [List.length_take]; split <;> omega
  have e2 : (rows0.take 40).length = if 40 < rows0.length then 40 else rows0.length := by rw [List.length_take]; split <;> omega
  rw [e1, e2] at k24 k25
  by_cases h1 : 40 < cols0.length
  · by_cases h2 : 40 < rows0.length
    · rw [if_pos h1, if_pos h2] at k24 k25
      exact gutters3 Ac Ar _ _ cc cr g0 g1 _ _ w hcc hcr hlc hlr h1 h2 hl k24 k25
    · rw [if_pos h1, if_neg h2] at k24 k25
      exact gutters2 Ac Ar _ _ cc cr g0 g1 _ _ w hcc hcr hlc hlr h1 (by omega) hl k24 k25
  · by_cases h2 : 40 < rows0.length
    · rw [if_neg h1, if_pos h2] at k24 k25
      exact gutters1 Ac Ar _ _ cc cr g0 g1 _ _ w hcc hcr hlc hlr (by omega) h2 hl k24 k25
    · rw [if_neg h1, if_neg h2] at k24 k25
      exact gutters0 Ac Ar _ _ cc cr g0 g1 _ _ w hcc hcr hlc hlr (by omega) (by omega) hl k24 k25

end Go.Proofs.Ytnjifmoclfgegaa
