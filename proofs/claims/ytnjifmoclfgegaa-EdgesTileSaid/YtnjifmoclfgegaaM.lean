/- What edges.Cells and the reference's Cells give, in one form. -/
import Derived.Test.YtnjifmoclfgegaaK
namespace Go.Proofs.Ytnjifmoclfgegaa
open Go.RowKit Go.Shelf
set_option linter.unusedVariables false

def okC (cols rows : List Int) (g0 g1 : Int) (ps : List Place) : Bool := right cols g0 && right rows g1 && allFit ps rows.length cols.length
def rsC (cols rows : List Int) (g0 g1 : Int) (ps : List Place) : List Rect := if okC cols rows g0 g1 ps = true then upto (rectAt cols rows g0 g1 ps) ps.length else []
def erC (cols rows : List Int) (g0 g1 : Int) (ps : List Place) : Int := if okC cols rows g0 g1 ps = true then 0 else 100
def CellsGive (rs : List Rect) (er : Int) (w : World) (e : Ending) (w' : World) : Prop :=
  (∃ A c, e = .returned (.tuple #[.slice A rs.length c, .int .i64 er]) ∧ Rects w' A rs) ∧ Below w.heap.size w w'
theorem rects_nil (w : World) (A : Option Addr) : Rects w A [] := fun j hj => absurd hj (Nat.not_lt_zero j)
theorem give_of {cols rows : List Int} {g0 g1 : Int} {ps : List Place} {w : World} {e : Ending} {w' : World} (h1 : right cols g0 = true) (h2 : right rows g1 = true) (h : CellsSaid cols rows g0 g1 ps w e w') : CellsGive (rsC cols rows g0 g1 ps) (erC cols rows g0 g1 ps) w e w' := by
  obtain ⟨ha, hb, hB⟩ := h
  refine ⟨?_, hB⟩
  unfold rsC erC
  cases hf : allFit ps rows.length cols.length with
  | true =>
    have ho : okC cols rows g0 g1 ps = true := by unfold okC; rw [h1, h2, hf]; rfl
    rw [if_pos ho, if_pos ho]
    obtain ⟨A, c, h3, h4⟩ := ha hf
    exact ⟨A, c, by rw [upto_length]; exact h3, h4⟩
  | false =>
    have ho : ¬ okC cols rows g0 g1 ps = true := by unfold okC; rw [h1, h2, hf]; simp
    rw [if_neg ho, if_neg ho]
    exact ⟨none, 0, hb hf, rects_nil _ _⟩
theorem give_wrong {cols rows : List Int} {g0 g1 : Int} {ps : List Place} {w : World} {e : Ending} {w' : World} (h1 : right cols g0 = false ∨ right rows g1 = false) (he : e = .returned (.tuple #[.slice none 0 0, .int .i64 100])) (hB : Below w.heap.size w w') : CellsGive (rsC cols rows g0 g1 ps) (erC cols rows g0 g1 ps) w e w' := by
  have ho : ¬ okC cols rows g0 g1 ps = true := by
    unfold okC
    rcases h1 with h | h <;> rw [h] <;> simp
  unfold rsC erC
  rw [if_neg ho, if_neg ho]
  exact ⟨⟨none, 0, he, rects_nil _ _⟩, hB⟩

theorem c21 (A Ac Ar : Option Addr) (ps : List Place) (c : Nat) (cols rows : List Int) (cc cr : Nat) (g0 g1 : Int) (w : World) (hp : Places w A ps) (hlp : ps.length ≤ 1000) (hc : Ints w Ac cols) (hr : Ints w Ar rows) (lc : cols.length ≤ 17592186044416) (lr : rows.length ≤ 17592186044416) :
    Calls Try.prog 21 #[.slice A ps.length c, .slice Ac cols.length cc, .slice Ar rows.length cr, .agg #[.int .i64 g0, .int .i64 g1]] w (CellsGive (rsC cols rows g0 g1 ps) (erC cols rows g0 g1 ps) w) := by
  by_cases hw : right cols g0 = false ∨ right rows g1 = false
  · exact (c21_wrong A Ac Ar ps.length c cols rows cc cr g0 g1 w hc hr lc lr hw).mono fun e w' ⟨h1, h2⟩ => give_wrong hw h1 h2
  · have h1 : right cols g0 = true := by cases h : right cols g0 with
      | true => rfl
      | false => exact absurd (.inl h) hw
    have h2 : right rows g1 = true := by cases h : right rows g1 with
      | true => rfl
      | false => exact absurd (.inr h) hw
    exact (c21_right A Ac Ar ps c cols rows cc cr g0 g1 w hp hlp hc hr h1 h2).mono fun e w' h => give_of h1 h2 h

set_option maxHeartbeats 2000000 in
theorem c22_wrong (A Ac Ar : Option Addr) (n c : Nat) (cols rows : List Int) (cc cr : Nat) (g0 g1 : Int) (w : World) (hc : Ints w Ac cols) (hr : Ints w Ar rows) (lc : cols.length ≤ 17592186044416) (lr : rows.length ≤ 17592186044416) (hw : right cols g0 = false ∨ right rows g1 = false) :
    Calls Try.prog 22 #[.slice A n c, .slice Ac cols.length cc, .slice Ar rows.length cr, .agg #[.int .i64 g0, .int .i64 g1]] w fun e w' => e = .returned (.tuple #[.slice none 0 0, .int .i64 100]) ∧ Below w.heap.size w w' := by
  have hB0 : Below w.heap.size w (w.alloc (.cells #[.int .i64 g0, .int .i64 g1] 38)) := (Below.refl _ w).alloc (Nat.le_refl _) _
  have HB0 := Lib.hid hB0
  have Hc := Lib.hid (hc.below hB0)
  have Hr := Lib.hid (hr.below hB0)
  have H7 := Lib.hid (heap_alloc_new w (.cells #[.int .i64 g0, .int .i64 g1] 38))
  have D1 := Lib.hid (fun W (h : Ints W Ac cols) => c15 Ac cols cc g0 W h lc)
  have D2 := Lib.hid (fun W (h : Ints W Ar rows) => c15 Ar rows cr g1 W h lr)
  have Hw := Lib.hid hw
  clear hB0 hc hr hw
  generalize right cols g0 = x at *
  generalize right rows g1 = y at *
  go_enter Try.func22, Try.ntmps22
  go_wp2_with (fail)
  refine (D1.out _ Hc.out).mono ?_
  rintro e wa ⟨rfl, hd1⟩
  have hba := hd1.below (w.alloc (.cells #[.int .i64 g0, .int .i64 g1] 38)).heap.size
  have r7 := (hba.block _ (Array.getElem?_eq_some_iff.1 H7.out).1).trans H7.out
  have p0 : wa.cell? ⟨w.heap.size, 0, none⟩ = some (.int .i64 g0) := by simp [World.cell?, r7]
  have p1 : wa.cell? ⟨w.heap.size, 1, none⟩ = some (.int .i64 g1) := by simp [World.cell?, r7]
  have HBa := Lib.hid (HB0.out.trans (hba.mono HB0.out.size))
  have Hra := Lib.hid (Hr.out.below hba)
  clear r7 hba hd1 HB0 Hc Hr H7 D1
  go_wp2_with (fail)
  refine (D2.out _ Hra.out).mono ?_
  rintro e wb ⟨rfl, hd1⟩
  have HBb := Lib.hid (HBa.out.trans ((hd1.below wa.heap.size).mono HBa.out.size))
  clear hd1 p0 p1 HBa Hra D2
  cases x with
  | false =>
    go_wp2
    go_ret2
    exact ⟨rfl, HBb.out⟩
  | true =>
    obtain rfl : y = false := by rcases Hw.out with h | h; cases h; exact h
    go_wp2
    go_ret2
    exact ⟨rfl, HBb.out⟩

end Go.Proofs.Ytnjifmoclfgegaa
