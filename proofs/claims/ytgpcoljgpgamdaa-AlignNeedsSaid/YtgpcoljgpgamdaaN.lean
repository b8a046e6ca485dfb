/- align.Downs where cells or bands are wrong; the reference's Right and based. -/
import Derived.Test.YtgpcoljgpgamdaaM
namespace Go.Proofs.Ytgpcoljgpgamdaa
open Go.RowKit Go.Shelf
set_option linter.unusedVariables false

set_option maxRecDepth 100000 in
set_option maxHeartbeats 2000000 in
theorem downs19_wrong (A Ar : Option Addr) (xs : List Cell) (c cr : Nat) (rows : List Int) (gap : Int) (w : World) (hx : Cells w A xs) (hl : xs.length ≤ 1000) (hrows : Ints w Ar rows) (hlr : rows.length ≤ 17592186044416) (hr : rightC rows.length xs = false ∨ right rows gap = false) :
    Calls Try.prog 19 #[.slice Ar rows.length cr, .int .i64 gap, .slice A xs.length c] w fun e w' => e = .returned (.tuple #[.slice none 0 0, .int .i64 170]) ∧ Below w.heap.size w w' := by
  have Hrows := Lib.hid hrows
  have H16 := Lib.hid (fun W (h : Ints W Ar rows) => c16 Ar rows cr gap W h hlr)
  cases hrc : rightC rows.length xs with
  | false =>
    have H := Lib.hid (lines12_wrong A xs c rows.length w hx (by omega) hrc)
    clear hx hrows hr hrc
    go_enter Try.func19, Try.ntmps19
    go_wp2
    go_step3
    go_wp2_with (fail)
    refine H.out.mono ?_
    rintro e w1 ⟨rfl, hb⟩
    have HB := Lib.hid ((hb.alloc hb.size (.cells #[.slice none 0 0] 25)).alloc (by have := hb.size; simp; omega) (.cells #[Value.nilFunc, Value.nilFunc, Value.nilFunc, Value.nilFunc] 51))
    clear hb
    go_wp2_with (fail)
    rw [Exit.noGoto_ret]
    go_ret2
    exact ⟨rfl, HB.out⟩
  | true =>
    have hrr : right rows gap = false := hr.resolve_left (by rw [hrc]; simp)
    have H := Lib.hid (lines12_right A xs c rows.length w hx (by omega) hrc)
    rw [hrr] at H16
    clear hx hrows hr hrc hrr
    go_enter Try.func19, Try.ntmps19
    go_wp2
    go_step3
    go_wp2_with (fail)
    refine H.out.mono ?_
    rintro e w1 ⟨gL, rfl, hrow, hgL, hb⟩
    have hba := ((hb.alloc hb.size (.cells #[.slice (some ⟨gL, 0, none⟩) rows.length rows.length] 25)).alloc (by have := hb.size; simp; omega) (.cells #[Value.nilFunc, Value.nilFunc, Value.nilFunc, Value.nilFunc] 51))
    have HB := Lib.hid hba
    clear hb hrow hba
    go_wp2_with (fail)
    refine (H16.out _ (Hrows.out.below HB.out)).mono ?_
    rintro e w2 ⟨rfl, hb⟩
    have HB2 := Lib.hid (HB.out.trans (hb.mono HB.out.size))
    clear hb
    go_wp2_with (fail)
    rw [Exit.noGoto_ret]
    go_ret2
    exact ⟨rfl, HB2.out⟩

set_option maxRecDepth 100000 in
/-- the reference's based -/
theorem based28 (c : Cell) (w : World) : Calls Try.prog 28 #[.agg c.arr] w fun e w' => e = .returned (.bool (isB c)) ∧ Below w.heap.size w w' := by
  have hB : Below w.heap.size w (w.alloc (.cells c.arr 41)) := (Below.refl _ w).alloc (Nat.le_refl _) _
  have HB := Lib.hid hB
  clear hB
  obtain ⟨node, row, col, rws, cols, mn, mx, high, base, hb, al⟩ := c
  unfold Cell.arr isB at *
  dsimp only at *
  by_cases h : al = 0
  · subst h
    go_enter Try.func28, Try.ntmps28
    go_wp2
    go_ret
    exact ⟨by simp, HB.out⟩
  · have t : (al == 0) = false := by rw [beq_eq_false_iff_ne]; exact h
    clear h
    go_enter Try.func28, Try.ntmps28
    go_wp2
    go_ret
    exact ⟨by rw [t]; rfl, HB.out⟩

end Go.Proofs.Ytgpcoljgpgamdaa
