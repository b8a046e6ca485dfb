/- Contract of grid.Slots, of a negative number of rows or columns. -/
import Derived.Test.YtmlcjiabnmdfeaaFC
namespace Go.Proofs.Ytmlcjiabnmdfeaa
open Go Go.RowKit Go.Shelf CT
set_option linter.unusedVariables false
attribute [local go_sem] Oper.semAt_some

def NoSlots (w : World) (e : Ending) (w' : World) : Prop := e = .returned (.tuple #[.slice none 0 0, .int .i64 70]) ∧ Below w.heap.size w w'
theorem slots_none {w W : World} {H0 : Nat} (hH : H0 = w.heap.size) (b0 : Boxed W H0 63 (.slice none 0 0)) (b1 : Boxed W (H0 + 1) 35 (.int .i64 0)) (bl : Below H0 w W) {tmps : Array Value} (h6 : tmps[6]?.getD undef = .pointer (some ⟨H0, 0, none⟩)) (h7 : tmps[7]?.getD undef = .pointer (some ⟨H0 + 1, 0, none⟩)) :
    LeavesInM Fence.wide 3 Try.prog Try.f25 tmps (NoSlots w) [] .returning ((W.setCell ⟨H0, 0, none⟩ (.slice none 0 0)).setCell ⟨H0 + 1, 0, none⟩ (.int .i64 70)) := by
  refine leaves_coll (B := H0) [] _ (Marks.nil _ _) fun W' hW' => ?_
  have b0 := hW'.boxed ((b0.set (.slice none 0 0)).other (B' := H0 + 1) (by omega) (.int .i64 70))
  have b1 := hW'.boxed ((b1.other (B' := H0) (by omega) (.slice none 0 0)).set (.int .i64 70))
  refine ⟨_, res25 h6 h7 b0 b1, rfl, ?_⟩
  subst hH
  exact ((bl.setCell (p := ⟨w.heap.size, 0, none⟩) (Nat.le_refl _) _).setCell (p := ⟨w.heap.size + 1, 0, none⟩) (by show w.heap.size ≤ w.heap.size + 1; omega) _).trans hW'.below
theorem slots_boxes (w : World) (v : Value) (X : World) (h : ((w.alloc (.cells #[.slice none 0 0] 63)).alloc (.cells #[.int .i64 0] 35)).alloc (.cells #[v] 3) = X) : Boxed X w.heap.size 63 (.slice none 0 0) ∧ Boxed X (w.heap.size + 1) 35 (.int .i64 0) ∧ Below w.heap.size w X := by
  subst h
  refine ⟨((Boxed.new w 63 _).alloc _).alloc _, ?_, (((Below.refl _ w).alloc (Nat.le_refl _) _).alloc (by simp) _).alloc (by simp; omega) _⟩
  have h := (Boxed.new (w.alloc (.cells #[.slice none 0 0] 63)) 35 (.int .i64 0)).alloc (.cells #[v] 3)
  have e : (w.alloc (.cells #[.slice none 0 0] 63)).heap.size = w.heap.size + 1 := by simp
  rw [e] at h
  exact h

set_option maxHeartbeats 4000000 in
theorem c25_neg (v0 : Value) (R C : Int) (w : World) (hR : R ≤ 8) (hC : C ≤ 8) (hneg : R < 0 ∨ C < 0) :
    Calls Try.prog 25 #[v0, .int .i64 R, .int .i64 C] w (NoSlots w) := by
  refine (callsIn_wide (n := 3)).1 ?_
  refine callsIn_of_wp_marks Try.func25 rfl trivial ?_ rfl
  simp only [Try.ntmps25, List.size_toArray, List.length_cons, List.length_nil, Nat.reduceAdd, Nat.reduceSub, Array.replicate_succ, Array.replicate_zero, List.push_toArray, List.append_toArray, List.nil_append, List.cons_append]
  have Hneg := Lib.hid hneg
  clear hneg
  gi_wp2_with (fail)
  obtain ⟨b0, hb0⟩ : ∃ b, decide ((0 : Int) ≤ R ∧ R ≤ (65536 : Int)) = b := ⟨_, rfl⟩
  have E0 := Lib.hid hb0
  clear hb0
  refine ⟨trivial, (callsIn_wide.2 (c39b b0 _ _ _ _ _ (new_cell (by simp)) E0.out)).mono ?_⟩
  rintro e w3 ⟨rfl, hw⟩
  obtain ⟨x0, x1, xl⟩ := slots_boxes w _ w3 hw
  have X0 := Lib.hid x0
  have X1 := Lib.hid x1
  have XL := Lib.hid xl
  clear hw x0 x1 xl
  cases b0 with
  | false =>
    have z0 := X0.out.cell
    have z1 := X1.out.cell
    have z2 := X0.out.frozen
    have z3 := X1.out.frozen
    gi_wp2_with (fail)
    refine ⟨trivial, ?_⟩
    gi_wp2_with (fail)
    exact slots_none rfl X0.out X1.out XL.out (by rfl) (by rfl)
  | true =>
    gi_wp2_with (fail)
    have hneg2 : decide ((0 : Int) ≤ C ∧ C ≤ (10000 : Int)) = false := decide_eq_false (by have := Hneg.out; have := of_decide_eq_true E0.out; omega)
    have E1 := Lib.hid hneg2
    clear hneg2
    refine ⟨trivial, (callsIn_wide.2 (c39b false _ _ _ _ _ (new_cell (by simp)) E1.out)).mono ?_⟩
    rintro e w4 ⟨rfl, hw⟩
    have hbb : Below w3.heap.size w3 w4 := by rw [← hw]; exact (Below.refl _ _).alloc (Nat.le_refl _) _
    have Y0 : Hid (Boxed w4 w.heap.size 63 (.slice none 0 0)) := Lib.hid ((hbb.block _ (Boxed.lt X0.out)).trans X0.out)
    have Y1 : Hid (Boxed w4 (w.heap.size + 1) 35 (.int .i64 0)) := Lib.hid ((hbb.block _ (Boxed.lt X1.out)).trans X1.out)
    have YL := Lib.hid (XL.out.trans (hbb.mono XL.out.size))
    clear hw hbb
    have z0 := Y0.out.cell
    have z1 := Y1.out.cell
    have z2 := Y0.out.frozen
    have z3 := Y1.out.frozen
    gi_wp2_with (fail)
    exact slots_none rfl Y0.out Y1.out YL.out (by rfl) (by rfl)
end Go.Proofs.Ytmlcjiabnmdfeaa
