/- How an argument that is a side is read. -/
import Derived.Test.YtffnnfdlelaonaaRows
import Derived.Test.YtffnnfdlelaonaaA
import Derived.Test.YtffnnfdlelaonaaB
import Derived.WalkKit
import Derived.ProofKit
import Derived.OpenShut
import Derived.ShutString
import Derived.ChangeOld
import Derived.Below
import Derived.SizedLaws
import Derived.ChangeSlices
import Derived.Lib.SmallJoins
import Derived.Deep.Strs
namespace Go.Proofs.Ytffnnfdlelaonaa
open Go.ChangeShapes Go.WideShapes Go.ChangeAt Go.RowKit
set_option linter.unusedVariables false

theorem side_of_trod {H : Type} {enc : TypeId × Value → H} {W : World} {base : Nat} {spare : Nat → Bool} {held : Bool} {n : Nat} {cs : List Value} {x : DataW H × List MemPlace} (h : DataW.trod enc Try.prog W base spare held n 30 cs = some x) :
    ∃ s : Side, cs = s.cells ∧ s.wf := by
  obtain ⟨y0, y1, y2, y3, m, _, hl, h0, h1, h2, h3⟩ := Go.Joins.trod_struct4 Try.underlying30 h
  have hc30 : Try.prog.cellsOf 30 = 6 := by kernel_rfl
  have hc28 : Try.prog.cellsOf 28 = 3 := by kernel_rfl
  have hc3 : Try.prog.cellsOf 3 = 1 := by kernel_rfl
  have hc2 : Try.prog.cellsOf 2 = 1 := by kernel_rfl
  rw [hc30] at hl
  rw [hc28] at h0
  rw [hc3] at h1 h2 h3
  obtain ⟨c0, c1, c2, c3, c4, c5, rfl⟩ : ∃ c0 c1 c2 c3 c4 c5, cs = [c0, c1, c2, c3, c4, c5] := by
    match cs, hl with
    | [c0, c1, c2, c3, c4, c5], _ => exact ⟨c0, c1, c2, c3, c4, c5, rfl⟩
  simp only [List.drop_zero, List.drop_succ_cons, List.take_succ_cons, List.take_zero] at h0 h1 h2 h3
  obtain ⟨z0, z1, z2, m', _, _, k0, k1, k2⟩ := Go.Deep.trod_struct3 Try.underlying28 h0
  dsimp only at k0 k1 k2
  have hc26 : Try.prog.cellsOf 26 = 1 := by kernel_rfl
  rw [hc3] at k0
  rw [hc2] at k1
  rw [hc26] at k2
  simp only [List.drop_zero, List.drop_succ_cons, List.take_succ_cons, List.take_zero] at k0 k1 k2
  obtain ⟨n0, e0, _, w0⟩ := DataW.trod_int Try.underlying3 k0
  obtain ⟨n1, e1, _, w1⟩ := DataW.trod_int Try.underlying2 k1
  obtain ⟨n2, e2, _, w2⟩ := DataW.trod_int Try.underlying26 k2
  obtain ⟨n3, e3, _, w3⟩ := DataW.trod_int Try.underlying3 h1
  obtain ⟨n4, e4, _, w4⟩ := DataW.trod_int Try.underlying3 h2
  obtain ⟨n5, e5, _, w5⟩ := DataW.trod_int Try.underlying3 h3
  obtain rfl := (List.cons.inj e0).1
  obtain rfl := (List.cons.inj e1).1
  obtain rfl := (List.cons.inj e2).1
  obtain rfl := (List.cons.inj e3).1
  obtain rfl := (List.cons.inj e4).1
  obtain rfl := (List.cons.inj e5).1
  exact ⟨⟨n0, n1, n2, n3, n4, n5⟩, rfl, bounds_u32 w2⟩
/-- An argument that is a side. -/
theorem side_arg {H : Type} {enc : TypeId × Value → H} {W : World} {base : Nat} {r : Reach} {b0 : Nat} {v : Value} {d : DataW H} {ps : List MemPlace}
    (hv : Value.okWide Try.prog W r b0 30 v) (h : DataW.Trod enc Try.prog W base (fun _ => true) true 30 v d ps) : ∃ s : Side, v = .agg s.arr ∧ s.wf := by
  obtain ⟨cs, rfl, hsz⟩ := okWide_struct Try.underlying30 hv
  obtain ⟨fuel, hf⟩ := h
  obtain ⟨s, hs, hw⟩ := side_of_trod hf
  simp only [Value.cells] at hs
  refine ⟨s, ?_, hw⟩
  rw [← Array.toArray_toList (xs := cs), hs]
  rfl
end Go.Proofs.Ytffnnfdlelaonaa
