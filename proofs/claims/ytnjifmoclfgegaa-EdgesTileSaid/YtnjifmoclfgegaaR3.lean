/- How an argument that is an array of two whole numbers is read. -/
import Derived.Test.YtnjifmoclfgegaaR2
namespace Go.Proofs.Ytnjifmoclfgegaa
open Go.ChangeShapes Go.WideShapes Go.ChangeAt Go.RowKit
set_option linter.unusedVariables false

theorem pair_arg {H : Type} {enc : TypeId × Value → H} {W : World} {base : Nat} {r : Reach} {b0 : Nat} {v : Value} {d : DataW H} {ps : List MemPlace}
    (hv : Value.okWide Try.prog W r b0 38 v) (h : DataW.Trod enc Try.prog W base (fun _ => true) true 38 v d ps) : ∃ g0 g1 : Int, v = .agg #[.int .i64 g0, .int .i64 g1] := by
  have hC : Try.prog.cellsOf 38 = 2 := by kernel_rfl
  have hc2 : Try.prog.cellsOf 2 = 1 := by kernel_rfl
  have hs : ∃ cs, v = .agg cs ∧ cs.size = Try.prog.cellsOf 38 := by
    cases v <;> simp_all [Value.okWide, Try.underlying38]
  obtain ⟨cs, rfl, hsz⟩ := hs
  obtain ⟨fuel, hf⟩ := h
  obtain ⟨xs, m, _, _, hl, hlen, hg⟩ := DataW.trod_array Try.underlying38 hf
  simp only [Value.cells] at hl hg
  obtain ⟨l⟩ := cs
  rw [hC] at hl
  obtain ⟨c0, c1, rfl⟩ : ∃ c0 c1, l = [c0, c1] := by
    match l, hl with
    | [c0, c1], _ => exact ⟨c0, c1, rfl⟩
  have h0 := hg 0 (by omega)
  have h1 := hg 1 (by omega)
  rw [hc2, List.getElem?_eq_getElem (by omega)] at h0 h1
  simp only [List.drop_zero, Nat.zero_mul, Nat.one_mul, List.drop_succ_cons, List.take_succ_cons, List.take_zero] at h0 h1
  obtain ⟨g0, e0, _⟩ := DataW.trod_int Try.underlying2 h0
  obtain ⟨g1, e1, _⟩ := DataW.trod_int Try.underlying2 h1
  exact ⟨g0, g1, by rw [(List.cons.inj e0).1, (List.cons.inj e1).1]⟩

end Go.Proofs.Ytnjifmoclfgegaa
