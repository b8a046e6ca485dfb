/- How an argument that is a slice of places is read, and one that is two whole numbers. -/
import Derived.Test.YtnjifmoclfgegaaR
import Derived.Test.YtnjifmoclfgegaaJ
import Derived.Deep.Slices
namespace Go.Proofs.Ytnjifmoclfgegaa
open Go.ChangeShapes Go.WideShapes Go.ChangeAt Go.RowKit
set_option linter.unusedVariables false

theorem place_of_trod {H : Type} {enc : TypeId × Value → H} {W : World} {base : Nat} {spare : Nat → Bool} {held : Bool} {n : Nat} {cs : List Value} {x : DataW H × List MemPlace} (h : DataW.trod enc Try.prog W base spare held n 45 cs = some x) :
    ∃ p : Place, cs = p.cells := by
  obtain ⟨xs, m, _, _, hl, hlen, hf⟩ := DataW.trod_struct Try.underlying45 h
  have hc45 : Try.prog.cellsOf 45 = 5 := by kernel_rfl
  have hc3 : Try.prog.cellsOf 3 = 1 := by kernel_rfl
  rw [hc45] at hl
  obtain ⟨c0, c1, c2, c3, c4, rfl⟩ : ∃ c0 c1 c2 c3 c4, cs = [c0, c1, c2, c3, c4] := by
    match cs, hl with
    | [c0, c1, c2, c3, c4], _ => exact ⟨c0, c1, c2, c3, c4, rfl⟩
  have g : ∀ (i : Nat) (f : Field) (y : Value), (#[{ name := "Node", type := 3, offset := 0, embedded := false, tag := "", pkgPath := "", byteOffset := 0 }, { name := "Row", type := 3, offset := 1, embedded := false, tag := "", pkgPath := "", byteOffset := 8 }, { name := "Col", type := 3, offset := 2, embedded := false, tag := "", pkgPath := "", byteOffset := 16 }, { name := "Rows", type := 3, offset := 3, embedded := false, tag := "", pkgPath := "", byteOffset := 24 }, { name := "Cols", type := 3, offset := 4, embedded := false, tag := "", pkgPath := "", byteOffset := 32 }] : Array Field)[i]? = some f → i < 5 → f.type = 3 → ([c0, c1, c2, c3, c4].drop f.offset).take 1 = [y] → ∃ k, y = .int .i64 k := fun i f y hfi hi ht hd => by
    have := hf i f hfi
    rw [ht, hc3, hd] at this
    have hx : i < xs.length := by rw [hlen]; exact hi
    rw [List.getElem?_eq_getElem hx] at this
    obtain ⟨k, e, _⟩ := DataW.trod_int Try.underlying3 this
    exact ⟨k, (List.cons.inj e).1⟩
  obtain ⟨k0, rfl⟩ := g 0 _ c0 rfl (by omega) rfl rfl
  obtain ⟨k1, rfl⟩ := g 1 _ c1 rfl (by omega) rfl rfl
  obtain ⟨k2, rfl⟩ := g 2 _ c2 rfl (by omega) rfl rfl
  obtain ⟨k3, rfl⟩ := g 3 _ c3 rfl (by omega) rfl rfl
  obtain ⟨k4, rfl⟩ := g 4 _ c4 rfl (by omega) rfl rfl
  exact ⟨⟨k0, k1, k2, k3, k4⟩, rfl⟩

/-- An argument that is a slice of places. -/
theorem places_arg {H : Type} {enc : TypeId × Value → H} {W : World} {base : Nat} {r : Reach} {b0 : Nat} {v : Value} {d : DataW H} {ps : List MemPlace} {ts : List TypeId} {ds : List (DataW H)} {j : Nat}
    (hsz : (DataW.weightsEach Try.prog ts ds).all (· ≤ reachBytes) = true) (ht : ts[j]? = some 37) (hd : ds[j]? = some d)
    (hv : Value.okWide Try.prog W r b0 37 v) (h : DataW.Trod enc Try.prog W base (fun _ => true) true 37 v d ps) :
    ∃ A xs c, v = .slice A xs.length c ∧ Places W A xs ∧ xs.length ≤ c ∧ xs.length ≤ 17592186044416 := by
  obtain ⟨a, len, cap, rfl⟩ := okWide_slice Try.underlying37 hv
  obtain ⟨fuel, hf⟩ := h
  rcases Go.Deep.open_slice Try.underlying37 hf with ⟨hcs, _⟩ | ⟨x, l, c, m, n, D, Pl, hcs, _, hl, hm, hmm, hx, hcell⟩
  · simp [Value.cells] at hcs
    obtain ⟨rfl, rfl, rfl⟩ := hcs
    exact ⟨none, [], 0, rfl, fun j hj => absurd hj (Nat.not_lt_zero j), Nat.le_refl _, Nat.zero_le _⟩
  · simp [Value.cells] at hcs
    obtain ⟨rfl, rfl, rfl⟩ := hcs
    obtain ⟨hx, _⟩ := Prod.mk.inj hx
    subst hx
    rw [if_pos rfl] at hmm
    have z := sized_slice hsz ht hd Try.underlying37
    have hB : Try.prog.bytesOf 45 = 40 := by kernel_rfl
    have hC : Try.prog.cellsOf 45 = 5 := by kernel_rfl
    have hr : reachBytes = 140737488351232 := rfl
    rw [hB, hr] at z
    simp only [List.length_map, List.length_range] at z
    have hlen : len ≤ 17592186044416 := by omega
    have hex' : ∀ i, ∃ s : Place, i < len → ∀ k, k < 5 → W.cell? ((x.add (i * 5)).add k) = s.cells[k]? := fun i => by
      by_cases hi : i < len
      · obtain ⟨cs', hc1, hc2⟩ := hcell i (by omega)
        obtain ⟨s, rfl⟩ := place_of_trod hc2
        rw [hC] at hc1
        exact ⟨s, fun _ => (World.cells?_some hc1).2.2⟩
      · exact ⟨default, fun h => absurd h hi⟩
    obtain ⟨f, hf'⟩ := Classical.axiomOfChoice hex'
    refine ⟨some x, (List.range len).map f, cap, by simp, fun j hj => ?_, by simp; omega, by simpa using hlen⟩
    simp only [List.length_map, List.length_range] at hj
    have h0 := hf' 0 (by omega) 0 (by omega)
    rw [Nat.zero_mul, show x.add 0 = x from by simp [Addr.add], show x.add 0 = x from by simp [Addr.add]] at h0
    have hp := addr_plain (h0.trans rfl)
    have hc := hf' j hj
    rw [hp] at hc
    refine ⟨x.block, x.off, by rw [← hp], ?_⟩
    have e : ((List.range len).map f)[j]?.getD default = f j := by simp [hj]
    rw [e]
    have g : ∀ k, k < 5 → W.cell? ⟨x.block, x.off + j * 5 + k, none⟩ = (f j).cells[k]? := fun k hk => by
      have := hc k hk
      rw [addr_add, addr_add] at this
      exact this
    exact ⟨g 0 (by omega), g 1 (by omega), g 2 (by omega), g 3 (by omega), g 4 (by omega)⟩

end Go.Proofs.Ytnjifmoclfgegaa
