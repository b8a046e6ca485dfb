/- How an argument that is a slice of sides is read. -/
import Derived.Test.YtffnnfdlelaonaaR
import Derived.Deep.Slices
namespace Go.Proofs.Ytffnnfdlelaonaa
open Go.ChangeShapes Go.WideShapes Go.ChangeAt Go.RowKit
set_option linter.unusedVariables false

theorem addr_plain {w : World} {a : Addr} {v : Value} (h : w.cell? a = some v) : a = ⟨a.block, a.off, none⟩ := by
  obtain ⟨b, o, s⟩ := a
  cases s with
  | none => rfl
  | some s => simp [World.cell?] at h; split at h <;> simp at h
theorem addr_add (b o i : Nat) : (⟨b, o, none⟩ : Addr).add i = ⟨b, o + i, none⟩ := by
  unfold Addr.add
  split
  · rename_i h; subst h; rfl
  · rfl

/-- An argument that is a slice of sides. -/
theorem sides_arg {H : Type} {enc : TypeId × Value → H} {W : World} {base : Nat} {r : Reach} {b0 : Nat} {v : Value} {d : DataW H} {ps : List MemPlace} {ts : List TypeId} {ds : List (DataW H)} {j : Nat}
    (hsz : (DataW.weightsEach Try.prog ts ds).all (· ≤ reachBytes) = true) (ht : ts[j]? = some 25) (hd : ds[j]? = some d)
    (hv : Value.okWide Try.prog W r b0 25 v) (h : DataW.Trod enc Try.prog W base (fun _ => true) true 25 v d ps) :
    ∃ A xs c, v = .slice A xs.length c ∧ Sides W A xs ∧ xs.length ≤ c ∧ (A = none → c = 0) ∧ xs.length ≤ 17592186044416 ∧ ∀ x ∈ xs, x.wf := by
  obtain ⟨a, len, cap, rfl⟩ := okWide_slice Try.underlying25 hv
  obtain ⟨fuel, hf⟩ := h
  rcases Go.Deep.open_slice Try.underlying25 hf with ⟨hcs, _⟩ | ⟨x, l, c, m, n, D, Pl, hcs, _, hl, hm, hmm, hx, hcell⟩
  · simp [Value.cells] at hcs
    obtain ⟨rfl, rfl, rfl⟩ := hcs
    exact ⟨none, [], 0, rfl, fun j hj => absurd hj (Nat.not_lt_zero j), Nat.le_refl _, fun _ => rfl, Nat.zero_le _, fun x hx => by simp at hx⟩
  · simp [Value.cells] at hcs
    obtain ⟨rfl, rfl, rfl⟩ := hcs
    obtain ⟨hx, _⟩ := Prod.mk.inj hx
    subst hx
    rw [if_pos rfl] at hmm
    have z := sized_slice hsz ht hd Try.underlying25
    have hB : Try.prog.bytesOf 30 = 48 := by kernel_rfl
    have hC : Try.prog.cellsOf 30 = 6 := by kernel_rfl
    have hr : reachBytes = 140737488351232 := rfl
    rw [hB, hr] at z
    simp only [List.length_map, List.length_range] at z
    have hlen : len ≤ 17592186044416 := by omega
    have hex : ∀ i, i < len → ∃ s : Side, s.wf ∧ ∀ k, k < 6 → W.cell? ((x.add (i * 6)).add k) = s.cells[k]? := fun i hi => by
      obtain ⟨cs', hc1, hc2⟩ := hcell i (by omega)
      obtain ⟨s, rfl, hw⟩ := side_of_trod hc2
      rw [hC] at hc1
      exact ⟨s, hw, (World.cells?_some hc1).2.2⟩
    have hex' : ∀ i, ∃ s : Side, i < len → s.wf ∧ ∀ k, k < 6 → W.cell? ((x.add (i * 6)).add k) = s.cells[k]? := fun i => by
      by_cases hi : i < len
      · obtain ⟨s, h1, h2⟩ := hex i hi; exact ⟨s, fun _ => ⟨h1, h2⟩⟩
      · exact ⟨default, fun h => absurd h hi⟩
    obtain ⟨f, hf'⟩ := Classical.axiomOfChoice hex'
    refine ⟨some x, (List.range len).map f, cap, by simp, fun j hj => ?_, by simp; omega, fun h => by simp at h, by simpa using hlen, fun y hy => ?_⟩
    · simp only [List.length_map, List.length_range] at hj
      have h0 := (hf' 0 (by omega)).2 0 (by omega)
      rw [Nat.zero_mul, show x.add 0 = x from by simp [Addr.add], show x.add 0 = x from by simp [Addr.add]] at h0
      have hp := addr_plain (h0.trans rfl)
      obtain ⟨hw, hc⟩ := hf' j hj
      rw [hp] at hc
      refine ⟨x.block, x.off, by rw [← hp], ?_⟩
      have e : ((List.range len).map f)[j]?.getD default = f j := by simp [hj]
      rw [e]
      have g : ∀ k, k < 6 → W.cell? ⟨x.block, x.off + j * 6 + k, none⟩ = (f j).cells[k]? := fun k hk => by
        have := hc k hk
        rw [addr_add, addr_add] at this
        exact this
      exact ⟨g 0 (by omega), g 1 (by omega), g 2 (by omega), g 3 (by omega), g 4 (by omega), g 5 (by omega)⟩
    · obtain ⟨i, hi, rfl⟩ := List.mem_map.1 hy
      exact (hf' i (List.mem_range.1 hi)).1

end Go.Proofs.Ytffnnfdlelaonaa
