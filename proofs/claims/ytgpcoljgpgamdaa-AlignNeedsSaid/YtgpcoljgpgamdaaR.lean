/- How arguments that are slices of whole numbers and of cells are read. -/
import Derived.Test.YtgpcoljgpgamdaaRows
import Derived.Test.YtgpcoljgpgamdaaA
import Derived.Test.YtgpcoljgpgamdaaF
import Derived.Deep.Slices
import Derived.WalkKit
import Derived.ProofKit
import Derived.OpenShut
import Derived.ShutString
import Derived.ChangeOld
import Derived.Below
import Derived.SizedLaws
import Derived.ChangeSlices
import Derived.Deep.Strs
namespace Go.Proofs.Ytgpcoljgpgamdaa
open Go.ChangeShapes Go.WideShapes Go.ChangeAt Go.RowKit
set_option linter.unusedVariables false

theorem addr_plain {w : World} {a : Addr} {v : Value} (h : w.cell? a = some v) : a = ⟨a.block, a.off, none⟩ := by
  obtain ⟨b, o, s⟩ := a
  cases s with
  | none => rfl
  | some s => simp [World.cell?] at h; split at h <;> simp at h
theorem addr_add (b o i : Nat) : (⟨b, o, none⟩ : Addr).add i = ⟨b, o + i, none⟩ := by
  unfold Addr.add
  split
  · rename_i h; subst h; rfl
  · rfl

/-- An argument that is a slice of whole numbers. -/
theorem ints_arg {H : Type} {enc : TypeId × Value → H} {P : Program} {W : World} {base : Nat} {r : Reach} {b0 : Nat} {t e : TypeId} {v : Value} {d : DataW H} {ps : List MemPlace} {ts : List TypeId} {ds : List (DataW H)} {j : Nat}
    (hsz : (DataW.weightsEach P ts ds).all (· ≤ reachBytes) = true) (ht : ts[j]? = some t) (hd : ds[j]? = some d) (hu : P.underlying t = some (.slice e)) (he : P.underlying e = some (.int .i64)) (hc : P.cellsOf e = 1) (hB : P.bytesOf e = 8)
    (hv : Value.okWide P W r b0 t v) (h : DataW.Trod enc P W base (fun _ => true) true t v d ps) :
    ∃ A xs c, v = .slice A xs.length c ∧ Ints W A xs ∧ xs.length ≤ c ∧ xs.length ≤ 17592186044416 ∧ ∀ x ∈ xs, (Lit.int .i64 x).wf = true := by
  obtain ⟨a, len, cap, rfl⟩ := okWide_slice hu hv
  obtain ⟨fuel, hf⟩ := h
  rcases open_ints hu he hc hf with ⟨hcs, _⟩ | ⟨x, l, c, zs, hcs, _, hl, hm, hz, hx, hcell, hwz⟩
  · simp [Value.cells] at hcs
    obtain ⟨rfl, rfl, rfl⟩ := hcs
    exact ⟨none, [], 0, rfl, fun j hj => absurd hj (Nat.not_lt_zero j), Nat.le_refl _, Nat.zero_le _, fun x hx => by simp at hx⟩
  · simp [Value.cells] at hcs
    obtain ⟨rfl, rfl, rfl⟩ := hcs
    obtain ⟨hx, _⟩ := Prod.mk.inj hx
    subst hx
    have z := sized_slice hsz ht hd hu
    rw [hB] at z
    rw [if_pos rfl] at hz
    have h1 : (lits (H := H) .i64 (zs.take len)).length + (lits (H := H) .i64 (zs.drop len)).length = zs.length := by
      simp [lits]
      omega
    rw [h1] at z
    have hr : reachBytes = 140737488351232 := rfl
    have hlen : (zs.take len).length = len := by simp; omega
    refine ⟨some x, zs.take len, cap, by rw [hlen], fun j hj => ?_, by omega, by omega, fun y hy => hwz y (List.mem_of_mem_take hy)⟩
    rw [hlen] at hj
    have h0 := hcell 0 (by omega)
    rw [show x.add 0 = x from by simp [Addr.add]] at h0
    have hp := addr_plain h0
    refine ⟨x.block, x.off, by rw [← hp], ?_⟩
    have := hcell j (by omega)
    rw [hp, addr_add] at this
    rw [this]
    simp only [List.getElem?_take, if_pos hj, List.getD_eq_getElem?_getD]

theorem five_of_trod {H : Type} {enc : TypeId × Value → H} {W : World} {base : Nat} {spare : Nat → Bool} {held : Bool} {n : Nat} {cs : List Value} {x : DataW H × List MemPlace} (hl0 : cs.length = 5) (h : DataW.trod enc Try.prog W base spare held n 37 cs = some x) :
    ∃ k0 k1 k2 k3 k4 : Int, cs = [.int .i64 k0, .int .i64 k1, .int .i64 k2, .int .i64 k3, .int .i64 k4] := by
  obtain ⟨xs, m, _, _, _, hlen, hf⟩ := DataW.trod_struct Try.underlying37 h
  have hc3 : Try.prog.cellsOf 3 = 1 := by kernel_rfl
  obtain ⟨c0, c1, c2, c3, c4, rfl⟩ : ∃ c0 c1 c2 c3 c4, cs = [c0, c1, c2, c3, c4] := by
    match cs, hl0 with
    | [c0, c1, c2, c3, c4], _ => exact ⟨c0, c1, c2, c3, c4, rfl⟩
  have g : ∀ (i : Nat) (f : Field) (y : Value), (#[{ name := "Node", type := 3, offset := 0, embedded := false, tag := "", pkgPath := "", byteOffset := 0 }, { name := "Row", type := 3, offset := 1, embedded := false, tag := "", pkgPath := "", byteOffset := 8 }, { name := "Col", type := 3, offset := 2, embedded := false, tag := "", pkgPath := "", byteOffset := 16 }, { name := "Rows", type := 3, offset := 3, embedded := false, tag := "", pkgPath := "", byteOffset := 24 }, { name := "Cols", type := 3, offset := 4, embedded := false, tag := "", pkgPath := "", byteOffset := 32 }] : Array Field)[i]? = some f → i < 5 → f.type = 3 → ([c0, c1, c2, c3, c4].drop f.offset).take 1 = [y] → ∃ k, y = .int .i64 k := fun i f y hfi hi ht hd => by
    have := hf i f hfi
    rw [ht, hc3, hd] at this
    have hx : i < xs.length := by rw [hlen]; exact hi
    rw [List.getElem?_eq_getElem hx] at this
    obtain ⟨k, e, _⟩ := DataW.trod_int Try.underlying3 this
    exact ⟨k, (List.cons.inj e).1⟩
  obtain ⟨k0, rfl⟩ := g 0 _ c0 rfl (by omega) rfl rfl
  obtain ⟨k1, rfl⟩ := g 1 _ c1 rfl (by omega) rfl rfl
  obtain ⟨k2, rfl⟩ := g 2 _ c2 rfl (by omega) rfl rfl
  obtain ⟨k3, rfl⟩ := g 3 _ c3 rfl (by omega) rfl rfl
  obtain ⟨k4, rfl⟩ := g 4 _ c4 rfl (by omega) rfl rfl
  exact ⟨k0, k1, k2, k3, k4, rfl⟩
theorem box_of_trod {H : Type} {enc : TypeId × Value → H} {W : World} {base : Nat} {spare : Nat → Bool} {held : Bool} {n : Nat} {cs : List Value} {x : DataW H × List MemPlace} (hl0 : cs.length = 5) (h : DataW.trod enc Try.prog W base spare held n 39 cs = some x) :
    ∃ (k0 k1 k2 k3 : Int) (b : Bool), cs = [.int .i64 k0, .int .i64 k1, .int .i64 k2, .int .i64 k3, .bool b] := by
  obtain ⟨xs, m, _, _, _, hlen, hf⟩ := DataW.trod_struct Try.underlying39 h
  have hc2 : Try.prog.cellsOf 2 = 1 := by kernel_rfl
  have hc4 : Try.prog.cellsOf 4 = 1 := by kernel_rfl
  obtain ⟨c0, c1, c2, c3, c4, rfl⟩ : ∃ c0 c1 c2 c3 c4, cs = [c0, c1, c2, c3, c4] := by
    match cs, hl0 with
    | [c0, c1, c2, c3, c4], _ => exact ⟨c0, c1, c2, c3, c4, rfl⟩
  have g : ∀ (i : Nat) (f : Field) (y : Value), (#[{ name := "Min", type := 2, offset := 0, embedded := false, tag := "", pkgPath := "", byteOffset := 0 }, { name := "Max", type := 2, offset := 1, embedded := false, tag := "", pkgPath := "", byteOffset := 8 }, { name := "High", type := 2, offset := 2, embedded := false, tag := "", pkgPath := "", byteOffset := 16 }, { name := "Base", type := 2, offset := 3, embedded := false, tag := "", pkgPath := "", byteOffset := 24 }, { name := "HasBase", type := 4, offset := 4, embedded := false, tag := "", pkgPath := "", byteOffset := 32 }] : Array Field)[i]? = some f → i < 5 → f.type = 2 → ([c0, c1, c2, c3, c4].drop f.offset).take 1 = [y] → ∃ k, y = .int .i64 k := fun i f y hfi hi ht hd => by
    have := hf i f hfi
    rw [ht, hc2, hd] at this
    have hx : i < xs.length := by rw [hlen]; exact hi
    rw [List.getElem?_eq_getElem hx] at this
    obtain ⟨k, e, _⟩ := DataW.trod_int Try.underlying2 this
    exact ⟨k, (List.cons.inj e).1⟩
  have g4 : ∀ (i : Nat) (f : Field) (y : Value), (#[{ name := "Min", type := 2, offset := 0, embedded := false, tag := "", pkgPath := "", byteOffset := 0 }, { name := "Max", type := 2, offset := 1, embedded := false, tag := "", pkgPath := "", byteOffset := 8 }, { name := "High", type := 2, offset := 2, embedded := false, tag := "", pkgPath := "", byteOffset := 16 }, { name := "Base", type := 2, offset := 3, embedded := false, tag := "", pkgPath := "", byteOffset := 24 }, { name := "HasBase", type := 4, offset := 4, embedded := false, tag := "", pkgPath := "", byteOffset := 32 }] : Array Field)[i]? = some f → i < 5 → f.type = 4 → ([c0, c1, c2, c3, c4].drop f.offset).take 1 = [y] → ∃ b, y = .bool b := fun i f y hfi hi ht hd => by
    have := hf i f hfi
    rw [ht, hc4, hd] at this
    have hx : i < xs.length := by rw [hlen]; exact hi
    rw [List.getElem?_eq_getElem hx] at this
    obtain ⟨k, e, _⟩ := DataW.trod_bool Try.underlying4 this
    exact ⟨k, (List.cons.inj e).1⟩
  obtain ⟨k0, rfl⟩ := g 0 _ c0 rfl (by omega) rfl rfl
  obtain ⟨k1, rfl⟩ := g 1 _ c1 rfl (by omega) rfl rfl
  obtain ⟨k2, rfl⟩ := g 2 _ c2 rfl (by omega) rfl rfl
  obtain ⟨k3, rfl⟩ := g 3 _ c3 rfl (by omega) rfl rfl
  obtain ⟨b, rfl⟩ := g4 4 _ c4 rfl (by omega) rfl rfl
  exact ⟨k0, k1, k2, k3, b, rfl⟩
theorem cell_of_trod {H : Type} {enc : TypeId × Value → H} {W : World} {base : Nat} {spare : Nat → Bool} {held : Bool} {n : Nat} {cs : List Value} {x : DataW H × List MemPlace} (h : DataW.trod enc Try.prog W base spare held n 41 cs = some x) :
    ∃ p : Cell, cs = p.cells := by
  obtain ⟨y0, y1, y2, m, _, hl, h0, h1, h2⟩ := Go.Deep.trod_struct3 Try.underlying41 h
  have hc41 : Try.prog.cellsOf 41 = 11 := by kernel_rfl
  have hc37 : Try.prog.cellsOf 37 = 5 := by kernel_rfl
  have hc39 : Try.prog.cellsOf 39 = 5 := by kernel_rfl
  have hc3 : Try.prog.cellsOf 3 = 1 := by kernel_rfl
  rw [hc41] at hl
  rw [hc37] at h0
  rw [hc39] at h1
  rw [hc3] at h2
  obtain ⟨c0, c1, c2, c3, c4, c5, c6, c7, c8, c9, c10, rfl⟩ : ∃ c0 c1 c2 c3 c4 c5 c6 c7 c8 c9 c10, cs = [c0, c1, c2, c3, c4, c5, c6, c7, c8, c9, c10] := by
    match cs, hl with
    | [c0, c1, c2, c3, c4, c5, c6, c7, c8, c9, c10], _ => exact ⟨c0, c1, c2, c3, c4, c5, c6, c7, c8, c9, c10, rfl⟩
  simp only [List.drop_zero, List.drop_succ_cons, List.take_succ_cons, List.take_zero] at h0 h1 h2
  obtain ⟨k0, k1, k2, k3, k4, e0⟩ := five_of_trod rfl h0
  obtain ⟨b0, b1, b2, b3, b4, e1⟩ := box_of_trod rfl h1
  obtain ⟨a, e2, _⟩ := DataW.trod_int Try.underlying3 h2
  simp only [List.cons.injEq, and_true] at e0 e1 e2
  obtain ⟨rfl, rfl, rfl, rfl, rfl⟩ := e0
  obtain ⟨rfl, rfl, rfl, rfl, rfl⟩ := e1
  obtain rfl := e2
  exact ⟨⟨k0, k1, k2, k3, k4, b0, b1, b2, b3, b4, a⟩, rfl⟩

/-- An argument that is a slice of cells. -/
theorem cells_arg {H : Type} {enc : TypeId × Value → H} {W : World} {base : Nat} {r : Reach} {b0 : Nat} {v : Value} {d : DataW H} {ps : List MemPlace} {ts : List TypeId} {ds : List (DataW H)} {j : Nat}
    (hsz : (DataW.weightsEach Try.prog ts ds).all (· ≤ reachBytes) = true) (ht : ts[j]? = some 22) (hd : ds[j]? = some d)
    (hv : Value.okWide Try.prog W r b0 22 v) (h : DataW.Trod enc Try.prog W base (fun _ => true) true 22 v d ps) :
    ∃ A xs c, v = .slice A xs.length c ∧ Cells W A xs ∧ xs.length ≤ c ∧ xs.length ≤ 17592186044416 := by
  obtain ⟨a, len, cap, rfl⟩ := okWide_slice Try.underlying22 hv
  obtain ⟨fuel, hf⟩ := h
  rcases Go.Deep.open_slice Try.underlying22 hf with ⟨hcs, _⟩ | ⟨x, l, c, m, n, D, Pl, hcs, _, hl, hm, hmm, hx, hcell⟩
  · simp [Value.cells] at hcs
    obtain ⟨rfl, rfl, rfl⟩ := hcs
    exact ⟨none, [], 0, rfl, fun j hj => absurd hj (Nat.not_lt_zero j), Nat.le_refl _, Nat.zero_le _⟩
  · simp [Value.cells] at hcs
    obtain ⟨rfl, rfl, rfl⟩ := hcs
    obtain ⟨hx, _⟩ := Prod.mk.inj hx
    subst hx
    rw [if_pos rfl] at hmm
    have z := sized_slice hsz ht hd Try.underlying22
    have hB : Try.prog.bytesOf 41 = 88 := by kernel_rfl
    have hC : Try.prog.cellsOf 41 = 11 := by kernel_rfl
    have hr : reachBytes = 140737488351232 := rfl
    rw [hB, hr] at z
    simp only [List.length_map, List.length_range] at z
    have hlen : len ≤ 17592186044416 := by omega
    have hex' : ∀ i, ∃ s : Cell, i < len → ∀ k, k < 11 → W.cell? ((x.add (i * 11)).add k) = s.cells[k]? := fun i => by
      by_cases hi : i < len
      · obtain ⟨cs', hc1, hc2⟩ := hcell i (by omega)
        obtain ⟨s, rfl⟩ := cell_of_trod hc2
        rw [hC] at hc1
        exact ⟨s, fun _ => (World.cells?_some hc1).2.2⟩
      · exact ⟨default, fun h => absurd h hi⟩
    obtain ⟨f, hf'⟩ := Classical.axiomOfChoice hex'
    refine ⟨some x, (List.range len).map f, cap, by simp, fun j hj => ?_, by simp; omega, by simpa using hlen⟩
    simp only [List.length_map, List.length_range] at hj
    have h0 := hf' 0 (by omega) 0 (by omega)
    rw [Nat.zero_mul, show x.add 0 = x from by simp [Addr.add], show x.add 0 = x from by simp [Addr.add]] at h0
    have hp := addr_plain (h0.trans rfl)
    have hc := hf' j hj
    rw [hp] at hc
    refine ⟨x.block, x.off, by rw [← hp], ?_⟩
    have e : ((List.range len).map f)[j]?.getD default = f j := by simp [hj]
    rw [e]
    have g : ∀ k, k < 11 → W.cell? ⟨x.block, x.off + j * 11 + k, none⟩ = (f j).cells[k]? := fun k hk => by
      have := hc k hk
      rw [addr_add, addr_add] at this
      exact this
    exact ⟨g 0 (by omega), g 1 (by omega), g 2 (by omega), g 3 (by omega), g 4 (by omega), g 5 (by omega), g 6 (by omega), g 7 (by omega), g 8 (by omega), g 9 (by omega), g 10 (by omega)⟩

end Go.Proofs.Ytgpcoljgpgamdaa
