/- How arguments are read: rectangles, slices of rectangles, of whole numbers, four whole numbers. -/
import Derived.Test.YtnlojbkjhlhogaaRows
import Derived.Test.YtnlojbkjhlhogaaA
import Derived.WalkKit
import Derived.ProofKit
import Derived.OpenShut
import Derived.ShutString
import Derived.ChangeOld
import Derived.Below
import Derived.SizedLaws
import Derived.ChangeSlices
import Derived.Lib.SmallJoins
import Derived.Deep.Slices
namespace Go.Proofs.Ytnlojbkjhlhogaa
open Go.ChangeShapes Go.WideShapes Go.ChangeAt Go.RowKit
set_option linter.unusedVariables false

theorem addr_plain {w : World} {a : Addr} {v : Value} (h : w.cell? a = some v) : a = ⟨a.block, a.off, none⟩ := by
  obtain ⟨b, o, s⟩ := a
  cases s with
  | none => rfl
  | some s => simp [World.cell?] at h; split at h <;> simp at h
theorem addr_add (b o i : Nat) : (⟨b, o, none⟩ : Addr).add i = ⟨b, o + i, none⟩ := by
  unfold Addr.add
  split
  · rename_i h; subst h; rfl
  · rfl

/-- An argument that is a slice of whole numbers. -/
theorem ints_arg {H : Type} {enc : TypeId × Value → H} {P : Program} {W : World} {base : Nat} {r : Reach} {b0 : Nat} {t e : TypeId} {v : Value} {d : DataW H} {ps : List MemPlace} {ts : List TypeId} {ds : List (DataW H)} {j : Nat}
    (hsz : (DataW.weightsEach P ts ds).all (· ≤ reachBytes) = true) (ht : ts[j]? = some t) (hd : ds[j]? = some d) (hu : P.underlying t = some (.slice e)) (he : P.underlying e = some (.int .i64)) (hc : P.cellsOf e = 1) (hB : P.bytesOf e = 8)
    (hv : Value.okWide P W r b0 t v) (h : DataW.Trod enc P W base (fun _ => true) true t v d ps) :
    ∃ A xs c, v = .slice A xs.length c ∧ Ints W A xs ∧ xs.length ≤ c ∧ xs.length ≤ 17592186044416 ∧ ∀ x ∈ xs, (Lit.int .i64 x).wf = true := by
  obtain ⟨a, len, cap, rfl⟩ := okWide_slice hu hv
  obtain ⟨fuel, hf⟩ := h
  rcases open_ints hu he hc hf with ⟨hcs, _⟩ | ⟨x, l, c, zs, hcs, _, hl, hm, hz, hx, hcell, hwz⟩
  · simp [Value.cells] at hcs
    obtain ⟨rfl, rfl, rfl⟩ := hcs
    exact ⟨none, [], 0, rfl, fun j hj => absurd hj (Nat.not_lt_zero j), Nat.le_refl _, Nat.zero_le _, fun x hx => by simp at hx⟩
  · simp [Value.cells] at hcs
    obtain ⟨rfl, rfl, rfl⟩ := hcs
    obtain ⟨hx, _⟩ := Prod.mk.inj hx
    subst hx
    have z := sized_slice hsz ht hd hu
    rw [hB] at z
    rw [if_pos rfl] at hz
    have h1 : (lits (H := H) .i64 (zs.take len)).length + (lits (H := H) .i64 (zs.drop len)).length = zs.length := by
      simp [lits]
      omega
    rw [h1] at z
    have hr : reachBytes = 140737488351232 := rfl
    have hlen : (zs.take len).length = len := by simp; omega
    refine ⟨some x, zs.take len, cap, by rw [hlen], fun j hj => ?_, by omega, by omega, fun y hy => hwz y (List.mem_of_mem_take hy)⟩
    rw [hlen] at hj
    have h0 := hcell 0 (by omega)
    rw [show x.add 0 = x from by simp [Addr.add]] at h0
    have hp := addr_plain h0
    refine ⟨x.block, x.off, by rw [← hp], ?_⟩
    have := hcell j (by omega)
    rw [hp, addr_add] at this
    rw [this]
    simp only [List.getElem?_take, if_pos hj, List.getD_eq_getElem?_getD]


theorem rect_of_trod {H : Type} {enc : TypeId × Value → H} {W : World} {base : Nat} {spare : Nat → Bool} {held : Bool} {n : Nat} {cs : List Value} {x : DataW H × List MemPlace} (h : DataW.trod enc Try.prog W base spare held n 23 cs = some x) :
    ∃ s : Rect, cs = s.cells := by
  obtain ⟨y0, y1, y2, y3, m, _, hl, h0, h1, h2, h3⟩ := Go.Joins.trod_struct4 Try.underlying23 h
  have hc23 : Try.prog.cellsOf 23 = 4 := by kernel_rfl
  have hc2 : Try.prog.cellsOf 2 = 1 := by kernel_rfl
  rw [hc23] at hl
  rw [hc2] at h0 h1 h2 h3
  obtain ⟨c0, c1, c2, c3, rfl⟩ : ∃ c0 c1 c2 c3, cs = [c0, c1, c2, c3] := by
    match cs, hl with
    | [c0, c1, c2, c3], _ => exact ⟨c0, c1, c2, c3, rfl⟩
  simp only [List.drop_zero, List.drop_succ_cons, List.take_succ_cons, List.take_zero] at h0 h1 h2 h3
  obtain ⟨n0, e0, _, w0⟩ := DataW.trod_int Try.underlying2 h0
  obtain ⟨n1, e1, _, w1⟩ := DataW.trod_int Try.underlying2 h1
  obtain ⟨n2, e2, _, w2⟩ := DataW.trod_int Try.underlying2 h2
  obtain ⟨n3, e3, _, w3⟩ := DataW.trod_int Try.underlying2 h3
  obtain rfl := (List.cons.inj e0).1
  obtain rfl := (List.cons.inj e1).1
  obtain rfl := (List.cons.inj e2).1
  obtain rfl := (List.cons.inj e3).1
  exact ⟨⟨n0, n1, n2, n3⟩, rfl⟩
/-- An argument that is a rectangle. -/
theorem rect_arg {H : Type} {enc : TypeId × Value → H} {W : World} {base : Nat} {r : Reach} {b0 : Nat} {v : Value} {d : DataW H} {ps : List MemPlace}
    (hv : Value.okWide Try.prog W r b0 23 v) (h : DataW.Trod enc Try.prog W base (fun _ => true) true 23 v d ps) : ∃ s : Rect, v = .agg s.arr := by
  obtain ⟨cs, rfl, hsz⟩ := okWide_struct Try.underlying23 hv
  obtain ⟨fuel, hf⟩ := h
  obtain ⟨s, hs⟩ := rect_of_trod hf
  simp only [Value.cells] at hs
  refine ⟨s, ?_⟩
  rw [← Array.toArray_toList (xs := cs), hs]
  rfl
/-- An argument that is a slice of rectangles. -/
theorem rects_arg {H : Type} {enc : TypeId × Value → H} {W : World} {base : Nat} {r : Reach} {b0 : Nat} {v : Value} {d : DataW H} {ps : List MemPlace} {ts : List TypeId} {ds : List (DataW H)} {j : Nat}
    (hsz : (DataW.weightsEach Try.prog ts ds).all (· ≤ reachBytes) = true) (ht : ts[j]? = some 30) (hd : ds[j]? = some d)
    (hv : Value.okWide Try.prog W r b0 30 v) (h : DataW.Trod enc Try.prog W base (fun _ => true) true 30 v d ps) :
    ∃ A xs c, v = .slice A xs.length c ∧ Rects W A xs ∧ xs.length ≤ c ∧ xs.length ≤ 17592186044416 := by
  obtain ⟨a, len, cap, rfl⟩ := okWide_slice Try.underlying30 hv
  obtain ⟨fuel, hf⟩ := h
  rcases Go.Deep.open_slice Try.underlying30 hf with ⟨hcs, _⟩ | ⟨x, l, c, m, n, D, Pl, hcs, _, hl, hm, hmm, hx, hcell⟩
  · simp [Value.cells] at hcs
    obtain ⟨rfl, rfl, rfl⟩ := hcs
    exact ⟨none, [], 0, rfl, fun j hj => absurd hj (Nat.not_lt_zero j), Nat.le_refl _, Nat.zero_le _⟩
  · simp [Value.cells] at hcs
    obtain ⟨rfl, rfl, rfl⟩ := hcs
    obtain ⟨hx, _⟩ := Prod.mk.inj hx
    subst hx
    rw [if_pos rfl] at hmm
    have z := sized_slice hsz ht hd Try.underlying30
    have hB : Try.prog.bytesOf 23 = 32 := by kernel_rfl
    have hC : Try.prog.cellsOf 23 = 4 := by kernel_rfl
    have hr : reachBytes = 140737488351232 := rfl
    rw [hB, hr] at z
    simp only [List.length_map, List.length_range] at z
    have hlen : len ≤ 17592186044416 := by omega
    have hex' : ∀ i, ∃ s : Rect, i < len → ∀ k, k < 4 → W.cell? ((x.add (i * 4)).add k) = s.cells[k]? := fun i => by
      by_cases hi : i < len
      · obtain ⟨cs', hc1, hc2⟩ := hcell i (by omega)
        obtain ⟨s, rfl⟩ := rect_of_trod hc2
        rw [hC] at hc1
        exact ⟨s, fun _ => (World.cells?_some hc1).2.2⟩
      · exact ⟨default, fun h => absurd h hi⟩
    obtain ⟨f, hf'⟩ := Classical.axiomOfChoice hex'
    refine ⟨some x, (List.range len).map f, cap, by simp, fun j hj => ?_, by simp; omega, by simpa using hlen⟩
    simp only [List.length_map, List.length_range] at hj
    have h0 := hf' 0 (by omega) 0 (by omega)
    rw [Nat.zero_mul, show x.add 0 = x from by simp [Addr.add], show x.add 0 = x from by simp [Addr.add]] at h0
    have hp := addr_plain (h0.trans rfl)
    have hc := hf' j hj
    rw [hp] at hc
    refine ⟨x.block, x.off, by rw [← hp], ?_⟩
    have e : ((List.range len).map f)[j]?.getD default = f j := by simp [hj]
    rw [e]
    have g : ∀ k, k < 4 → W.cell? ⟨x.block, x.off + j * 4 + k, none⟩ = (f j).cells[k]? := fun k hk => by
      have := hc k hk
      rw [addr_add, addr_add] at this
      exact this
    exact ⟨g 0 (by omega), g 1 (by omega), g 2 (by omega), g 3 (by omega)⟩


/-- An argument that is four whole numbers. -/
theorem quad_arg {H : Type} {enc : TypeId × Value → H} {W : World} {base : Nat} {r : Reach} {b0 : Nat} {v : Value} {d : DataW H} {ps : List MemPlace}
    (hv : Value.okWide Try.prog W r b0 42 v) (h : DataW.Trod enc Try.prog W base (fun _ => true) true 42 v d ps) : ∃ g0 g1 g2 g3 : Int, v = .agg #[.int .i64 g0, .int .i64 g1, .int .i64 g2, .int .i64 g3] := by
  have hC : Try.prog.cellsOf 42 = 4 := by kernel_rfl
  have hc2 : Try.prog.cellsOf 2 = 1 := by kernel_rfl
  have hs : ∃ cs, v = .agg cs ∧ cs.size = Try.prog.cellsOf 42 := by
    cases v <;> simp_all [Value.okWide, Try.underlying42]
  obtain ⟨cs, rfl, hsz⟩ := hs
  obtain ⟨fuel, hf⟩ := h
  obtain ⟨xs, m, _, _, hl, hlen, hg⟩ := DataW.trod_array Try.underlying42 hf
  simp only [Value.cells] at hl hg
  obtain ⟨l⟩ := cs
  rw [hC] at hl
  obtain ⟨c0, c1, c2, c3, rfl⟩ : ∃ c0 c1 c2 c3, l = [c0, c1, c2, c3] := by
    match l, hl with
    | [c0, c1, c2, c3], _ => exact ⟨c0, c1, c2, c3, rfl⟩
  have h0 := hg 0 (by omega)
  have h1 := hg 1 (by omega)
  have h2 := hg 2 (by omega)
  have h3 := hg 3 (by omega)
  rw [hc2, List.getElem?_eq_getElem (by omega)] at h0 h1 h2 h3
  simp only [List.drop_zero, Nat.zero_mul, Nat.one_mul, Nat.reduceMul, List.drop_succ_cons, List.take_succ_cons, List.take_zero] at h0 h1 h2 h3
  obtain ⟨g0, e0, _⟩ := DataW.trod_int Try.underlying2 h0
  obtain ⟨g1, e1, _⟩ := DataW.trod_int Try.underlying2 h1
  obtain ⟨g2, e2, _⟩ := DataW.trod_int Try.underlying2 h2
  obtain ⟨g3, e3, _⟩ := DataW.trod_int Try.underlying2 h3
  exact ⟨g0, g1, g2, g3, by rw [(List.cons.inj e0).1, (List.cons.inj e1).1, (List.cons.inj e2).1, (List.cons.inj e3).1]⟩

end Go.Proofs.Ytnlojbkjhlhogaa
