/- How arguments are read: four lines, a framing, edges. -/
import Derived.Test.YtmlcjiabnmdfeaaRows
import Derived.Test.YtmlcjiabnmdfeaaR
import Derived.Deep.Slices
import Derived.WalkKit
import Derived.ProofKit
import Derived.OpenShut
import Derived.ShutString
import Derived.ChangeOld
import Derived.Below
import Derived.SizedLaws
import Derived.ChangeSlices
import Derived.Deep.Strs
namespace Go.Proofs.Ytmlcjiabnmdfeaa
open Go.ChangeShapes Go.WideShapes Go.ChangeAt Go.RowKit
set_option linter.unusedVariables false
set_option maxRecDepth 100000

theorem addr_plain {w : World} {a : Addr} {v : Value} (h : w.cell? a = some v) : a = ⟨a.block, a.off, none⟩ := by
  obtain ⟨b, o, s⟩ := a
  cases s with
  | none => rfl
  | some s => simp [World.cell?] at h; split at h <;> simp at h
theorem addr_add (b o i : Nat) : (⟨b, o, none⟩ : Addr).add i = ⟨b, o + i, none⟩ := by
  unfold Addr.add
  split
  · rename_i h; subst h; rfl
  · rfl
section
variable {H : Type} {enc : TypeId × Value → H} {W : World} {base : Nat} {spare : Nat → Bool} {held : Bool} {n : Nat} {cs : List Value} {x : DataW H × List MemPlace}
theorem line_of_trod (h : DataW.trod enc Try.prog W base spare held n 27 cs = some x) : ∃ l : Line, cs = l.cells ∧ l.wf ∧ l.width ≤ 9223372036854775807 := by
  obtain ⟨y0, y1, y2, m, _, hl, h0, h1, h2⟩ := Go.Deep.trod_struct3 Try.underlying27 h
  have hc27 : Try.prog.cellsOf 27 = 3 := by kernel_rfl
  have hc3 : Try.prog.cellsOf 3 = 1 := by kernel_rfl
  have hc2 : Try.prog.cellsOf 2 = 1 := by kernel_rfl
  have hc25 : Try.prog.cellsOf 25 = 1 := by kernel_rfl
  rw [hc27] at hl
  rw [hc3] at h0
  rw [hc2] at h1
  rw [hc25] at h2
  obtain ⟨c0, c1, c2, rfl⟩ : ∃ c0 c1 c2, cs = [c0, c1, c2] := by
    match cs, hl with
    | [c0, c1, c2], _ => exact ⟨c0, c1, c2, rfl⟩
  simp only [List.drop_zero, List.drop_succ_cons, List.take_succ_cons, List.take_zero] at h0 h1 h2
  obtain ⟨k0, e0, _, w0⟩ := DataW.trod_int Try.underlying3 h0
  obtain ⟨k1, e1, _, w1⟩ := DataW.trod_int Try.underlying2 h1
  obtain ⟨k2, e2, _, w2⟩ := DataW.trod_int Try.underlying25 h2
  obtain rfl := (List.cons.inj e0).1
  obtain rfl := (List.cons.inj e1).1
  obtain rfl := (List.cons.inj e2).1
  exact ⟨⟨k0, k1, k2⟩, rfl, Go.bounds_u32 w2, (Go.bounds_i64 w1).2⟩
theorem l4_of_trod (h : DataW.trod enc Try.prog W base spare held n 28 cs = some x) : ∃ q : L4, cs = q.cells ∧ q.wf := by
  obtain ⟨xs, m, _, _, hl, hlen, hg⟩ := DataW.trod_array Try.underlying28 h
  have hc28 : Try.prog.cellsOf 28 = 12 := by kernel_rfl
  have hc27 : Try.prog.cellsOf 27 = 3 := by kernel_rfl
  rw [hc28] at hl
  obtain ⟨c0, c1, c2, c3, c4, c5, c6, c7, c8, c9, c10, c11, rfl⟩ : ∃ c0 c1 c2 c3 c4 c5 c6 c7 c8 c9 c10 c11, cs = [c0, c1, c2, c3, c4, c5, c6, c7, c8, c9, c10, c11] := by
    match cs, hl with
    | [c0, c1, c2, c3, c4, c5, c6, c7, c8, c9, c10, c11], _ => exact ⟨c0, c1, c2, c3, c4, c5, c6, c7, c8, c9, c10, c11, rfl⟩
  have h0 := hg 0 (by omega)
  have h1 := hg 1 (by omega)
  have h2 := hg 2 (by omega)
  have h3 := hg 3 (by omega)
  rw [hc27, List.getElem?_eq_getElem (by omega)] at h0 h1 h2 h3
  simp only [List.drop_zero, Nat.zero_mul, Nat.one_mul, Nat.reduceMul, List.drop_succ_cons, List.take_succ_cons, List.take_zero] at h0 h1 h2 h3
  obtain ⟨l0, e0, w0, _⟩ := line_of_trod h0
  obtain ⟨l1, e1, w1, _⟩ := line_of_trod h1
  obtain ⟨l2, e2, w2, _⟩ := line_of_trod h2
  obtain ⟨l3, e3, w3, _⟩ := line_of_trod h3
  simp only [Line.cells, List.cons.injEq, and_true] at e0 e1 e2 e3
  obtain ⟨rfl, rfl, rfl⟩ := e0
  obtain ⟨rfl, rfl, rfl⟩ := e1
  obtain ⟨rfl, rfl, rfl⟩ := e2
  obtain ⟨rfl, rfl, rfl⟩ := e3
  refine ⟨⟨l0.style, l0.width, l0.color, l1.style, l1.width, l1.color, l2.style, l2.width, l2.color, l3.style, l3.width, l3.color⟩, rfl, fun l hl => ?_⟩
  simp only [L4.lines, List.mem_cons, List.not_mem_nil, or_false] at hl
  rcases hl with rfl | rfl | rfl | rfl
  · exact w0
  · exact w1
  · exact w2
  · exact w3
theorem place_of_trod (h : DataW.trod enc Try.prog W base spare held n 43 cs = some x) : ∃ p : Place, cs = p.cells ∧ True := by
  obtain ⟨xs, m, _, _, hl, hlen, hf⟩ := DataW.trod_struct Try.underlying43 h
  have hc43 : Try.prog.cellsOf 43 = 5 := by kernel_rfl
  rw [hc43] at hl
  obtain ⟨c0, c1, c2, c3, c4, rfl⟩ : ∃ c0 c1 c2 c3 c4, cs = [c0, c1, c2, c3, c4] := by
    match cs, hl with
    | [c0, c1, c2, c3, c4], _ => exact ⟨c0, c1, c2, c3, c4, rfl⟩
  have h0 : DataW.trod enc Try.prog W base spare held m 3 (([c0, c1, c2, c3, c4].drop 0).take (Try.prog.cellsOf 3)) = xs[0]? := hf 0 _ rfl
  have h1 : DataW.trod enc Try.prog W base spare held m 3 (([c0, c1, c2, c3, c4].drop 1).take (Try.prog.cellsOf 3)) = xs[1]? := hf 1 _ rfl
  have h2 : DataW.trod enc Try.prog W base spare held m 3 (([c0, c1, c2, c3, c4].drop 2).take (Try.prog.cellsOf 3)) = xs[2]? := hf 2 _ rfl
  have h3 : DataW.trod enc Try.prog W base spare held m 3 (([c0, c1, c2, c3, c4].drop 3).take (Try.prog.cellsOf 3)) = xs[3]? := hf 3 _ rfl
  have h4 : DataW.trod enc Try.prog W base spare held m 3 (([c0, c1, c2, c3, c4].drop 4).take (Try.prog.cellsOf 3)) = xs[4]? := hf 4 _ rfl
  try dsimp only at h0 h1 h2 h3 h4
  have hc3 : Try.prog.cellsOf 3 = 1 := by kernel_rfl
  rw [hc3, List.getElem?_eq_getElem (by rw [hlen]; decide)] at h0
  rw [hc3, List.getElem?_eq_getElem (by rw [hlen]; decide)] at h1
  rw [hc3, List.getElem?_eq_getElem (by rw [hlen]; decide)] at h2
  rw [hc3, List.getElem?_eq_getElem (by rw [hlen]; decide)] at h3
  rw [hc3, List.getElem?_eq_getElem (by rw [hlen]; decide)] at h4
  simp only [List.drop_zero, List.drop_succ_cons, List.take_succ_cons, List.take_zero] at h0 h1 h2 h3 h4
  obtain ⟨k0, e0, _⟩ := DataW.trod_int Try.underlying3 h0
  obtain rfl := (List.cons.inj e0).1
  obtain ⟨k1, e1, _⟩ := DataW.trod_int Try.underlying3 h1
  obtain rfl := (List.cons.inj e1).1
  obtain ⟨k2, e2, _⟩ := DataW.trod_int Try.underlying3 h2
  obtain rfl := (List.cons.inj e2).1
  obtain ⟨k3, e3, _⟩ := DataW.trod_int Try.underlying3 h3
  obtain rfl := (List.cons.inj e3).1
  obtain ⟨k4, e4, _⟩ := DataW.trod_int Try.underlying3 h4
  obtain rfl := (List.cons.inj e4).1
  exact ⟨⟨k0, k1, k2, k3, k4⟩, rfl, trivial⟩
theorem run_of_trod (h : DataW.trod enc Try.prog W base spare held n 84 cs = some x) : ∃ r : Run, cs = r.cells ∧ r.ls.wf := by
  obtain ⟨xs, m, _, _, hl, hlen, hf⟩ := DataW.trod_struct Try.underlying84 h
  have hc84 : Try.prog.cellsOf 84 = 14 := by kernel_rfl
  rw [hc84] at hl
  obtain ⟨c0, c1, c2, c3, c4, c5, c6, c7, c8, c9, c10, c11, c12, c13, rfl⟩ : ∃ c0 c1 c2 c3 c4 c5 c6 c7 c8 c9 c10 c11 c12 c13, cs = [c0, c1, c2, c3, c4, c5, c6, c7, c8, c9, c10, c11, c12, c13] := by
    match cs, hl with
    | [c0, c1, c2, c3, c4, c5, c6, c7, c8, c9, c10, c11, c12, c13], _ => exact ⟨c0, c1, c2, c3, c4, c5, c6, c7, c8, c9, c10, c11, c12, c13, rfl⟩
  have h0 : DataW.trod enc Try.prog W base spare held m 3 (([c0, c1, c2, c3, c4, c5, c6, c7, c8, c9, c10, c11, c12, c13].drop 0).take (Try.prog.cellsOf 3)) = xs[0]? := hf 0 _ rfl
  have h1 : DataW.trod enc Try.prog W base spare held m 3 (([c0, c1, c2, c3, c4, c5, c6, c7, c8, c9, c10, c11, c12, c13].drop 1).take (Try.prog.cellsOf 3)) = xs[1]? := hf 1 _ rfl
  have h2 : DataW.trod enc Try.prog W base spare held m 28 (([c0, c1, c2, c3, c4, c5, c6, c7, c8, c9, c10, c11, c12, c13].drop 2).take (Try.prog.cellsOf 28)) = xs[2]? := hf 2 _ rfl
  try dsimp only at h0 h1 h2
  have hc3 : Try.prog.cellsOf 3 = 1 := by kernel_rfl
  have hc28 : Try.prog.cellsOf 28 = 12 := by kernel_rfl
  rw [hc3, List.getElem?_eq_getElem (by rw [hlen]; decide)] at h0
  rw [hc3, List.getElem?_eq_getElem (by rw [hlen]; decide)] at h1
  rw [hc28, List.getElem?_eq_getElem (by rw [hlen]; decide)] at h2
  simp only [List.drop_zero, List.drop_succ_cons, List.take_succ_cons, List.take_zero] at h0 h1 h2
  obtain ⟨k0, e0, _⟩ := DataW.trod_int Try.underlying3 h0
  obtain rfl := (List.cons.inj e0).1
  obtain ⟨k1, e1, _⟩ := DataW.trod_int Try.underlying3 h1
  obtain rfl := (List.cons.inj e1).1
  obtain ⟨q, e2, w2⟩ := l4_of_trod h2
  simp only [L4.cells, List.cons.injEq, and_true] at e2
  obtain ⟨rfl, rfl, rfl, rfl, rfl, rfl, rfl, rfl, rfl, rfl, rfl, rfl⟩ := e2
  exact ⟨⟨k0, k1, q.a0, q.a1, q.a2, q.b0, q.b1, q.b2, q.c0, q.c1, q.c2, q.d0, q.d1, q.d2⟩, rfl, w2⟩
theorem side_of_trod (h : DataW.trod enc Try.prog W base spare held n 45 cs = some x) : ∃ s : CT.Side, cs = s.cells ∧ s.wf ∧ s.width ≤ 9223372036854775807 := by
  obtain ⟨xs, m, _, _, hl, hlen, hf⟩ := DataW.trod_struct Try.underlying45 h
  have hc45 : Try.prog.cellsOf 45 = 6 := by kernel_rfl
  rw [hc45] at hl
  obtain ⟨c0, c1, c2, c3, c4, c5, rfl⟩ : ∃ c0 c1 c2 c3 c4 c5, cs = [c0, c1, c2, c3, c4, c5] := by
    match cs, hl with
    | [c0, c1, c2, c3, c4, c5], _ => exact ⟨c0, c1, c2, c3, c4, c5, rfl⟩
  have h0 : DataW.trod enc Try.prog W base spare held m 27 (([c0, c1, c2, c3, c4, c5].drop 0).take (Try.prog.cellsOf 27)) = xs[0]? := hf 0 _ rfl
  have h1 : DataW.trod enc Try.prog W base spare held m 3 (([c0, c1, c2, c3, c4, c5].drop 3).take (Try.prog.cellsOf 3)) = xs[1]? := hf 1 _ rfl
  have h2 : DataW.trod enc Try.prog W base spare held m 3 (([c0, c1, c2, c3, c4, c5].drop 4).take (Try.prog.cellsOf 3)) = xs[2]? := hf 2 _ rfl
  have h3 : DataW.trod enc Try.prog W base spare held m 3 (([c0, c1, c2, c3, c4, c5].drop 5).take (Try.prog.cellsOf 3)) = xs[3]? := hf 3 _ rfl
  try dsimp only at h0 h1 h2 h3
  have hc3 : Try.prog.cellsOf 3 = 1 := by kernel_rfl
  have hc27 : Try.prog.cellsOf 27 = 3 := by kernel_rfl
  rw [hc27, List.getElem?_eq_getElem (by rw [hlen]; decide)] at h0
  rw [hc3, List.getElem?_eq_getElem (by rw [hlen]; decide)] at h1
  rw [hc3, List.getElem?_eq_getElem (by rw [hlen]; decide)] at h2
  rw [hc3, List.getElem?_eq_getElem (by rw [hlen]; decide)] at h3
  simp only [List.drop_zero, List.drop_succ_cons, List.take_succ_cons, List.take_zero] at h0 h1 h2 h3
  obtain ⟨l, e0, w0, w0'⟩ := line_of_trod h0
  simp only [Line.cells, List.cons.injEq, and_true] at e0
  obtain ⟨rfl, rfl, rfl⟩ := e0
  obtain ⟨k1, e1, _⟩ := DataW.trod_int Try.underlying3 h1
  obtain rfl := (List.cons.inj e1).1
  obtain ⟨k2, e2, _⟩ := DataW.trod_int Try.underlying3 h2
  obtain rfl := (List.cons.inj e2).1
  obtain ⟨k3, e3, _⟩ := DataW.trod_int Try.underlying3 h3
  obtain rfl := (List.cons.inj e3).1
  exact ⟨⟨l.style, l.width, l.color, k1, k2, k3⟩, rfl, w0, w0'⟩
theorem edge_of_trod (h : DataW.trod enc Try.prog W base spare held n 47 cs = some x) : ∃ e : Edge, cs = e.cells ∧ e.width ≤ 9223372036854775807 := by
  obtain ⟨xs, m, _, _, hl, hlen, hf⟩ := DataW.trod_struct Try.underlying47 h
  have hc47 : Try.prog.cellsOf 47 = 10 := by kernel_rfl
  rw [hc47] at hl
  obtain ⟨c0, c1, c2, c3, c4, c5, c6, c7, c8, c9, rfl⟩ : ∃ c0 c1 c2 c3 c4 c5 c6 c7 c8 c9, cs = [c0, c1, c2, c3, c4, c5, c6, c7, c8, c9] := by
    match cs, hl with
    | [c0, c1, c2, c3, c4, c5, c6, c7, c8, c9], _ => exact ⟨c0, c1, c2, c3, c4, c5, c6, c7, c8, c9, rfl⟩
  have h0 : DataW.trod enc Try.prog W base spare held m 3 (([c0, c1, c2, c3, c4, c5, c6, c7, c8, c9].drop 0).take (Try.prog.cellsOf 3)) = xs[0]? := hf 0 _ rfl
  have h1 : DataW.trod enc Try.prog W base spare held m 3 (([c0, c1, c2, c3, c4, c5, c6, c7, c8, c9].drop 1).take (Try.prog.cellsOf 3)) = xs[1]? := hf 1 _ rfl
  have h2 : DataW.trod enc Try.prog W base spare held m 4 (([c0, c1, c2, c3, c4, c5, c6, c7, c8, c9].drop 2).take (Try.prog.cellsOf 4)) = xs[2]? := hf 2 _ rfl
  have h3 : DataW.trod enc Try.prog W base spare held m 45 (([c0, c1, c2, c3, c4, c5, c6, c7, c8, c9].drop 3).take (Try.prog.cellsOf 45)) = xs[3]? := hf 3 _ rfl
  have h4 : DataW.trod enc Try.prog W base spare held m 3 (([c0, c1, c2, c3, c4, c5, c6, c7, c8, c9].drop 9).take (Try.prog.cellsOf 3)) = xs[4]? := hf 4 _ rfl
  try dsimp only at h0 h1 h2 h3 h4
  have hc3 : Try.prog.cellsOf 3 = 1 := by kernel_rfl
  have hc4 : Try.prog.cellsOf 4 = 1 := by kernel_rfl
  have hc45 : Try.prog.cellsOf 45 = 6 := by kernel_rfl
  rw [hc3, List.getElem?_eq_getElem (by rw [hlen]; decide)] at h0
  rw [hc3, List.getElem?_eq_getElem (by rw [hlen]; decide)] at h1
  rw [hc4, List.getElem?_eq_getElem (by rw [hlen]; decide)] at h2
  rw [hc45, List.getElem?_eq_getElem (by rw [hlen]; decide)] at h3
  rw [hc3, List.getElem?_eq_getElem (by rw [hlen]; decide)] at h4
  simp only [List.drop_zero, List.drop_succ_cons, List.take_succ_cons, List.take_zero] at h0 h1 h2 h3 h4
  obtain ⟨k0, e0, _⟩ := DataW.trod_int Try.underlying3 h0
  obtain rfl := (List.cons.inj e0).1
  obtain ⟨k1, e1, _⟩ := DataW.trod_int Try.underlying3 h1
  obtain rfl := (List.cons.inj e1).1
  obtain ⟨k2, e2, _⟩ := DataW.trod_bool Try.underlying4 h2
  obtain rfl := (List.cons.inj e2).1
  obtain ⟨s, e3, _, w3⟩ := side_of_trod h3
  simp only [CT.Side.cells, List.cons.injEq, and_true] at e3
  obtain ⟨rfl, rfl, rfl, rfl, rfl, rfl⟩ := e3
  obtain ⟨k4, e4, _⟩ := DataW.trod_int Try.underlying3 h4
  obtain rfl := (List.cons.inj e4).1
  exact ⟨⟨k0, k1, k2, s.style, s.width, s.color, s.by_, s.row, s.col, k4⟩, rfl, w3⟩
end
/-- a slice of elements of several cells -/
theorem slice_of_trod {α : Type} [Inhabited α] {H : Type} {enc : TypeId × Value → H} {W : World} {base : Nat} {spare : Nat → Bool} {held : Bool} {n : Nat} {cs : List Value} {x : DataW H × List MemPlace} {en : α → List Value} {k : Nat} {t e : TypeId} {Q : α → Prop} (ht : Try.prog.underlying t = some (.slice e)) (hk : Try.prog.cellsOf e = k) (hk0 : 0 < k) (hlen : ∀ s, (en s).length = k)
    (dec : ∀ (n : Nat) (cs : List Value) (x : DataW H × List MemPlace), DataW.trod enc Try.prog W base spare held n e cs = some x → ∃ s : α, cs = en s ∧ Q s) (h : DataW.trod enc Try.prog W base spare held n t cs = some x) :
    ∃ A xs c, cs = [.slice A xs.length c] ∧ GR.Many en k W A xs ∧ xs.length ≤ c ∧ ∀ s ∈ xs, Q s := by
  rcases Go.Deep.open_slice ht h with ⟨rfl, _⟩ | ⟨a, l, c, m, n', D, Pl, rfl, _, hl, _, hmm, _, hcell⟩
  · exact ⟨none, [], 0, rfl, GR.Many.nil _ _, Nat.le_refl _, fun s hs => by cases hs⟩
  · have hm : l ≤ m := by rw [hmm]; split <;> omega
    have hex : ∀ i, ∃ s : α, i < l → Q s ∧ ∀ j, j < k → W.cell? ((a.add (i * k)).add j) = (en s)[j]? := fun i => by
      by_cases hi : i < l
      · obtain ⟨cs', hc1, hc2⟩ := hcell i (by omega)
        obtain ⟨s, rfl, hq⟩ := dec _ _ _ hc2
        rw [hk] at hc1
        exact ⟨s, fun _ => ⟨hq, (World.cells?_some hc1).2.2⟩⟩
      · exact ⟨default, fun h => absurd h hi⟩
    obtain ⟨f, hf⟩ := Classical.axiomOfChoice hex
    refine ⟨some a, (List.range l).map f, c, by simp, fun j hj => ?_, by simp; omega, fun s hs => ?_⟩
    · simp only [List.length_map, List.length_range] at hj
      have h0 := (hf 0 (by omega)).2 0 hk0
      rw [Nat.zero_mul, show a.add 0 = a from by simp [Addr.add], show a.add 0 = a from by simp [Addr.add], List.getElem?_eq_getElem (by rw [hlen]; exact hk0)] at h0
      have hp := addr_plain h0
      have hj' := (hf j hj).2
      rw [hp] at hj'
      have ej : ((List.range l).map f)[j]?.getD default = f j := by simp [hj]
      refine ⟨a.block, a.off, by rw [← hp], ?_, ?_⟩
      · rw [ej]
        intro r u hu
        have hr : r < k := by rw [← hlen (f j)]; exact (List.getElem?_eq_some_iff.1 hu).1
        have := hj' r hr
        rw [addr_add, addr_add] at this
        rw [this, hu]
      · exact World.block_lt_of_cell? W _ h0
    · obtain ⟨i, hi, rfl⟩ := List.mem_map.1 hs
      exact (hf i (List.mem_range.1 hi)).1
/-- An argument that is four lines. -/
theorem four_arg {H : Type} {enc : TypeId × Value → H} {W : World} {base : Nat} {r : Reach} {b0 : Nat} {v : Value} {d : DataW H} {ps : List MemPlace}
    (hv : Value.okWide Try.prog W r b0 28 v) (h : DataW.Trod enc Try.prog W base (fun _ => true) true 28 v d ps) : ∃ q : L4, v = .agg q.arr ∧ q.wf := by
  have hs : ∃ cs, v = .agg cs ∧ cs.size = Try.prog.cellsOf 28 := by
    cases v <;> simp_all [Value.okWide, Try.underlying28]
  obtain ⟨cs, rfl, hsz⟩ := hs
  obtain ⟨fuel, hf⟩ := h
  obtain ⟨q, hq, hw⟩ := l4_of_trod hf
  simp only [Value.cells] at hq
  refine ⟨q, ?_, hw⟩
  rw [← Array.toArray_toList (xs := cs), hq]
  rfl
/-- a framing that is an argument: where its lists lie; room -/
structure Fr.Arg (f : Fr) (W : World) : Prop where
  p : GR.Many Place.cells 5 W f.pa f.pl
  c : GR.Many L4.cells 12 W f.ca f.cl
  r : GR.Many Run.cells 14 W f.ra f.rl
  g : GR.Many Run.cells 14 W f.ga f.gl
  k : GR.Many Run.cells 14 W f.ka f.kl
  h : GR.Many Run.cells 14 W f.ha f.hl
  room : f.pl.length ≤ f.pc ∧ f.cl.length ≤ f.cc ∧ f.rl.length ≤ f.rc ∧ f.gl.length ≤ f.gc ∧ f.kl.length ≤ f.kc ∧ f.hl.length ≤ f.hc
/-- An argument that is a framing. -/
theorem fr_arg {H : Type} {enc : TypeId × Value → H} {W : World} {base : Nat} {r : Reach} {b0 : Nat} {v : Value} {d : DataW H} {ps : List MemPlace}
    (hv : Value.okWide Try.prog W r b0 30 v) (h : DataW.Trod enc Try.prog W base (fun _ => true) true 30 v d ps) : ∃ f : Fr, v = .agg f.arr ∧ f.Arg W ∧ f.wf := by
  obtain ⟨cs, rfl, hsz⟩ := okWide_struct Try.underlying30 hv
  obtain ⟨fuel, hf⟩ := h
  obtain ⟨xs, m, _, _, hl, hlen, hf⟩ := DataW.trod_struct Try.underlying30 hf
  have hc30 : Try.prog.cellsOf 30 = 20 := by kernel_rfl
  rw [hc30] at hl
  simp only [Value.cells] at hl hf
  obtain ⟨l⟩ := cs
  simp only at hl hf
  obtain ⟨c0, c1, c2, c3, c4, c5, c6, c7, c8, c9, c10, c11, c12, c13, c14, c15, c16, c17, c18, c19, rfl⟩ : ∃ c0 c1 c2 c3 c4 c5 c6 c7 c8 c9 c10 c11 c12 c13 c14 c15 c16 c17 c18 c19, l = [c0, c1, c2, c3, c4, c5, c6, c7, c8, c9, c10, c11, c12, c13, c14, c15, c16, c17, c18, c19] := by
    match l, hl with
    | [c0, c1, c2, c3, c4, c5, c6, c7, c8, c9, c10, c11, c12, c13, c14, c15, c16, c17, c18, c19], _ => exact ⟨c0, c1, c2, c3, c4, c5, c6, c7, c8, c9, c10, c11, c12, c13, c14, c15, c16, c17, c18, c19, rfl⟩
  have h0 : DataW.trod enc Try.prog W base (fun _ => true) true m 3 (([c0, c1, c2, c3, c4, c5, c6, c7, c8, c9, c10, c11, c12, c13, c14, c15, c16, c17, c18, c19].drop 0).take (Try.prog.cellsOf 3)) = xs[0]? := hf 0 _ rfl
  have h1 : DataW.trod enc Try.prog W base (fun _ => true) true m 3 (([c0, c1, c2, c3, c4, c5, c6, c7, c8, c9, c10, c11, c12, c13, c14, c15, c16, c17, c18, c19].drop 1).take (Try.prog.cellsOf 3)) = xs[1]? := hf 1 _ rfl
  have h2 : DataW.trod enc Try.prog W base (fun _ => true) true m 22 (([c0, c1, c2, c3, c4, c5, c6, c7, c8, c9, c10, c11, c12, c13, c14, c15, c16, c17, c18, c19].drop 2).take (Try.prog.cellsOf 22)) = xs[2]? := hf 2 _ rfl
  have h3 : DataW.trod enc Try.prog W base (fun _ => true) true m 23 (([c0, c1, c2, c3, c4, c5, c6, c7, c8, c9, c10, c11, c12, c13, c14, c15, c16, c17, c18, c19].drop 3).take (Try.prog.cellsOf 23)) = xs[3]? := hf 3 _ rfl
  have h4 : DataW.trod enc Try.prog W base (fun _ => true) true m 24 (([c0, c1, c2, c3, c4, c5, c6, c7, c8, c9, c10, c11, c12, c13, c14, c15, c16, c17, c18, c19].drop 4).take (Try.prog.cellsOf 24)) = xs[4]? := hf 4 _ rfl
  have h5 : DataW.trod enc Try.prog W base (fun _ => true) true m 24 (([c0, c1, c2, c3, c4, c5, c6, c7, c8, c9, c10, c11, c12, c13, c14, c15, c16, c17, c18, c19].drop 5).take (Try.prog.cellsOf 24)) = xs[5]? := hf 5 _ rfl
  have h6 : DataW.trod enc Try.prog W base (fun _ => true) true m 24 (([c0, c1, c2, c3, c4, c5, c6, c7, c8, c9, c10, c11, c12, c13, c14, c15, c16, c17, c18, c19].drop 6).take (Try.prog.cellsOf 24)) = xs[6]? := hf 6 _ rfl
  have h7 : DataW.trod enc Try.prog W base (fun _ => true) true m 24 (([c0, c1, c2, c3, c4, c5, c6, c7, c8, c9, c10, c11, c12, c13, c14, c15, c16, c17, c18, c19].drop 7).take (Try.prog.cellsOf 24)) = xs[7]? := hf 7 _ rfl
  have h8 : DataW.trod enc Try.prog W base (fun _ => true) true m 28 (([c0, c1, c2, c3, c4, c5, c6, c7, c8, c9, c10, c11, c12, c13, c14, c15, c16, c17, c18, c19].drop 8).take (Try.prog.cellsOf 28)) = xs[8]? := hf 8 _ rfl
  have hc3 : Try.prog.cellsOf 3 = 1 := by kernel_rfl
  have hc22 : Try.prog.cellsOf 22 = 1 := by kernel_rfl
  have hc23 : Try.prog.cellsOf 23 = 1 := by kernel_rfl
  have hc24 : Try.prog.cellsOf 24 = 1 := by kernel_rfl
  have hc28 : Try.prog.cellsOf 28 = 12 := by kernel_rfl
  rw [hc3, List.getElem?_eq_getElem (by rw [hlen]; decide)] at h0 h1
  rw [hc22, List.getElem?_eq_getElem (by rw [hlen]; decide)] at h2
  rw [hc23, List.getElem?_eq_getElem (by rw [hlen]; decide)] at h3
  rw [hc24, List.getElem?_eq_getElem (by rw [hlen]; decide)] at h4 h5 h6 h7
  rw [hc28, List.getElem?_eq_getElem (by rw [hlen]; decide)] at h8
  simp only [List.drop_zero, List.drop_succ_cons, List.take_succ_cons, List.take_zero] at h0 h1 h2 h3 h4 h5 h6 h7 h8
  obtain ⟨R, e0, _⟩ := DataW.trod_int Try.underlying3 h0
  obtain ⟨C, e1, _⟩ := DataW.trod_int Try.underlying3 h1
  have hc43 : Try.prog.cellsOf 43 = 5 := by kernel_rfl
  have hc84 : Try.prog.cellsOf 84 = 14 := by kernel_rfl
  obtain ⟨pa, pl, pc, e2, m2, r2, _⟩ := slice_of_trod (en := Place.cells) Try.underlying22 hc43 (by decide) Place.len (fun _ _ _ h => place_of_trod h) h2
  obtain ⟨ca, cl, cc, e3, m3, r3, w3⟩ := slice_of_trod (en := L4.cells) Try.underlying23 hc28 (by decide) L4.len (fun _ _ _ h => l4_of_trod h) h3
  obtain ⟨ra, rl, rc, e4, m4, r4, w4⟩ := slice_of_trod (en := Run.cells) Try.underlying24 hc84 (by decide) Run.len (fun _ _ _ h => run_of_trod h) h4
  obtain ⟨ga, gl, gc, e5, m5, r5, w5⟩ := slice_of_trod (en := Run.cells) Try.underlying24 hc84 (by decide) Run.len (fun _ _ _ h => run_of_trod h) h5
  obtain ⟨ka, kl, kc, e6, m6, r6, w6⟩ := slice_of_trod (en := Run.cells) Try.underlying24 hc84 (by decide) Run.len (fun _ _ _ h => run_of_trod h) h6
  obtain ⟨ha, hl', hc, e7, m7, r7, w7⟩ := slice_of_trod (en := Run.cells) Try.underlying24 hc84 (by decide) Run.len (fun _ _ _ h => run_of_trod h) h7
  obtain ⟨q, e8, w8⟩ := l4_of_trod h8
  obtain rfl := (List.cons.inj e0).1
  obtain rfl := (List.cons.inj e1).1
  obtain rfl := (List.cons.inj e2).1
  obtain rfl := (List.cons.inj e3).1
  obtain rfl := (List.cons.inj e4).1
  obtain rfl := (List.cons.inj e5).1
  obtain rfl := (List.cons.inj e6).1
  obtain rfl := (List.cons.inj e7).1
  simp only [L4.cells, List.cons.injEq, and_true] at e8
  obtain ⟨rfl, rfl, rfl, rfl, rfl, rfl, rfl, rfl, rfl, rfl, rfl, rfl⟩ := e8
  exact ⟨⟨R, C, pa, pl, pc, ca, cl, cc, ra, rl, rc, ga, gl, gc, ka, kl, kc, ha, hl', hc, q⟩, rfl, ⟨m2, m3, m4, m5, m6, m7, r2, r3, r4, r5, r6, r7⟩, ⟨w3, w8, w4, w5, w6, w7⟩⟩
/-- An argument that is a slice of edges. -/
theorem edges_arg {H : Type} {enc : TypeId × Value → H} {W : World} {base : Nat} {r : Reach} {b0 : Nat} {v : Value} {d : DataW H} {ps : List MemPlace}
    (hv : Value.okWide Try.prog W r b0 34 v) (h : DataW.Trod enc Try.prog W base (fun _ => true) true 34 v d ps) : ∃ A xs c, v = .slice A xs.length c ∧ GR.Many Edge.cells 10 W A xs ∧ xs.length ≤ c ∧ ∀ x ∈ xs, x.width ≤ 9223372036854775807 := by
  obtain ⟨a, len, cap, rfl⟩ := okWide_slice Try.underlying34 hv
  obtain ⟨fuel, hf⟩ := h
  have hc47 : Try.prog.cellsOf 47 = 10 := by kernel_rfl
  obtain ⟨A, xs, c, e, h1, h2, h3⟩ := slice_of_trod (en := Edge.cells) Try.underlying34 hc47 (by decide) Edge.len (fun _ _ _ h => edge_of_trod h) hf
  simp only [Value.cells] at e
  exact ⟨A, xs, c, by simpa using e, h1, h2, h3⟩
end Go.Proofs.Ytmlcjiabnmdfeaa
