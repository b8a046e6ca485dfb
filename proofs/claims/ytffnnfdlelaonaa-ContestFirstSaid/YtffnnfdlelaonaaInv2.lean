/- A region that draws its order, by an invariant of what has been done, where an edge that does not bind leads on. -/
import Derived.Test.YtffnnfdlelaonaaInv
namespace Go.Proofs.Ytffnnfdlelaonaa
open Go

theorem ready_all2 {ops : Array Oper} {md : Region.Mode} {listed : Array Bool} (hord : ∀ (i : Nat) (o : Oper), ops[i]? = some o → ∀ e ∈ o.after, Region.binds md e = true → e.on < i) (hs : listed.size = ops.size) (hr : Region.ready md ops listed = []) :
    ∀ i, i < ops.size → listed.getD i false = true := by
  intro i
  induction i using Nat.strongRecOn with
  | _ i ih =>
    intro hi
    cases hd : listed.getD i false with
    | true => rfl
    | false =>
      have hm : i ∈ Region.ready md ops listed := by
        rw [mem_ready]
        refine ⟨?_, ops[i], Array.getElem?_eq_getElem hi, fun e he hb => ih _ (hord i _ (Array.getElem?_eq_getElem hi) e he hb) (by have := hord i _ (Array.getElem?_eq_getElem hi) e he hb; omega)⟩
        have hlt : i < listed.size := by omega
        rw [Array.getD_eq_getD_getElem?, Array.getElem?_eq_getElem hlt] at hd ⊢
        exact hd
      rw [hr] at hm; cases hm

/-- edges lead back -/
def backward2 (ops : Array Oper) : Bool := (List.range ops.size).all fun i => ((ops[i]?).map fun o => o.after.all fun e => !Region.binds .any e || decide (e.on < i)).getD true
theorem backward2_spec {ops : Array Oper} (h : backward2 ops = true) : ∀ (i : Nat) (o : Oper), ops[i]? = some o → ∀ e ∈ o.after, Region.binds .any e = true → e.on < i := by
  intro i o ho e he hb
  have hlt : i < ops.size := (Array.getElem?_eq_some_iff.1 ho).1
  have := (List.all_eq_true.1 h) i (List.mem_range.2 hlt)
  rw [ho] at this
  simp only [Option.map_some, Option.getD_some, Array.all_eq_true_iff_forall_mem] at this
  have h' := this e he
  rw [hb] at h'
  simpa using h'

/-- **A region that draws its order, by an invariant of what has been done.** -/
theorem wp_region_done2 {P : Program} {ops : Array Oper} {Q : Exit → Act → World → Prop} {id : Nat} {a : Act} {w : World} (hm : P.follows .mixedOrders = true) (hord : backward2 ops = true) (Inv : (Nat → Bool) → Act → World → Prop)
    (h0 : Inv (fun _ => false) a w.drew)
    (hstep : ∀ (done : Nat → Bool) (i : Nat) (o : Oper) (a : Act) (w : World), ops[i]? = some o → done i = false → (∀ e ∈ o.after, Region.binds .any e = true → done e.on = true) → Inv done a w → ∀ K : Act → World → Prop, (∀ a' w', Inv (more done i) a' w' → K a' w') → wpOp P ops Q i K a w)
    (hfin : ∀ done a w, (∀ i, i < ops.size → done i = true) → Inv done a w → Q .normal a w) : (Code.region id ops true).wp P Q a w := by
  refine wp_region_inv hm (fun listed a w => listed.size = ops.size ∧ Inv (fun i => listed.getD i false) a w) ⟨by simp, ?_⟩ ?_ ?_
  · have e : (fun i => (Array.replicate ops.size false).getD i false) = fun _ => false := by
      funext i
      rw [Array.getD_eq_getD_getElem?, Array.getElem?_replicate]
      split <;> rfl
    rw [e]; exact h0
  · intro listed i a w hi ⟨hs, hI⟩ K hK
    obtain ⟨h1, o, ho, he⟩ := mem_ready.1 hi
    have hlt : i < listed.size := by rw [hs]; exact (Array.getElem?_eq_some_iff.1 ho).1
    have hd : listed.getD i false = false := by
      rw [Array.getD_eq_getD_getElem?, Array.getElem?_eq_getElem hlt] at h1 ⊢
      exact h1
    refine hstep (fun i => listed.getD i false) i o a w ho hd he hI K fun a' w' hI' => hK a' w' ⟨by simpa using hs, ?_⟩
    have e : (fun j => (listed.setIfInBounds i true).getD j false) = more (fun i => listed.getD i false) i := by
      funext j
      unfold more
      by_cases hj : j = i
      · subst hj
        rw [Array.getD_eq_getD_getElem?, Array.getElem?_setIfInBounds_self_of_lt hlt]; simp
      · rw [getD_set_ne _ (Ne.symm hj)]
        have : (j == i) = false := by simp [hj]
        rw [this, Bool.false_or]
    rw [e]; exact hI'
  · intro listed a w hr hs ⟨_, hI⟩
    exact hfin _ a w (ready_all2 (backward2_spec hord) hs hr) hI

end Go.Proofs.Ytffnnfdlelaonaa
