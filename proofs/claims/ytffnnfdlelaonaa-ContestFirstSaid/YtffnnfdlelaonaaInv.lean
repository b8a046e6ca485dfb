/- A region that draws its order, by an invariant of what has been done: each operation is walked once. -/
import Derived.Orders
import Derived.WalkKit
namespace Go.Proofs.Ytffnnfdlelaonaa
open Go

theorem count_set : ∀ (l : List Bool) (i : Nat), l.getD i true = false → (l.set i true).countP (fun b => !b) + 1 = l.countP (fun b => !b)
  | [], i, h => by simp at h
  | b :: l, 0, h => by simp at h; subst h; simp
  | b :: l, i + 1, h => by
    have ih := count_set l i (by simpa using h)
    simp only [List.set_cons_succ, List.countP_cons]
    omega

theorem wpAny_inv {P : Program} {ops : Array Oper} {Q : Exit → Act → World → Prop} {md : Region.Mode} (Inv : Array Bool → Act → World → Prop)
    (hstep : ∀ listed i a w, i ∈ Region.ready md ops listed → Inv listed a w → ∀ K : Act → World → Prop, (∀ a' w', Inv (listed.setIfInBounds i true) a' w' → K a' w') → wpOp P ops Q i K a w)
    (hfin : ∀ listed a w, Region.ready md ops listed = [] → listed.size = ops.size → Inv listed a w → Q .normal a w) :
    ∀ (fuel : Nat) (listed : Array Bool) (a : Act) (w : World), listed.size = ops.size → listed.toList.countP (fun b => !b) = fuel → Inv listed a w → wpAny P md ops Q fuel listed a w := by
  intro fuel
  induction fuel with
  | zero =>
    intro listed a w hs hc hI
    have hr : Region.ready md ops listed = [] := by
      rw [List.eq_nil_iff_forall_not_mem]
      intro i hi
      obtain ⟨h1, o, ho, _⟩ := mem_ready.1 hi
      have hlt : i < listed.size := by rw [hs]; exact (Array.getElem?_eq_some_iff.1 ho).1
      rw [List.countP_eq_zero] at hc
      have hm : listed[i] ∈ listed.toList := by simp
      have := hc _ hm
      rw [Array.getD_eq_getD_getElem?, Array.getElem?_eq_getElem hlt] at h1
      simp at h1 this
      rw [h1] at this; cases this
    exact ⟨hr, hfin _ _ _ hr hs hI⟩
  | succ fuel ih =>
    intro listed a w hs hc hI
    refine ⟨fun hr => hfin _ _ _ hr hs hI, fun i hi => ?_⟩
    refine hstep listed i a w hi hI _ fun a' w' hI' => ih _ a' w' (by simpa using hs) ?_ hI'
    obtain ⟨h1, o, ho, _⟩ := mem_ready.1 hi
    have := count_set listed.toList i (by rw [Array.getD_eq_getD_getElem?] at h1; rw [List.getD_eq_getElem?_getD]; simpa using h1)
    rw [Array.toList_setIfInBounds]
    omega

/-- **A region that draws its order, by an invariant.** -/
theorem wp_region_inv {P : Program} {ops : Array Oper} {Q : Exit → Act → World → Prop} {id : Nat} {a : Act} {w : World} (hm : P.follows .mixedOrders = true) (Inv : Array Bool → Act → World → Prop)
    (h0 : Inv (Array.replicate ops.size false) a w.drew)
    (hstep : ∀ listed i a w, i ∈ Region.ready .any ops listed → Inv listed a w → ∀ K : Act → World → Prop, (∀ a' w', Inv (listed.setIfInBounds i true) a' w' → K a' w') → wpOp P ops Q i K a w)
    (hfin : ∀ listed a w, Region.ready .any ops listed = [] → listed.size = ops.size → Inv listed a w → Q .normal a w) : (Code.region id ops true).wp P Q a w :=
  wp_region_any hm (wpAny_inv Inv hstep hfin _ _ _ _ (by simp) (by simp [List.countP_replicate]) h0)

theorem ready_all {ops : Array Oper} {md : Region.Mode} {listed : Array Bool} (hord : ∀ (i : Nat) (o : Oper), ops[i]? = some o → ∀ e ∈ o.after, e.on < i) (hs : listed.size = ops.size) (hr : Region.ready md ops listed = []) :
    ∀ i, i < ops.size → listed.getD i false = true := by
  intro i
  induction i using Nat.strongRecOn with
  | _ i ih =>
    intro hi
    cases hd : listed.getD i false with
    | true => rfl
    | false =>
      have hm : i ∈ Region.ready md ops listed := by
        rw [mem_ready]
        refine ⟨?_, ops[i], Array.getElem?_eq_getElem hi, fun e he _ => ih _ (hord i _ (Array.getElem?_eq_getElem hi) e he) (by have := hord i _ (Array.getElem?_eq_getElem hi) e he; omega)⟩
        have hlt : i < listed.size := by omega
        rw [Array.getD_eq_getD_getElem?, Array.getElem?_eq_getElem hlt] at hd ⊢
        exact hd
      rw [hr] at hm; cases hm

/-- edges lead back -/
def backward (ops : Array Oper) : Bool := (List.range ops.size).all fun i => ((ops[i]?).map fun o => o.after.all fun e => decide (e.on < i)).getD true
theorem backward_spec {ops : Array Oper} (h : backward ops = true) : ∀ (i : Nat) (o : Oper), ops[i]? = some o → ∀ e ∈ o.after, e.on < i := by
  intro i o ho e he
  have hlt : i < ops.size := (Array.getElem?_eq_some_iff.1 ho).1
  have := (List.all_eq_true.1 h) i (List.mem_range.2 hlt)
  rw [ho] at this
  simp only [Option.map_some, Option.getD_some, Array.all_eq_true_iff_forall_mem] at this
  exact of_decide_eq_true (this e he)

/-- what has been done, and one more -/
def more (done : Nat → Bool) (i : Nat) : Nat → Bool := fun j => j == i || done j

/-- **A region that draws its order, by an invariant of what has been done.** -/
theorem wp_region_done {P : Program} {ops : Array Oper} {Q : Exit → Act → World → Prop} {id : Nat} {a : Act} {w : World} (hm : P.follows .mixedOrders = true) (hord : backward ops = true) (Inv : (Nat → Bool) → Act → World → Prop)
    (h0 : Inv (fun _ => false) a w.drew)
    (hstep : ∀ (done : Nat → Bool) (i : Nat) (o : Oper) (a : Act) (w : World), ops[i]? = some o → done i = false → (∀ e ∈ o.after, Region.binds .any e = true → done e.on = true) → Inv done a w → ∀ K : Act → World → Prop, (∀ a' w', Inv (more done i) a' w' → K a' w') → wpOp P ops Q i K a w)
    (hfin : ∀ done a w, (∀ i, i < ops.size → done i = true) → Inv done a w → Q .normal a w) : (Code.region id ops true).wp P Q a w := by
  refine wp_region_inv hm (fun listed a w => listed.size = ops.size ∧ Inv (fun i => listed.getD i false) a w) ⟨by simp, ?_⟩ ?_ ?_
  · have e : (fun i => (Array.replicate ops.size false).getD i false) = fun _ => false := by
      funext i
      rw [Array.getD_eq_getD_getElem?, Array.getElem?_replicate]
      split <;> rfl
    rw [e]; exact h0
  · intro listed i a w hi ⟨hs, hI⟩ K hK
    obtain ⟨h1, o, ho, he⟩ := mem_ready.1 hi
    have hlt : i < listed.size := by rw [hs]; exact (Array.getElem?_eq_some_iff.1 ho).1
    have hd : listed.getD i false = false := by
      rw [Array.getD_eq_getD_getElem?, Array.getElem?_eq_getElem hlt] at h1 ⊢
      exact h1
    refine hstep (fun i => listed.getD i false) i o a w ho hd he hI K fun a' w' hI' => hK a' w' ⟨by simpa using hs, ?_⟩
    have e : (fun j => (listed.setIfInBounds i true).getD j false) = more (fun i => listed.getD i false) i := by
      funext j
      unfold more
      by_cases hj : j = i
      · subst hj
        rw [Array.getD_eq_getD_getElem?, Array.getElem?_setIfInBounds_self_of_lt hlt]; simp
      · rw [getD_set_ne _ (Ne.symm hj)]
        have : (j == i) = false := by simp [hj]
        rw [this, Bool.false_or]
    rw [e]; exact hI'
  · intro listed a w hr hs ⟨_, hI⟩
    exact hfin _ a w (ready_all (backward_spec hord) hs hr) hI

theorem wpOp_plain {P : Program} {ops : Array Oper} {Q : Exit → Act → World → Prop} {i : Nat} {o : Oper} {K : Act → World → Prop} {a : Act} {w : World} (ho : ops[i]? = some o) (hg : o.guard = none) (h : o.wp P a w K Q) : wpOp P ops Q i K a w := by
  unfold wpOp
  rw [ho]
  simp only [Region.wanted, hg, if_true]
  exact .inl h

end Go.Proofs.Ytffnnfdlelaonaa
