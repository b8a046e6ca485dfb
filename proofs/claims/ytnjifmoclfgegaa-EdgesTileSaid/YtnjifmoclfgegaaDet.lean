/- A region that draws its order, walked once in the order of the text: each operation gives one value, whatever the world of a given set it meets, and leaves a world of that set. -/
import Derived.Orders
import Derived.WalkKit
import Derived.Below
import Derived.Lib.Hide
namespace Go.Proofs.Ytnjifmoclfgegaa
open Go Go.RowKit

/-- In every world of S the operation's work ends in the value v and in a world of S. -/
def RunsS (P : Program) (S : World → Prop) (m : Sem Next) (v : Value) : Prop :=
  ∀ w, S w → match m.run P w with
    | .ok (.value x) w' => x = v ∧ S w'
    | .ok .skip w' => v = undef ∧ S w'
    | .ok (.enter f args) w' => Calls P f args w' fun e w'' => e = .returned v ∧ S w''
    | .ok (.row row args) w' => Rows P row args w' fun x w'' => x = v ∧ S w''
    | _ => False

def YieldsS (P : Program) (ops : Array Oper) (S : World → Prop) (o : Oper) (v : Value) (a : Act) : Prop :=
  (Region.wanted o (yielded ops a.tmps) = true ∧ RunsS P S (execOp a.eval o) v) ∨ (Region.wanted o (yielded ops a.tmps) = false ∧ v = undef)

section
variable {P : Program} {ops : Array Oper} {Q : Exit → Act → World → Prop} {md : Region.Mode} {S : World → Prop}

theorem YieldsS.wpOp {i : Nat} {o : Oper} {v : Value} {a : Act} (hi : ops[i]? = some o) (hy : YieldsS P ops S o v a)
    {K : Act → World → Prop} {w : World} (hS : S w) (h : ∀ w', S w' → K (a.put o.dst v) w') : wpOp P ops Q i K a w := by
  unfold Go.wpOp
  simp only [hi]
  rcases hy with ⟨hw, hv⟩ | ⟨hw, rfl⟩
  · have hv := hv w hS
    simp only [hw, if_true]
    refine .inl ?_
    unfold Oper.wp
    generalize (execOp a.eval o).run P w = r at *
    cases r with
    | ok n w' =>
      cases n <;> simp only [Oper.upon] at hv ⊢
      case value u => obtain ⟨rfl, h'⟩ := hv; exact h _ h'
      case skip => obtain ⟨rfl, h'⟩ := hv; exact h _ h'
      case enter f args => exact Calls.mono hv fun e w'' he => by obtain ⟨rfl, h'⟩ := he; exact h _ h'
      case row row args => exact Rows.mono hv fun u w'' he => by obtain ⟨rfl, h'⟩ := he; exact h _ h'
    | halt x w' => cases x <;> simp only at hv
  · simp only [hw, Bool.false_eq_true, if_false]; exact h _ hS

theorem YieldsS.of_same {o : Oper} {v : Value} {a a' : Act} (hy : YieldsS P ops S o v a) (he : execOp a'.eval o = execOp a.eval o)
    (hw : Region.wanted o (yielded ops a'.tmps) = Region.wanted o (yielded ops a.tmps)) : YieldsS P ops S o v a' := by
  unfold YieldsS at *
  rw [he, hw]
  exact hy
theorem YieldsS.put {o : Oper} {v : Value} {a : Act} (hy : YieldsS P ops S o v a) (hs : ∀ cs b, o.op ≠ .select cs b) (d : Option Tmp) (u : Value) (h : ∀ t, d = some t → t ∉ o.looksAt ops) : YieldsS P ops S o v (a.put d u) :=
  hy.of_same (execOp_put o hs a d u h) (wanted_put o a d u h)
theorem YieldsS.unput {o : Oper} {v : Value} {a : Act} {d : Option Tmp} {u : Value} (hy : YieldsS P ops S o v (a.put d u)) (hs : ∀ cs b, o.op ≠ .select cs b) (h : ∀ t, d = some t → t ∉ o.looksAt ops) : YieldsS P ops S o v a :=
  hy.of_same (execOp_put o hs a d u h).symm (wanted_put o a d u h).symm

/-- every operation that has been done had those that it waits for done -/
def Shut (md : Region.Mode) (ops : Array Oper) (listed : Array Bool) : Prop :=
  ∀ (i : Nat) (o : Oper), ops[i]? = some o → listed.getD i false = true → ∀ e ∈ o.after, Region.binds md e = true → listed.getD e.on false = true
theorem Shut.next {listed : Array Bool} {j : Nat} (h : Shut md ops listed) (hj : j ∈ Region.ready md ops listed) : Shut md ops (listed.setIfInBounds j true) := by
  intro i o ho hl e he hb
  by_cases hij : j = i
  · subst hij
    obtain ⟨_, o', ho', hall⟩ := mem_ready.1 hj
    rw [ho] at ho'; cases ho'
    exact getD_set_true (hall e he hb)
  · rw [getD_set_ne false hij] at hl
    exact getD_set_true (h i o ho hl e he hb)
/-- the operations that one waits for -/
def binding (o : Oper) : List Nat := (o.after.toList.filter fun e => Region.binds .any e).map (·.on)
theorem mem_binding {o : Oper} {i : Nat} : i ∈ binding o ↔ ∃ e ∈ o.after, Region.binds .any e = true ∧ e.on = i := by
  unfold binding
  simp only [List.mem_map, List.mem_filter, Array.mem_toList_iff]
  exact ⟨fun ⟨e, ⟨h1, h2⟩, h3⟩ => ⟨e, h1, h2, h3⟩, fun ⟨e, h1, h2, h3⟩ => ⟨e, ⟨h1, h2⟩, h3⟩⟩
def bindOf (ops : Array Oper) (k : Nat) : List Nat := (((ops.toList.drop k).head?).map binding).getD []
def memN (x : Nat) : List Nat → Bool
  | [] => false
  | y :: l => Nat.beq x y || memN x l
theorem memN_iff {x : Nat} : ∀ {l : List Nat}, memN x l = true ↔ x ∈ l
  | [] => by simp [memN]
  | y :: l => by
    rw [memN, Bool.or_eq_true, memN_iff, List.mem_cons, Nat.beq_eq]
theorem bindOf_some {ops : Array Oper} {k i : Nat} (h : i ∈ bindOf ops k) : ∃ o, ops[k]? = some o ∧ i ∈ binding o := by
  unfold bindOf at h
  rw [List.head?_drop] at h
  cases ho : ops[k]? with
  | none => rw [← Array.getElem?_toList] at ho; rw [ho] at h; simp at h
  | some o => rw [← Array.getElem?_toList] at ho; rw [ho] at h; exact ⟨o, rfl, by simpa using h⟩
/-- what stands at the cut waits for all before it, what stands behind it waits for it -/
def tailed (ops : Array Oper) (cut : Nat) : Bool :=
  Nat.beq cut ops.size || ((List.range cut).all (fun i => (List.range (cut + 1)).any fun j => Nat.blt i j && memN i (bindOf ops j)) &&
    (List.range ops.size).all fun k => Nat.ble k cut || (List.range k).any fun j => Nat.ble cut j && memN j (bindOf ops k))
theorem tailed_spec {ops : Array Oper} {cut : Nat} (h : tailed ops cut = true) {listed : Array Bool} (hs : Shut .any ops listed) : ∀ (k : Nat) (o : Oper), ops[k]? = some o → cut ≤ k → (∀ i ∈ binding o, listed.getD i false = true) → ∀ i, i < cut → listed.getD i false = true := by
  intro k o ho hck hb
  have hklt : k < ops.size := (Array.getElem?_eq_some_iff.1 ho).1
  unfold tailed at h
  rw [Bool.or_eq_true, Bool.and_eq_true] at h
  rcases h with h | ⟨h1, h2⟩
  · rw [Nat.beq_eq] at h; omega
  have hcut : ∀ i ∈ bindOf ops cut, listed.getD i false = true := by
    have key : ∀ (k : Nat) (o : Oper), ops[k]? = some o → cut ≤ k → (∀ i ∈ binding o, listed.getD i false = true) → ∀ i ∈ bindOf ops cut, listed.getD i false = true := by
      intro k
      induction k using Nat.strongRecOn with
      | _ k ih =>
        intro o ho hck hb
        by_cases he : k = cut
        · subst he
          intro i hi
          obtain ⟨o', ho', hi'⟩ := bindOf_some hi
          rw [ho] at ho'; cases ho'
          exact hb i hi'
        · have h3 := (List.all_eq_true.1 h2) k (List.mem_range.2 (Array.getElem?_eq_some_iff.1 ho).1)
          rw [Bool.or_eq_true] at h3
          rcases h3 with h3 | h3
          · rw [Nat.ble_eq] at h3; omega
          · obtain ⟨j, hj, h4⟩ := List.any_eq_true.1 h3
            rw [Bool.and_eq_true, Nat.ble_eq, memN_iff] at h4
            obtain ⟨o', ho', hj'⟩ := bindOf_some h4.2
            rw [ho] at ho'; cases ho'
            have hl := hb j hj'
            have hjlt := List.mem_range.1 hj
            have hjs : j < ops.size := by have := (Array.getElem?_eq_some_iff.1 ho).1; omega
            refine ih j hjlt ops[j] (Array.getElem?_eq_getElem hjs) h4.1 fun i hi => ?_
            obtain ⟨e, he1, he2, rfl⟩ := mem_binding.1 hi
            exact hs j _ (Array.getElem?_eq_getElem hjs) hl e he1 he2
    exact key k o ho hck hb
  have down : ∀ (d i : Nat), i < cut → cut - i = d → listed.getD i false = true := by
    intro d
    induction d using Nat.strongRecOn with
    | _ d ih =>
      intro i hi hd
      have h3 := (List.all_eq_true.1 h1) i (List.mem_range.2 hi)
      obtain ⟨j, hj, h4⟩ := List.any_eq_true.1 h3
      rw [Bool.and_eq_true, Nat.blt_eq, memN_iff] at h4
      have hjc := List.mem_range.1 hj
      by_cases hjc' : j = cut
      · subst hjc'; exact hcut i h4.2
      · obtain ⟨o', ho', hi'⟩ := bindOf_some h4.2
        have hl := ih (cut - j) (by omega) j (by omega) rfl
        obtain ⟨e, he1, he2, rfl⟩ := mem_binding.1 hi'
        exact hs j o' ho' hl e he1 he2
  exact fun i hi => down _ i hi rfl

/-- All orders of what is left give one frame; from 'cut' on the rest is walked as it comes. -/
def wpDet (P : Program) (md : Region.Mode) (ops : Array Oper) (Q : Exit → Act → World → Prop) (S : World → Prop) (cut : Nat) : Nat → Array Bool → Act → Prop
  | 0, listed, a => Region.ready md ops listed = [] ∧ ∀ w, S w → Q .normal a w
  | fuel + 1, listed, a =>
    ((∀ i, i < cut → listed.getD i true = true) ∧ ∀ w, S w → wpAny P md ops Q (fuel + 1) listed a w) ∨
    ((Region.ready md ops listed = [] → ∀ w, S w → Q .normal a w) ∧
      ∀ i ∈ Region.ready md ops listed, ∃ o v, ops[i]? = some o ∧ YieldsS P ops S o v a ∧ wpDet P md ops Q S cut fuel (listed.setIfInBounds i true) (a.put o.dst v))

theorem wpDet.any {cut : Nat} : ∀ (fuel : Nat) (listed : Array Bool) (a : Act), wpDet P md ops Q S cut fuel listed a → ∀ w, S w → wpAny P md ops Q fuel listed a w
  | 0, _, _, h, w, hS => ⟨h.1, h.2 w hS⟩
  | fuel + 1, listed, a, h, w, hS => by
    rcases h with h | h
    · exact h.2 w hS
    · refine ⟨fun hr => h.1 hr w hS, fun i hi => ?_⟩
      obtain ⟨o, v, ho, hy, hn⟩ := h.2 i hi
      exact hy.wpOp ho hS fun w' hS' => wpDet.any fuel _ _ hn w' hS'

theorem wpDet_first {cut : Nat} (ht : tailed ops cut = true) {i : Nat} {oi : Oper} {v : Value} (hi : ops[i]? = some oi) (hic : i < cut) (hsel : ∀ (j : Nat) (o : Oper) cs b, ops[j]? = some o → o.op ≠ .select cs b) :
    ∀ (fuel : Nat) (listed : Array Bool) (a : Act),
      (∀ j oj, ops[j]? = some oj → j ≠ i → listed.getD j true = false → (∀ e ∈ oj.after, Region.binds .any e = true → e.on ≠ i) → oi.apart ops oj = true) →
      Shut .any ops listed → i ∈ Region.ready .any ops listed → YieldsS P ops S oi v a →
      wpDet P .any ops Q S cut fuel (listed.setIfInBounds i true) (a.put oi.dst v) → wpDet P .any ops Q S cut (fuel + 1) listed a := by
  intro fuel
  induction fuel with
  | zero =>
    intro listed a _ _ hr hy H
    refine .inr ⟨fun h => (by rw [h] at hr; cases hr), fun j hj => ?_⟩
    by_cases hji : j = i
    · subst hji; exact ⟨oi, v, hi, hy, H⟩
    · have := ready_mono hj hji
      rw [H.1] at this
      cases this
  | succ fuel ih =>
    intro listed a hfree hsh hr hy H
    refine .inr ⟨fun h => (by rw [h] at hr; cases hr), fun j hj => ?_⟩
    by_cases hji : j = i
    · subst hji; exact ⟨oi, v, hi, hy, H⟩
    · obtain ⟨hjun, oj, hoj, hall⟩ := mem_ready.1 hj
      have hiun : listed.getD i true = false := (mem_ready.1 hr).1
      have hjlt : j < ops.size := (Array.getElem?_eq_some_iff.1 hoj).1
      have hnl : ∀ k : Nat, listed.getD k true = false → listed.getD k false = true → False := fun k h1 h2 => by
        rcases Nat.lt_or_ge k listed.size with h' | h'
        · simp [h'] at h1 h2; rw [h1] at h2; cases h2
        · simp [Array.getElem?_eq_none h'] at h1
      rcases H with H | H
      · exfalso
        by_cases hjc : j < cut
        · have := H.1 j hjc
          rw [getD_set_ne true (Ne.symm hji)] at this
          rw [hjun] at this; cases this
        · exact hnl i hiun (tailed_spec ht hsh j oj hoj (by omega) (fun x hx => by obtain ⟨e, he1, he2, rfl⟩ := mem_binding.1 hx; exact hall e he1 he2) i hic)
      · obtain ⟨oj', u, hoj', hyj, hn⟩ := H.2 j (ready_mono hj hji)
        rw [hoj] at hoj'; cases hoj'
        have hnot : ∀ e ∈ oj.after, Region.binds .any e = true → e.on ≠ i := fun e he hb heq => by
          have h1 := hall e he hb
          rw [heq] at h1
          exact hnl i hiun h1
        obtain ⟨h1, h2, h3⟩ := Oper.apart_spec (hfree j oj hoj hji hjun hnot)
        have hfree' : ∀ k ok, ops[k]? = some ok → k ≠ i → (listed.setIfInBounds j true).getD k true = false →
            (∀ e ∈ ok.after, Region.binds .any e = true → e.on ≠ i) → oi.apart ops ok = true := fun k ok hk hki hun hno => by
          refine hfree k ok hk hki ?_ hno
          by_cases hjk : j = k
          · subst hjk; exact hjun
          · rw [getD_set_ne true hjk] at hun; exact hun
        refine ⟨oj, u, hoj, hyj.unput (fun cs b => hsel j oj cs b hoj) h1, ih (listed.setIfInBounds j true) _ hfree' (hsh.next hj) (ready_mono hr (Ne.symm hji)) (hy.put (fun cs b => hsel i oi cs b hi) _ _ h3) ?_⟩
        rw [Array.setIfInBounds_comm _ _ hji, ← Act.put_comm a v u h2]
        exact hn

/-- the first k are done -/
def firstK (n k : Nat) : Array Bool := (List.range n).toArray.map fun i => decide (i < k)

/-- what an operation reads -/
def looks (ops : Array Oper) (o : Oper) : List Tmp := o.looksAt ops
def noneOf (d : Option Tmp) (l : List Tmp) : Bool := match d with
  | some d => !memN d l
  | none => true
def sameDst (x y : Option Tmp) : Bool := match x, y with
  | some a, some b => Nat.beq a b
  | _, _ => false
/-- x, at place k, against those behind it -/
def apartAll (ops : Array Oper) (k : Nat) (dx : Option Tmp) (lx : List Tmp) : List Oper → Bool
  | [] => true
  | y :: rest => (memN k (binding y) || (noneOf dx (looks ops y) && !sameDst dx y.dst && noneOf y.dst lx)) && apartAll ops k dx lx rest
def okFrom (ops : Array Oper) (cut : Nat) : Nat → List Oper → Bool
  | _, [] => true
  | k, x :: rest => (Nat.ble cut k || apartAll ops k x.dst (looks ops x) rest) && (binding x).all (fun i => Nat.blt i k) && (match x.op with | .select .. => false | _ => true) && okFrom ops cut (k + 1) rest
/-- what the kernel looks at once for a region -/
def detOK (ops : Array Oper) (cut : Nat) : Bool := Nat.ble cut ops.size && tailed ops cut && okFrom ops cut 0 ops.toList

theorem apartAll_spec {ops : Array Oper} {k : Nat} {x : Oper} : ∀ {l : List Oper}, apartAll ops k x.dst (looks ops x) l = true → ∀ y ∈ l, k ∉ binding y → x.apart ops y = true
  | [], _, y, hy, _ => by cases hy
  | z :: l, h, y, hy, hk => by
    rw [apartAll, Bool.and_eq_true] at h
    rcases List.mem_cons.1 hy with rfl | hy
    · have h1 := h.1
      rw [Bool.or_eq_true] at h1
      rcases h1 with h1 | h1
      · exact absurd (memN_iff.1 h1) hk
      · rw [Bool.and_eq_true, Bool.and_eq_true] at h1
        obtain ⟨⟨h2, h3⟩, h4⟩ := h1
        unfold Oper.apart
        unfold noneOf looks at h2 h4
        unfold sameDst at h3
        cases hx : x.dst with
        | none =>
          cases hyd : y.dst with
          | none => rfl
          | some b => rw [hyd] at h4; simp only [Bool.not_eq_true'] at h4; simp only [Bool.true_and, Bool.not_eq_true', List.contains_eq_mem, decide_eq_false_iff_not]; intro hm; rw [memN_iff.2 hm] at h4; cases h4
        | some a =>
          rw [hx] at h2 h3
          have e1 : a ∉ y.looksAt ops := by
            intro hm; simp only [memN_iff.2 hm] at h2; cases h2
          cases hyd : y.dst with
          | none => simp [e1]
          | some b =>
            rw [hyd] at h3 h4
            have e2 : b ∉ x.looksAt ops := by
              intro hm; simp only [memN_iff.2 hm] at h4; cases h4
            have e3 : b ≠ a := fun e => by subst e; simp at h3
            simp [e1, e2, e3]
    · exact apartAll_spec h.2 y hy hk
theorem okFrom_spec {ops : Array Oper} {cut : Nat} : ∀ {l : List Oper} {m : Nat}, okFrom ops cut m l = true → ∀ (n : Nat) (x : Oper), l[n]? = some x →
    (m + n < cut → ∀ (j : Nat) (y : Oper), n < j → l[j]? = some y → m + n ∉ binding y → x.apart ops y = true) ∧ (∀ i ∈ binding x, i < m + n) ∧ ∀ cs b, x.op ≠ .select cs b
  | [], _, _, n, x, hx => by simp at hx
  | z :: l, m, h, n, x, hx => by
    rw [okFrom, Bool.and_eq_true, Bool.and_eq_true, Bool.and_eq_true] at h
    obtain ⟨⟨⟨h1, h2⟩, h3⟩, h4⟩ := h
    cases n with
    | zero =>
      obtain rfl : z = x := by simpa using hx
      refine ⟨fun hc j y hj hy hk => ?_, fun i hi => ?_, fun cs b he => ?_⟩
      · rw [Bool.or_eq_true] at h1
        rcases h1 with h1 | h1
        · rw [Nat.ble_eq] at h1; omega
        · obtain ⟨j, rfl⟩ : ∃ j', j = j' + 1 := ⟨j - 1, by omega⟩
          exact apartAll_spec h1 y (List.mem_of_getElem? (by simpa using hy)) (by simpa using hk)
      · have := (List.all_eq_true.1 h2) i hi
        rw [Nat.blt_eq] at this; omega
      · rw [he] at h3; cases h3
    | succ n =>
      have ih := okFrom_spec h4 n x (by simpa using hx)
      refine ⟨fun hc j y hj hy hk => ?_, fun i hi => by have := ih.2.1 i hi; omega, ih.2.2⟩
      obtain ⟨j, rfl⟩ : ∃ j', j = j' + 1 := ⟨j - 1, by omega⟩
      exact ih.1 (by omega) j y (by omega) (by simpa using hy) (by rw [show m + 1 + n = m + (n + 1) by omega]; exact hk)

/-- The first k operations have been walked. -/
def DetAt (P : Program) (ops : Array Oper) (Q : Exit → Act → World → Prop) (S : World → Prop) (cut k : Nat) (a : Act) : Prop :=
  wpDet P .any ops Q S cut (ops.size - k) (firstK ops.size k) a

theorem firstK_zero (n : Nat) : firstK n 0 = Array.replicate n false := by
  unfold firstK
  apply Array.ext
  · simp
  · intro i h1 h2; simp
theorem firstK_next (n k : Nat) : (firstK n k).setIfInBounds k true = firstK n (k + 1) := by
  unfold firstK
  apply Array.ext
  · simp
  · intro i h1 h2
    simp only [Array.size_setIfInBounds, Array.size_map, List.size_toArray, List.length_range] at h1
    rw [Array.getElem_setIfInBounds (by simpa using h1)]
    simp only [Array.getElem_map, List.getElem_toArray, List.getElem_range]
    by_cases h : k = i
    · subst h; simp
    · rw [if_neg h, decide_eq_decide]; omega
theorem firstK_done {n cut : Nat} (i : Nat) (h : i < cut) : (firstK n cut).getD i true = true := by
  unfold firstK
  rw [Array.getD_eq_getD_getElem?]
  simp only [Array.getElem?_map, List.getElem?_toArray]
  by_cases hi : i < n
  · rw [List.getElem?_range hi]; simp [h]
  · rw [List.getElem?_eq_none (by simpa using hi)]; rfl

theorem firstK_not {n k i : Nat} (hi : i < n) (h : (firstK n k).getD i true = false) : k ≤ i := by
  unfold firstK at h
  rw [Array.getD_eq_getD_getElem?] at h
  simp only [Array.getElem?_map, List.getElem?_toArray, List.getElem?_range hi, Option.map_some, Option.getD_some, decide_eq_false_iff_not] at h
  omega
theorem firstK_yes {n k i : Nat} (hi : i < n) (h : i < k) : (firstK n k).getD i false = true := by
  unfold firstK
  rw [Array.getD_eq_getD_getElem?]
  simp only [Array.getElem?_map, List.getElem?_toArray, List.getElem?_range hi, Option.map_some, Option.getD_some, decide_eq_true_eq]
  exact h
theorem firstK_here {n k : Nat} (hi : k < n) : (firstK n k).getD k true = false := by
  unfold firstK
  rw [Array.getD_eq_getD_getElem?]
  simp [hi]
theorem firstK_lt {n k i : Nat} (h : (firstK n k).getD i false = true) : i < k := by
  unfold firstK at h
  rw [Array.getD_eq_getD_getElem?] at h
  simp only [Array.getElem?_map, List.getElem?_toArray] at h
  by_cases hi : i < n
  · rw [List.getElem?_range hi] at h; simpa using h
  · rw [List.getElem?_eq_none (by simpa using hi)] at h; cases h

theorem DetAt.step {cut k : Nat} {a : Act} {v : Value} {o : Oper} (hok : Hid (detOK ops cut = true)) (ho : ops[k]? = some o) (hk : k < cut) (hy : YieldsS P ops S o v a) (h : DetAt P ops Q S cut (k + 1) (a.put o.dst v)) :
    DetAt P ops Q S cut k a := by
  replace hok := hok.out
  unfold detOK at hok
  rw [Bool.and_eq_true, Bool.and_eq_true] at hok
  obtain ⟨⟨h1, h2⟩, h3⟩ := hok
  have hlt : k < ops.size := (Array.getElem?_eq_some_iff.1 ho).1
  have sp := fun (n : Nat) (x : Oper) (hx : ops[n]? = some x) => okFrom_spec h3 n x (by rw [Array.getElem?_toList]; exact hx)
  have back : ∀ (n : Nat) (x : Oper), ops[n]? = some x → ∀ e ∈ x.after, Region.binds .any e = true → e.on < n := fun n x hx e he hb => by
    have := (sp n x hx).2.1 e.on (mem_binding.2 ⟨e, he, hb, rfl⟩); omega
  unfold DetAt at *
  obtain ⟨f, hf⟩ : ∃ f, ops.size - k = f + 1 := ⟨ops.size - k - 1, by omega⟩
  rw [hf]
  rw [show ops.size - (k + 1) = f by omega, ← firstK_next] at h
  refine wpDet_first h2 ho hk (fun j o cs b hj => (sp j o hj).2.2 cs b) f _ a ?_ ?_ ?_ hy h
  · intro j oj hj hne hun hno
    have hjs : j < ops.size := (Array.getElem?_eq_some_iff.1 hj).1
    have := firstK_not hjs hun
    refine (sp k o ho).1 (by omega) j oj (by omega) (by rw [Array.getElem?_toList]; exact hj) fun hm => ?_
    obtain ⟨e, he1, he2, he3⟩ := mem_binding.1 hm
    exact hno e he1 he2 (by omega)
  · intro i oi hi hl e he hb
    have h4 := back i oi hi e he hb
    have h5 := firstK_lt hl
    exact firstK_yes (by omega) (by omega)
  · rw [mem_ready]
    exact ⟨firstK_here hlt, o, ho, fun e he hb => firstK_yes (by have := back k o ho e he hb; omega) (back k o ho e he hb)⟩

theorem DetAt.done {n : Nat} {a : Act} (hn : ops.size = n) (h : ∀ w, S w → Q .normal a w) : DetAt P ops Q S n n a := by
  unfold DetAt
  rw [hn, Nat.sub_self]
  refine ⟨?_, h⟩
  rw [List.eq_nil_iff_forall_not_mem]
  intro j hj
  obtain ⟨hu, o, ho, _⟩ := mem_ready.1 hj
  have hlt : j < ops.size := (Array.getElem?_eq_some_iff.1 ho).1
  rw [firstK_done j (by omega)] at hu
  cases hu

/-- what is left comes in whatever order -/
def TailAt (P : Program) (ops : Array Oper) (Q : Exit → Act → World → Prop) (k : Nat) (a : Act) (w : World) : Prop :=
  wpAny P .any ops Q (ops.size - k) (firstK ops.size k) a w
theorem DetAt.tail {cut : Nat} {a : Act} (h : ∀ w, S w → TailAt P ops Q cut a w) : DetAt P ops Q S cut cut a := by
  unfold DetAt
  cases hc : ops.size - cut with
  | zero =>
    refine ⟨?_, fun w hS => ?_⟩
    · rw [List.eq_nil_iff_forall_not_mem]
      intro j hj
      obtain ⟨hu, o, ho, _⟩ := mem_ready.1 hj
      have hlt : j < ops.size := (Array.getElem?_eq_some_iff.1 ho).1
      rw [firstK_done j (by omega)] at hu
      cases hu
    · have := h w hS
      unfold TailAt at this
      rw [hc] at this
      exact this.2
  | succ f =>
    refine .inl ⟨fun i hi => firstK_done i hi, fun w hS => ?_⟩
    have := h w hS
    unfold TailAt at this
    rw [hc] at this
    exact this
theorem TailAt.step {k : Nat} {a : Act} {w : World} {o : Oper} (ho : ops[k]? = some o) (hr : Region.ready .any ops (firstK ops.size k) = [k]) (hg : o.guard = none) (h : o.wp P a w (fun a' w' => TailAt P ops Q (k + 1) a' w') Q) : TailAt P ops Q k a w := by
  have hlt : k < ops.size := (Array.getElem?_eq_some_iff.1 ho).1
  unfold TailAt at *
  obtain ⟨f, hf⟩ : ∃ f, ops.size - k = f + 1 := ⟨ops.size - k - 1, by omega⟩
  rw [hf]
  refine ⟨fun h0 => (by rw [hr] at h0; cases h0), fun i hi => ?_⟩
  rw [hr, List.mem_singleton] at hi
  subst hi
  rw [show ops.size - (i + 1) = f by omega] at h
  rw [firstK_next]
  unfold wpOp
  simp only [ho, Region.wanted, hg, if_true]
  exact .inl h
theorem TailAt.done {n : Nat} {a : Act} {w : World} (hn : ops.size = n) (h : Q .normal a w) : TailAt P ops Q n a w := by
  unfold TailAt
  rw [hn, Nat.sub_self]
  refine ⟨?_, h⟩
  rw [List.eq_nil_iff_forall_not_mem]
  intro j hj
  obtain ⟨hu, o, ho, _⟩ := mem_ready.1 hj
  have hlt : j < ops.size := (Array.getElem?_eq_some_iff.1 ho).1
  rw [firstK_done j (by omega)] at hu
  cases hu

/-- **A region that draws its order, in the order of the text.** -/
theorem wp_region_det {id : Nat} {a : Act} {w : World} (S : World → Prop) (cut : Nat) (hm : P.follows .mixedOrders = true) (hok : detOK ops cut = true) (hS : S w.drew) (h : Hid (detOK ops cut = true) → DetAt P ops Q S cut 0 a) : (Code.region id ops true).wp P Q a w := by
  refine wp_region_any hm ?_
  have h1 := wpDet.any _ _ _ (h (Lib.hid hok)) _ hS
  rw [Nat.sub_zero, firstK_zero] at h1
  exact h1

/-- what an operation leaves -/
def Left (S : World → Prop) (a : Act) (d : Nat) (v : Value) (a' : Act) (w' : World) : Prop := (a'.tmps.toList.drop d).head? = some v ∧ S w' ∧ a'.defers = a.defers
def LeftNone (S : World → Prop) (a : Act) (a' : Act) (w' : World) : Prop := S w' ∧ a'.defers = a.defers

theorem runs_wp {o : Oper} {v : Value} {a : Act} {d : Nat} (hd : o.dst = some d) (hsz : Nat.blt d a.tmps.size = true) (h : ∀ w, S w → o.wp P a w (Left S a d v) fun _ _ _ => False) : RunsS P S (execOp a.eval o) v := by
  have hsz : d < a.tmps.size := by simpa [Nat.blt_eq] using hsz
  intro w hS
  have h := h w hS
  unfold Oper.wp at h
  have hput : ∀ (x y : Value), ((a.put o.dst x).tmps.toList.drop d).head? = some y → x = y := fun x y h => by
    rw [hd, List.head?_drop] at h; simpa [Act.put, hsz] using h
  generalize (execOp a.eval o).run P w = r at *
  cases r with
  | ok n w' =>
    cases n <;> simp only [Oper.upon] at h ⊢
    case value u => exact ⟨hput _ _ h.1, h.2.1⟩
    case skip => exact ⟨(hput _ _ h.1).symm, h.2.1⟩
    case enter f args =>
      refine Calls.mono h fun e w'' he => ?_
      cases e with
      | returned u => simp only at he; obtain ⟨h1, h2, _⟩ := he; exact ⟨by rw [hput _ _ h1], h2⟩
      | panicked c => exact he.elim
      | outgrown => obtain ⟨_, _, h0⟩ := he; exact h0.elim
    case row row args => exact Rows.mono h fun u w'' he => ⟨hput _ _ he.1, he.2.1⟩
    case defer dd =>
      obtain ⟨_, _, h3⟩ := h
      rw [hd] at h3
      simp [Act.put] at h3
  | halt x w' => cases x <;> simp only [Oper.upon] at h

theorem yields_wp {o : Oper} {v : Value} {a : Act} (hg : o.guard = none) {d : Nat} (hd : o.dst = some d) (hsz : Nat.blt d a.tmps.size = true) (h : ∀ w, S w → o.wp P a w (Left S a d v) fun _ _ _ => False) : YieldsS P ops S o v a :=
  .inl ⟨by simp [Region.wanted, hg], runs_wp hd hsz h⟩
theorem yields_wp_if {o : Oper} {v : Value} {a : Act} (hg : Region.wanted o (yielded ops a.tmps) = true) {d : Nat} (hd : o.dst = some d) (hsz : Nat.blt d a.tmps.size = true) (h : ∀ w, S w → o.wp P a w (Left S a d v) fun _ _ _ => False) : YieldsS P ops S o v a :=
  .inl ⟨hg, runs_wp hd hsz h⟩
theorem yields_not {o : Oper} {a : Act} (hg : Region.wanted o (yielded ops a.tmps) = false) : YieldsS P ops S o undef a := .inr ⟨hg, rfl⟩
theorem yields_skip {o : Oper} {a : Act} (hg : o.guard = none) (h : ∀ w, S w → ∃ w', (execOp a.eval o).run P w = .ok .skip w' ∧ S w') : YieldsS P ops S o undef a := by
  refine .inl ⟨by simp [Region.wanted, hg], fun w hS => ?_⟩
  obtain ⟨w', hr, h'⟩ := h w hS
  rw [hr]
  exact ⟨rfl, h'⟩
/-- operation k, written out -/
def nth (ops : Array Oper) (k : Nat) : Option Oper := (ops.toList.drop k).head?
theorem nth_eq {k : Nat} {o : Oper} (h : nth ops k = some o) : ops[k]? = some o := by
  unfold nth at h
  rw [List.head?_drop] at h
  simpa using h

/-- what the next operations find -/
structure Step (ops : Array Oper) (cut k k' d : Nat) (o : Oper) (s t : List Value) (v : Value) : Prop where
  ok : Hid (detOK ops cut = true)
  op : nth ops k = some o
  cut : Nat.blt k cut = true
  dst : o.dst = some d
  size : Nat.blt d s.length = true
  next : Nat.succ k = k'
  frame : s.set d v = t
theorem Step.det {cut k k' d : Nat} {o : Oper} {s t : List Value} {v : Value} {ds : List Deferred} (h : Step ops cut k k' d o s t v) (hy : YieldsS P ops S o v { tmps := s.toArray, defers := ds })
    (hn : DetAt P ops Q S cut k' { tmps := t.toArray, defers := ds }) : DetAt P ops Q S cut k { tmps := s.toArray, defers := ds } := by
  obtain ⟨h1, h2, h3, h4, h5, rfl, rfl⟩ := h
  refine DetAt.step h1 (nth_eq h2) (by simpa [Nat.blt_eq] using h3) hy ?_
  rw [h4]
  simpa [Act.put] using hn

/-- an operation that yields a value -/
theorem DetAt.op {cut k k' d : Nat} {s t : List Value} {ds : List Deferred} {v : Value} {o : Oper} (hok : Hid (detOK ops cut = true)) (ho : nth ops k = some o) (hk : Nat.blt k cut = true) (hg : o.guard = none) (hd : o.dst = some d) (hsz : Nat.blt d s.length = true)
    (hrun : ∀ w, S w → (execOp (Act.eval { tmps := s.toArray, defers := ds }) o).run P w = .ok (.value v) w) (hk' : Nat.succ k = k') (ht : s.set d v = t) (h : DetAt P ops Q S cut k' { tmps := t.toArray, defers := ds }) : DetAt P ops Q S cut k { tmps := s.toArray, defers := ds } :=
  Step.det ⟨hok, ho, hk, hd, hsz, hk', ht⟩ (.inl ⟨by simp [Region.wanted, hg], fun w hS => by rw [hrun w hS]; exact ⟨rfl, hS⟩⟩) h
theorem DetAt.op_if {cut k k' d : Nat} {s t : List Value} {ds : List Deferred} {v : Value} {o : Oper} (hok : Hid (detOK ops cut = true)) (ho : nth ops k = some o) (hk : Nat.blt k cut = true) (hg : Region.wanted o (yielded ops s.toArray) = true) (hd : o.dst = some d) (hsz : Nat.blt d s.length = true)
    (hrun : ∀ w, S w → (execOp (Act.eval { tmps := s.toArray, defers := ds }) o).run P w = .ok (.value v) w) (hk' : Nat.succ k = k') (ht : s.set d v = t) (h : DetAt P ops Q S cut k' { tmps := t.toArray, defers := ds }) : DetAt P ops Q S cut k { tmps := s.toArray, defers := ds } :=
  Step.det ⟨hok, ho, hk, hd, hsz, hk', ht⟩ (.inl ⟨hg, fun w hS => by rw [hrun w hS]; exact ⟨rfl, hS⟩⟩) h
/-- an operation whose guard says no -/
theorem DetAt.op_not {cut k k' d : Nat} {s t : List Value} {ds : List Deferred} {o : Oper} (hok : Hid (detOK ops cut = true)) (ho : nth ops k = some o) (hk : Nat.blt k cut = true) (hg : Region.wanted o (yielded ops s.toArray) = false) (hd : o.dst = some d) (hsz : Nat.blt d s.length = true)
    (hk' : Nat.succ k = k') (ht : s.set d undef = t) (h : DetAt P ops Q S cut k' { tmps := t.toArray, defers := ds }) : DetAt P ops Q S cut k { tmps := s.toArray, defers := ds } :=
  Step.det ⟨hok, ho, hk, hd, hsz, hk', ht⟩ (.inr ⟨hg, rfl⟩) h
/-- a call -/
theorem DetAt.call {cut k k' d : Nat} {s t : List Value} {ds : List Deferred} {v : Value} {o : Oper} {f : FuncId} {args : Array Value} (hok : Hid (detOK ops cut = true)) (ho : nth ops k = some o) (hk : Nat.blt k cut = true) (hg : o.guard = none) (hd : o.dst = some d) (hsz : Nat.blt d s.length = true)
    (hrun : ∀ w, S w → (execOp (Act.eval { tmps := s.toArray, defers := ds }) o).run P w = .ok (.enter f args) w) (hc : ∀ w, S w → Calls P f args w fun e w' => e = .returned v ∧ S w') (hk' : Nat.succ k = k') (ht : s.set d v = t) (h : DetAt P ops Q S cut k' { tmps := t.toArray, defers := ds }) : DetAt P ops Q S cut k { tmps := s.toArray, defers := ds } :=
  Step.det ⟨hok, ho, hk, hd, hsz, hk', ht⟩ (.inl ⟨by simp [Region.wanted, hg], fun w hS => by rw [hrun w hS]; exact hc w hS⟩) h
theorem DetAt.call_if {cut k k' d : Nat} {s t : List Value} {ds : List Deferred} {v : Value} {o : Oper} {f : FuncId} {args : Array Value} (hok : Hid (detOK ops cut = true)) (ho : nth ops k = some o) (hk : Nat.blt k cut = true) (hg : Region.wanted o (yielded ops s.toArray) = true) (hd : o.dst = some d) (hsz : Nat.blt d s.length = true)
    (hrun : ∀ w, S w → (execOp (Act.eval { tmps := s.toArray, defers := ds }) o).run P w = .ok (.enter f args) w) (hc : ∀ w, S w → Calls P f args w fun e w' => e = .returned v ∧ S w') (hk' : Nat.succ k = k') (ht : s.set d v = t) (h : DetAt P ops Q S cut k' { tmps := t.toArray, defers := ds }) : DetAt P ops Q S cut k { tmps := s.toArray, defers := ds } :=
  Step.det ⟨hok, ho, hk, hd, hsz, hk', ht⟩ (.inl ⟨hg, fun w hS => by rw [hrun w hS]; exact hc w hS⟩) h
/-- an operation that is walked (an allocation that is left alone, ..) -/
theorem DetAt.wp {cut k k' d : Nat} {s t : List Value} {ds : List Deferred} {v : Value} {o : Oper} (hok : Hid (detOK ops cut = true)) (ho : nth ops k = some o) (hk : Nat.blt k cut = true) (hg : o.guard = none) (hd : o.dst = some d) (hsz : Nat.blt d s.length = true)
    (hwp : ∀ w, S w → o.wp P { tmps := s.toArray, defers := ds } w (Left S { tmps := s.toArray, defers := ds } d v) fun _ _ _ => False) (hk' : Nat.succ k = k') (ht : s.set d v = t) (h : DetAt P ops Q S cut k' { tmps := t.toArray, defers := ds }) : DetAt P ops Q S cut k { tmps := s.toArray, defers := ds } :=
  Step.det ⟨hok, ho, hk, hd, hsz, hk', ht⟩ (yields_wp hg hd (by simpa using hsz) hwp) h
theorem TailAt.op {k k' : Nat} {a : Act} {w : World} {o : Oper} (ho : nth ops k = some o) (hr : Region.ready .any ops (firstK ops.size k) = [k]) (hg : o.guard = none) (hk' : Nat.succ k = k') (h : o.wp P a w (fun a' w' => TailAt P ops Q k' a' w') Q) : TailAt P ops Q k a w := by
  subst hk'
  exact TailAt.step (nth_eq ho) hr hg h
end
theorem rd {w W : World} {p : Addr} {v : Value} (hB : Below w.heap.size w W) (h : w.cell? p = some v) : W.cell? p = some v := (hB.cell (World.block_lt_of_cell? w _ h)).trans h
end Go.Proofs.Ytnjifmoclfgegaa
