/- As Ord, but that one block may be written at any time. A region that draws its order, walked once, in an order of one's own: an operation that gives one value in every world that has grown out of the one at hand is taken first; the others come one at a time. -/
import Derived.Orders
import Derived.OrdersIn
import Derived.RangeFuncCalls
import Derived.WalkKit
import Derived.Below
import Derived.Lib.Hide
namespace Go.Proofs.Ytmlcjiabnmdfeaa.OrdX
set_option linter.unusedVariables false
set_option linter.unusedSectionVars false
open Go Go.RowKit

/-- what has grown: all that was there is as it was -/
abbrev Ext (w w' : World) : Prop := Below w.heap.size w w'
theorem Ext.tr {a b c : World} (h : Ext a b) (k : Ext b c) : Ext a c := h.trans (k.mono h.size)
theorem ext_drew (w : World) : Ext w w.drew := ⟨rfl, rfl, rfl, Nat.le_refl _, fun _ _ => rfl⟩
/-- a block that may be written at any time -/
class Off where
  row : Option Nat
abbrev Gxt [Off] (w w' : World) : Prop := w.grownBy w' Off.row
theorem Gxt.tr [Off] {a b c : World} (h : Gxt a b) (k : Gxt b c) : Gxt a c := ⟨k.os.trans h.os, k.tape.trans h.tape, k.output.trans h.output, Nat.le_trans h.size k.size, fun i hi hn => (k.block i (Nat.lt_of_lt_of_le hi h.size) hn).trans (h.block i hi hn)⟩
theorem Ext.g [Off] {w w' : World} (h : Ext w w') : Gxt w w' := ⟨h.os, h.tape, h.output, h.size, fun i hi _ => h.block i hi⟩
theorem gxt_refl [Off] (w : World) : Gxt w w := ⟨rfl, rfl, rfl, Nat.le_refl _, fun _ _ _ => rfl⟩
theorem rd [Off] {w W : World} {p : Addr} {v : Value} (hB : Gxt w W) (hp : some p.block ≠ Off.row) (h : w.cell? p = some v) : W.cell? p = some v := hB.cell h hp

section
variable [Off] {P : Program} {ops : Array Oper} {Q : Exit → Act → World → Prop} {md : Region.Mode}

/-- one operation, in a region -/
def opW (P : Program) (ops : Array Oper) (Q : Exit → Act → World → Prop) (i : Nat) (K : Act → World → Prop) (a : Act) (w : World) : Prop :=
  match ops[i]? with
  | none => K a w
  | some o => if Region.wanted o (yielded ops a.tmps) then o.wp P a w K Q else K (a.put o.dst undef) w
theorem opW.op {i : Nat} {K : Act → World → Prop} {a : Act} {w : World} (h : opW P ops Q i K a w) : wpOp P ops Q i K a w := by
  unfold opW at h
  unfold wpOp
  cases ho : ops[i]? with
  | none => simp only [ho] at h; exact h
  | some o =>
    simp only [ho] at h
    dsimp only
    split
    · rename_i hw; simp only [hw, if_true] at h; exact .inl h
    · rename_i hw; simp only [hw] at h; exact h
theorem opW_mono {i : Nat} {a : Act} {w : World} {K K' : Act → World → Prop} (h : ∀ a w, K a w → K' a w) (hh : opW P ops Q i K a w) : opW P ops Q i K' a w := by
  unfold opW at *
  split
  · rename_i ho; simp only [ho] at hh; exact h _ _ hh
  · rename_i o ho
    simp only [ho] at hh
    split
    · rename_i hw; simp only [hw, if_true] at hh; exact Oper.wp_mono h hh
    · rename_i hw; simp only [hw] at hh; exact h _ _ hh
theorem rowsIn_round {l n : Nat} {row : String} {args : Array Value} {w : World} {R : Value → World → Prop} (h : Rows P row args w R) : RowsIn (Fence.wide.inRound l) n P row args w R := fun c cs _ =>
  let ⟨v, w', r, s⟩ := h c cs
  ⟨v, w', r, stepsIn_wide.2 s⟩
/-- .. in a round of a range over a function -/
theorem wpIn_of_wp {l n : Nat} {o : Oper} {a : Act} {w : World} {K : Act → World → Prop} (hd : ∀ c, o.op ≠ .defer c) (h : o.wp P a w K Q) : o.wpIn (Fence.wide.inRound l) n P a w K Q := by
  unfold Oper.wp at h
  unfold Oper.wpIn
  refine ⟨fun f _ => trivial, ?_⟩
  rw [show (Fence.wide.inRound l).round = some l from rfl, Oper.semAt_some l a.eval o hd]
  generalize (execOp a.eval o).run P w = r at *
  cases r with
  | ok x w' =>
    cases x <;> simp only [Oper.upon, Oper.uponIn] at h ⊢
    case value u => exact h
    case skip => exact h
    case defer d => exact h
    case enter f args => exact ⟨fun h0 => by simp [Fence.wide] at h0, (callsIn_wide.2 h).inRound l⟩
    case row row args => exact ⟨fun h0 => by simp [Fence.wide] at h0, rowsIn_round h⟩
  | halt x w' => cases x <;> simp only [Oper.upon, Oper.uponIn] at h ⊢; exact h

/-- In every world that has grown out of w the operation's work ends in the value v, and the world has grown. -/
def RunsE (P : Program) (w : World) (m : Sem Next) (v : Value) : Prop :=
  ∀ w', Gxt w w' → match m.run P w' with
    | .ok (.value x) w'' => x = v ∧ Ext w' w''
    | .ok .skip w'' => v = undef ∧ Ext w' w''
    | .ok (.enter f args) w'' => Calls P f args w'' fun e w3 => e = .returned v ∧ Ext w' w3
    | _ => False
def YieldsE (P : Program) (ops : Array Oper) (w : World) (o : Oper) (v : Value) (a : Act) : Prop :=
  (Region.wanted o (yielded ops a.tmps) = true ∧ RunsE P w (execOp a.eval o) v) ∨ (Region.wanted o (yielded ops a.tmps) = false ∧ v = undef)
theorem YieldsE.ext {o : Oper} {v : Value} {a : Act} {w w' : World} (h : YieldsE P ops w o v a) (hw : Gxt w w') : YieldsE P ops w' o v a :=
  h.imp (fun ⟨h1, h2⟩ => ⟨h1, fun w2 h3 => h2 w2 (hw.tr h3)⟩) id
theorem YieldsE.opW {i : Nat} {o : Oper} {v : Value} {a : Act} {w : World} (hi : ops[i]? = some o) (hy : YieldsE P ops w o v a)
    {K : Act → World → Prop} (h : ∀ w', Ext w w' → K (a.put o.dst v) w') : opW P ops Q i K a w := by
  unfold Go.Proofs.Ytmlcjiabnmdfeaa.OrdX.opW
  simp only [hi]
  rcases hy with ⟨hw, hv⟩ | ⟨hw, rfl⟩
  · have hv := hv w (gxt_refl _)
    simp only [hw, if_true]
    unfold Oper.wp
    generalize (execOp a.eval o).run P w = r at *
    cases r with
    | ok n w' =>
      cases n <;> simp only [Oper.upon] at hv ⊢
      case value u => obtain ⟨rfl, h'⟩ := hv; exact h _ h'
      case skip => obtain ⟨rfl, h'⟩ := hv; exact h _ h'
      case enter f args => exact Calls.mono hv fun e w'' he => by obtain ⟨rfl, h'⟩ := he; exact h _ h'
    | halt x w' => cases x <;> simp only at hv
  · simp only [hw, Bool.false_eq_true, if_false]; exact h _ (Below.refl _ _)
theorem YieldsE.of_same {o : Oper} {v : Value} {a a' : Act} {w : World} (hy : YieldsE P ops w o v a) (he : execOp a'.eval o = execOp a.eval o)
    (hw : Region.wanted o (yielded ops a'.tmps) = Region.wanted o (yielded ops a.tmps)) : YieldsE P ops w o v a' := by
  unfold YieldsE at *
  rw [he, hw]
  exact hy

/-- One operation, apart from 'oi': whether 'oi''s value is already there makes no difference to it. -/
theorem opW_putY {j : Nat} {oi oj : Oper} {v : Value} {Y : Act → Prop} (hY : ∀ a a' : Act, execOp a'.eval oi = execOp a.eval oi → Region.wanted oi (yielded ops a'.tmps) = Region.wanted oi (yielded ops a.tmps) → Y a → Y a') (hj : ops[j]? = some oj) (hap : oi.apart ops oj = true)
    (hsi : ∀ cs b, oi.op ≠ .select cs b) (hsj : ∀ cs b, oj.op ≠ .select cs b)
    (hQ : ∀ c a w, Q (.panic c) (a.put oi.dst v) w → Q (.panic c) a w) {K : Act → World → Prop} {a : Act} {w : World}
    (hy : Y a) (h : opW P ops Q j K (a.put oi.dst v) w) :
    opW P ops Q j (fun a' w' => Y a' ∧ K (a'.put oi.dst v) w') a w := by
  obtain ⟨h1, h2, h3⟩ := Oper.apart_spec hap
  have keep : ∀ (a : Act), Y a → ∀ u, Y (a.put oj.dst u) := fun a hy u =>
    hY _ _ (execOp_put oi hsi a oj.dst u h3) (wanted_put oi a oj.dst u h3) hy
  have keepD : ∀ d, Y { a with defers := d :: a.defers } := fun d => hY a _ rfl rfl hy
  unfold Go.Proofs.Ytmlcjiabnmdfeaa.OrdX.opW at *
  simp only [hj] at *
  rw [wanted_put oj a oi.dst v h1] at h
  split
  · rename_i hw
    simp only [hw, if_true] at h
    unfold Oper.wp at *
    rw [execOp_put oj hsj a oi.dst v h1] at h
    generalize (execOp a.eval oj).run P w = r at *
    cases r with
    | ok n w' =>
      cases n <;> simp only [Oper.upon] at h ⊢
      case value u => exact ⟨keep a hy u, by rw [← Act.put_comm a v u h2]; exact h⟩
      case skip => exact ⟨keep a hy _, by rw [← Act.put_comm a v undef h2]; exact h⟩
      case defer d =>
        refine ⟨keep _ (keepD d) _, ?_⟩
        rw [← Act.put_comm _ v undef h2, ← Act.put_defers]
        exact h
      case enter f args =>
        refine Calls.mono h fun e w'' he => ?_
        cases e with
        | returned u => exact ⟨keep a hy u, by rw [← Act.put_comm a v u h2]; exact he⟩
        | panicked c => exact hQ _ _ _ he
        | outgrown => exact he
      case row row args => exact Rows.mono h fun u w'' he => ⟨keep a hy u, by rw [← Act.put_comm a v u h2]; exact he⟩
    | halt x w' =>
      cases x <;> simp only [Oper.upon] at h ⊢
      case panic u => exact hQ _ _ _ h
  · rename_i hw
    simp only [hw] at h
    exact ⟨keep a hy _, by rw [← Act.put_comm a v undef h2]; exact h⟩

theorem opW_put {j : Nat} {oi oj : Oper} {v : Value} {w0 : World} (hj : ops[j]? = some oj) (hap : oi.apart ops oj = true)
    (hsi : ∀ cs b, oi.op ≠ .select cs b) (hsj : ∀ cs b, oj.op ≠ .select cs b)
    (hQ : ∀ c a w, Q (.panic c) (a.put oi.dst v) w → Q (.panic c) a w) {K : Act → World → Prop} {a : Act} {w : World}
    (hy : YieldsE P ops w0 oi v a) (h : opW P ops Q j K (a.put oi.dst v) w) :
    opW P ops Q j (fun a' w' => YieldsE P ops w0 oi v a' ∧ K (a'.put oi.dst v) w') a w :=
  opW_putY (fun _ _ h1 h2 hy => YieldsE.of_same hy h1 h2) hj hap hsi hsj hQ hy h
/-- the operation yields the value v, whatever the world -/
def YieldsA (P : Program) (ops : Array Oper) (o : Oper) (v : Value) (a : Act) : Prop :=
  (Region.wanted o (yielded ops a.tmps) = true ∧ ∀ w, (execOp a.eval o).run P w = .ok (.value v) w) ∨ (Region.wanted o (yielded ops a.tmps) = false ∧ v = undef)
theorem YieldsA.at {o : Oper} {v : Value} {a : Act} (h : YieldsA P ops o v a) (w : World) : YieldsE P ops w o v a :=
  h.imp (fun h => ⟨h.1, fun w' _ => by rw [h.2 w']; exact ⟨rfl, Below.refl _ _⟩⟩) id
theorem YieldsA.of_same {o : Oper} {v : Value} {a a' : Act} (hy : YieldsA P ops o v a) (he : execOp a'.eval o = execOp a.eval o)
    (hw : Region.wanted o (yielded ops a'.tmps) = Region.wanted o (yielded ops a.tmps)) : YieldsA P ops o v a' := by
  unfold YieldsA at *
  rw [he, hw]
  exact hy

/-- every operation that has been done had those that it waits for done -/
def Shut (md : Region.Mode) (ops : Array Oper) (listed : Array Bool) : Prop :=
  ∀ (i : Nat) (o : Oper), ops[i]? = some o → listed.getD i false = true → ∀ e ∈ o.after, Region.binds md e = true → listed.getD e.on false = true
theorem Shut.next {listed : Array Bool} {j : Nat} (h : Shut md ops listed) (hj : j ∈ Region.ready md ops listed) : Shut md ops (listed.setIfInBounds j true) := by
  intro i o ho hl e he hb
  by_cases hij : j = i
  · subst hij
    obtain ⟨_, o', ho', hall⟩ := mem_ready.1 hj
    rw [ho] at ho'; cases ho'
    exact getD_set_true (hall e he hb)
  · rw [getD_set_ne false hij] at hl
    exact getD_set_true (h i o ho hl e he hb)
/-- the operations that one waits for -/
def binding (o : Oper) : List Nat := (o.after.toList.filter fun e => Region.binds .any e).map (·.on)
theorem mem_binding {o : Oper} {i : Nat} : i ∈ binding o ↔ ∃ e ∈ o.after, Region.binds .any e = true ∧ e.on = i := by
  unfold binding
  simp only [List.mem_map, List.mem_filter, Array.mem_toList_iff]
  exact ⟨fun ⟨e, ⟨h1, h2⟩, h3⟩ => ⟨e, h1, h2, h3⟩, fun ⟨e, h1, h2, h3⟩ => ⟨e, ⟨h1, h2⟩, h3⟩⟩
def bindOf (ops : Array Oper) (k : Nat) : List Nat := (((ops.toList.drop k).head?).map binding).getD []
def memN (x : Nat) : List Nat → Bool
  | [] => false
  | y :: l => Nat.beq x y || memN x l
theorem memN_iff {x : Nat} : ∀ {l : List Nat}, memN x l = true ↔ x ∈ l
  | [] => by simp [memN]
  | y :: l => by
    rw [memN, Bool.or_eq_true, memN_iff, List.mem_cons, Nat.beq_eq]
theorem bindOf_some {ops : Array Oper} {k i : Nat} (h : i ∈ bindOf ops k) : ∃ o, ops[k]? = some o ∧ i ∈ binding o := by
  unfold bindOf at h
  rw [List.head?_drop] at h
  cases ho : ops[k]? with
  | none => rw [← Array.getElem?_toList] at ho; rw [ho] at h; simp at h
  | some o => rw [← Array.getElem?_toList] at ho; rw [ho] at h; exact ⟨o, rfl, by simpa using h⟩
/-- it only takes a part out of a value -/
def floats (o : Oper) : Bool := match o.op with | .extract .. => true | _ => false
theorem floats_all {o : Oper} {v : Value} {a : Act} {w : World} (hf : floats o = true) (h : YieldsE P ops w o v a) : YieldsA P ops o v a := by
  rcases h with ⟨h1, h2⟩ | h
  · refine .inl ⟨h1, ?_⟩
    have h3 := h2 w (gxt_refl _)
    unfold floats at hf
    split at hf
    · rename_i x i ho
      unfold execOp at h3 ⊢
      simp only [ho] at h3 ⊢
      intro w'
      generalize a.eval x = u at h3 ⊢
      unfold Instr.extract at h3 ⊢
      cases u <;> simp only [Sem.run_bind, Sem.run_pure] at h3 ⊢
      case tuple vs =>
        cases hv : vs[i]? with
        | none => simp [hv, stuck] at h3
        | some y =>
          simp [hv] at h3 ⊢
          exact h3.1
      all_goals exact absurd h3 (by simp [stuck])
    · cases hf
  · exact .inr h
def floatAt (ops : Array Oper) (k : Nat) : Bool := (((ops.toList.drop k).head?).map floats).getD false
/-- what stands at the cut waits for all before it (but for what floats), what stands behind it waits for it -/
def tailed (ops : Array Oper) (cut : Nat) : Bool :=
  Nat.beq cut ops.size || ((List.range cut).all (fun i => floatAt ops i || (List.range (cut + 1)).any fun j => Nat.blt i j && memN i (bindOf ops j) && (!floatAt ops j || Nat.beq j cut)) &&
    (List.range ops.size).all fun k => Nat.ble k cut || (List.range k).any fun j => Nat.ble cut j && memN j (bindOf ops k))
theorem tailed_spec {ops : Array Oper} {cut : Nat} (h : tailed ops cut = true) {listed : Array Bool} (hs : Shut .any ops listed) : ∀ (k : Nat) (o : Oper), ops[k]? = some o → cut ≤ k → (∀ i ∈ binding o, listed.getD i false = true) → ∀ i, i < cut → floatAt ops i = false → listed.getD i false = true := by
  intro k o ho hck hb
  have hklt : k < ops.size := (Array.getElem?_eq_some_iff.1 ho).1
  unfold tailed at h
  rw [Bool.or_eq_true, Bool.and_eq_true] at h
  rcases h with h | ⟨h1, h2⟩
  · rw [Nat.beq_eq] at h; omega
  have hcut : ∀ i ∈ bindOf ops cut, listed.getD i false = true := by
    have key : ∀ (k : Nat) (o : Oper), ops[k]? = some o → cut ≤ k → (∀ i ∈ binding o, listed.getD i false = true) → ∀ i ∈ bindOf ops cut, listed.getD i false = true := by
      intro k
      induction k using Nat.strongRecOn with
      | _ k ih =>
        intro o ho hck hb
        by_cases he : k = cut
        · subst he
          intro i hi
          obtain ⟨o', ho', hi'⟩ := bindOf_some hi
          rw [ho] at ho'; cases ho'
          exact hb i hi'
        · have h3 := (List.all_eq_true.1 h2) k (List.mem_range.2 (Array.getElem?_eq_some_iff.1 ho).1)
          rw [Bool.or_eq_true] at h3
          rcases h3 with h3 | h3
          · rw [Nat.ble_eq] at h3; omega
          · obtain ⟨j, hj, h4⟩ := List.any_eq_true.1 h3
            rw [Bool.and_eq_true, Nat.ble_eq, memN_iff] at h4
            obtain ⟨o', ho', hj'⟩ := bindOf_some h4.2
            rw [ho] at ho'; cases ho'
            have hl := hb j hj'
            have hjlt := List.mem_range.1 hj
            have hjs : j < ops.size := by have := (Array.getElem?_eq_some_iff.1 ho).1; omega
            refine ih j hjlt ops[j] (Array.getElem?_eq_getElem hjs) h4.1 fun i hi => ?_
            obtain ⟨e, he1, he2, rfl⟩ := mem_binding.1 hi
            exact hs j _ (Array.getElem?_eq_getElem hjs) hl e he1 he2
    exact key k o ho hck hb
  have down : ∀ (d i : Nat), i < cut → floatAt ops i = false → cut - i = d → listed.getD i false = true := by
    intro d
    induction d using Nat.strongRecOn with
    | _ d ih =>
      intro i hi hfl hd
      have h3 := (List.all_eq_true.1 h1) i (List.mem_range.2 hi)
      rw [hfl, Bool.false_or] at h3
      obtain ⟨j, hj, h4⟩ := List.any_eq_true.1 h3
      rw [Bool.and_eq_true, Bool.and_eq_true, Nat.blt_eq, memN_iff] at h4
      obtain ⟨h4, h4f⟩ := h4
      have hjc := List.mem_range.1 hj
      by_cases hjc' : j = cut
      · subst hjc'; exact hcut i h4.2
      · obtain ⟨o', ho', hi'⟩ := bindOf_some h4.2
        have hjf : floatAt ops j = false := by
          rw [Bool.or_eq_true, Nat.beq_eq] at h4f
          rcases h4f with h | h
          · simpa using h
          · exact absurd h hjc'
        have hl := ih (cut - j) (by omega) j (by omega) hjf rfl
        obtain ⟨e, he1, he2, rfl⟩ := mem_binding.1 hi'
        exact hs j o' ho' hl e he1 he2
  exact fun i hi hfl => down _ i hi hfl rfl

/-- Whatever order is picked from here on, from every world that has grown out of w; from 'cut' on an operation may turn what was there. -/
def wpE (P : Program) (ops : Array Oper) (Q : Exit → Act → World → Prop) (cut : Nat) : Nat → Array Bool → Act → World → Prop
  | 0, listed, a, w => Region.ready .any ops listed = [] ∧ ∀ w', Ext w w' → Q .normal a w'
  | fuel + 1, listed, a, w => ∀ w', Ext w w' → (Region.ready .any ops listed = [] → Q .normal a w') ∧
    ∀ i ∈ Region.ready .any ops listed, opW P ops Q i (fun a' w'' => (cut ≤ i ∨ Gxt w' w'') ∧ wpE P ops Q cut fuel (listed.setIfInBounds i true) a' w'') a w'
theorem wpE.ext {cut : Nat} {w w' : World} (hw : Ext w w') : ∀ {fuel : Nat} {listed : Array Bool} {a : Act}, wpE P ops Q cut fuel listed a w → wpE P ops Q cut fuel listed a w'
  | 0, _, _, h => ⟨h.1, fun w2 h2 => h.2 w2 (hw.tr h2)⟩
  | _ + 1, _, _, h => fun w2 h2 => h w2 (hw.tr h2)
theorem wpE.any {cut : Nat} : ∀ (fuel : Nat) (listed : Array Bool) (a : Act) (w : World), wpE P ops Q cut fuel listed a w → wpAny P .any ops Q fuel listed a w
  | 0, _, _, _, h => ⟨h.1, h.2 _ (Below.refl _ _)⟩
  | fuel + 1, listed, a, w, h => ⟨(h w (Below.refl _ _)).1, fun i hi => (opW_mono (fun a' w' h' => wpE.any fuel _ _ _ h'.2) ((h w (Below.refl _ _)).2 i hi)).op⟩
theorem opW.opIn {l n : Nat} {i : Nat} {K : Act → World → Prop} {a : Act} {w : World} (hnd : ∀ (i : Nat) (o : Oper), ops[i]? = some o → ∀ c, o.op ≠ .defer c) (h : opW P ops Q i K a w) : wpOpIn (Fence.wide.inRound l) n P ops Q i K a w := by
  unfold Go.Proofs.Ytmlcjiabnmdfeaa.OrdX.opW at h
  unfold wpOpIn
  cases ho : ops[i]? with
  | none => simp only [ho] at h; exact h
  | some o =>
    simp only [ho] at h
    dsimp only
    split
    · rename_i hw; simp only [hw, if_true] at h; exact wpIn_of_wp (hnd i o ho) h
    · rename_i hw; simp only [hw] at h; exact ⟨fun f _ => trivial, h⟩

theorem wpE_first {cut : Nat} (ht : tailed ops cut = true) {i : Nat} {oi : Oper} {v : Value} (hi : ops[i]? = some oi) (hic : i < cut) (hfl : floatAt ops i = false) (hsel : ∀ (j : Nat) (o : Oper) cs b, ops[j]? = some o → o.op ≠ .select cs b)
    (hQ : ∀ c a w, Q (.panic c) (a.put oi.dst v) w → Q (.panic c) a w) :
    ∀ (fuel : Nat) (listed : Array Bool) (a : Act) (w : World),
      (∀ j oj, ops[j]? = some oj → j ≠ i → listed.getD j true = false → (∀ e ∈ oj.after, Region.binds .any e = true → e.on ≠ i) → oi.apart ops oj = true) →
      Shut .any ops listed → i ∈ Region.ready .any ops listed → YieldsE P ops w oi v a →
      wpE P ops Q cut fuel (listed.setIfInBounds i true) (a.put oi.dst v) w → wpE P ops Q cut (fuel + 1) listed a w := by
  intro fuel
  induction fuel with
  | zero =>
    intro listed a w _ _ hr hy H w' hw'
    refine ⟨fun h => (by rw [h] at hr; cases hr), fun j hj => ?_⟩
    by_cases hji : j = i
    · subst hji; exact (hy.ext hw'.g).opW hi fun w2 h2 => ⟨.inr h2.g, H.ext (hw'.tr h2)⟩
    · have := ready_mono hj hji
      rw [H.1] at this
      cases this
  | succ fuel ih =>
    intro listed a w hfree hsh hr hy H w' hw'
    refine ⟨fun h => (by rw [h] at hr; cases hr), fun j hj => ?_⟩
    by_cases hji : j = i
    · subst hji; exact (hy.ext hw'.g).opW hi fun w2 h2 => ⟨.inr h2.g, H.ext (hw'.tr h2)⟩
    · obtain ⟨hjun, oj, hoj, hall⟩ := mem_ready.1 hj
      have hiun : listed.getD i true = false := (mem_ready.1 hr).1
      have hnl : ∀ k : Nat, listed.getD k true = false → listed.getD k false = true → False := fun k h1 h2 => by
        rcases Nat.lt_or_ge k listed.size with h' | h'
        · simp [h'] at h1 h2; rw [h1] at h2; cases h2
        · simp [Array.getElem?_eq_none h'] at h1
      have hjc : ¬ cut ≤ j := fun hc => hnl i hiun (tailed_spec ht hsh j oj hoj hc (fun x hx => by obtain ⟨e, he1, he2, rfl⟩ := mem_binding.1 hx; exact hall e he1 he2) i hic hfl)
      have hnot : ∀ e ∈ oj.after, Region.binds .any e = true → e.on ≠ i := fun e he hb heq => by
        have h1 := hall e he hb
        rw [heq] at h1
        exact hnl i hiun h1
      have h1 := (H w' hw').2 j (ready_mono hj hji)
      have h2 := opW_put hoj (hfree j oj hoj hji hjun hnot) (fun cs b => hsel i oi cs b hi) (fun cs b => hsel j oj cs b hoj) hQ (hy.ext hw'.g) h1
      have hfree' : ∀ k ok, ops[k]? = some ok → k ≠ i → (listed.setIfInBounds j true).getD k true = false →
          (∀ e ∈ ok.after, Region.binds .any e = true → e.on ≠ i) → oi.apart ops ok = true := fun k ok hk hki hun hno => by
        refine hfree k ok hk hki ?_ hno
        by_cases hjk : j = k
        · subst hjk; exact hjun
        · rw [getD_set_ne true hjk] at hun; exact hun
      refine opW_mono (fun a2 w2 h3 => ?_) h2
      have hx : Gxt w' w2 := h3.2.1.resolve_left hjc
      refine ⟨.inr hx, ih (listed.setIfInBounds j true) a2 w2 hfree' (hsh.next hj) (ready_mono hr (Ne.symm hji)) (h3.1.ext hx) ?_⟩
      rw [Array.setIfInBounds_comm _ _ hji]
      exact h3.2.2

theorem wpE_firstA {cut : Nat} {i : Nat} {oi : Oper} {v : Value} (hi : ops[i]? = some oi) (hsel : ∀ (j : Nat) (o : Oper) cs b, ops[j]? = some o → o.op ≠ .select cs b)
    (hQ : ∀ c a w, Q (.panic c) (a.put oi.dst v) w → Q (.panic c) a w) :
    ∀ (fuel : Nat) (listed : Array Bool) (a : Act) (w : World),
      (∀ j oj, ops[j]? = some oj → j ≠ i → listed.getD j true = false → (∀ e ∈ oj.after, Region.binds .any e = true → e.on ≠ i) → oi.apart ops oj = true) →
      Shut .any ops listed → i ∈ Region.ready .any ops listed → YieldsA P ops oi v a →
      wpE P ops Q cut fuel (listed.setIfInBounds i true) (a.put oi.dst v) w → wpE P ops Q cut (fuel + 1) listed a w := by
  intro fuel
  induction fuel with
  | zero =>
    intro listed a w _ _ hr hy H w' hw'
    refine ⟨fun h => (by rw [h] at hr; cases hr), fun j hj => ?_⟩
    by_cases hji : j = i
    · subst hji; exact (hy.at w').opW hi fun w2 h2 => ⟨.inr h2.g, H.ext (hw'.tr h2)⟩
    · have := ready_mono hj hji
      rw [H.1] at this
      cases this
  | succ fuel ih =>
    intro listed a w hfree hsh hr hy H w' hw'
    refine ⟨fun h => (by rw [h] at hr; cases hr), fun j hj => ?_⟩
    by_cases hji : j = i
    · subst hji; exact (hy.at w').opW hi fun w2 h2 => ⟨.inr h2.g, H.ext (hw'.tr h2)⟩
    · obtain ⟨hjun, oj, hoj, hall⟩ := mem_ready.1 hj
      have hiun : listed.getD i true = false := (mem_ready.1 hr).1
      have hnl : ∀ k : Nat, listed.getD k true = false → listed.getD k false = true → False := fun k h1 h2 => by
        rcases Nat.lt_or_ge k listed.size with h' | h'
        · simp [h'] at h1 h2; rw [h1] at h2; cases h2
        · simp [Array.getElem?_eq_none h'] at h1
      have hnot : ∀ e ∈ oj.after, Region.binds .any e = true → e.on ≠ i := fun e he hb heq => by
        have h1 := hall e he hb
        rw [heq] at h1
        exact hnl i hiun h1
      have h1 := (H w' hw').2 j (ready_mono hj hji)
      have h2 := opW_putY (Y := YieldsA P ops oi v) (fun _ _ h1 h2 hy => YieldsA.of_same hy h1 h2) hoj (hfree j oj hoj hji hjun hnot) (fun cs b => hsel i oi cs b hi) (fun cs b => hsel j oj cs b hoj) hQ hy h1
      have hfree' : ∀ k ok, ops[k]? = some ok → k ≠ i → (listed.setIfInBounds j true).getD k true = false →
          (∀ e ∈ ok.after, Region.binds .any e = true → e.on ≠ i) → oi.apart ops ok = true := fun k ok hk hki hun hno => by
        refine hfree k ok hk hki ?_ hno
        by_cases hjk : j = k
        · subst hjk; exact hjun
        · rw [getD_set_ne true hjk] at hun; exact hun
      refine opW_mono (fun a2 w2 h3 => ?_) h2
      refine ⟨h3.2.1, ih (listed.setIfInBounds j true) a2 w2 hfree' (hsh.next hj) (ready_mono hr (Ne.symm hji)) h3.1 ?_⟩
      rw [Array.setIfInBounds_comm _ _ hji]
      exact h3.2.2

/-- what an operation reads -/
def looks (ops : Array Oper) (o : Oper) : List Tmp := o.looksAt ops
def noneOf (d : Option Tmp) (l : List Tmp) : Bool := match d with
  | some d => !memN d l
  | none => true
def sameDst (x y : Option Tmp) : Bool := match x, y with
  | some a, some b => Nat.beq a b
  | _, _ => false

/-- operation k, written out -/
def nth (ops : Array Oper) (k : Nat) : Option Oper := (ops.toList.drop k).head?
theorem nth_eq {k : Nat} {o : Oper} (h : nth ops k = some o) : ops[k]? = some o := by
  unfold nth at h
  rw [List.head?_drop] at h
  simpa using h
/-- operation k against all others that are open -/
def apartOpen (ops : Array Oper) (k : Nat) (dx : Option Tmp) (lx : List Tmp) (taken : List Nat) : Nat → List Oper → Bool
  | _, [] => true
  | j, y :: rest => (Nat.beq j k || memN j taken || memN k (binding y) || (noneOf dx (looks ops y) && !sameDst dx y.dst && noneOf y.dst lx)) && apartOpen ops k dx lx taken (j + 1) rest
/-- no other than k may come up -/
def onlyOne (k : Nat) (taken : List Nat) : Nat → List Oper → Bool
  | _, [] => true
  | j, y :: rest => (Nat.beq j k || memN j taken || (binding y).any (fun b => !memN b taken)) && onlyOne k taken (j + 1) rest
def ordFrom (ops : Array Oper) (cut : Nat) : List Nat → List (Nat × Bool) → Bool
  | _, [] => true
  | taken, (k, b) :: rest => (match nth ops k with
      | none => false
      | some x => !memN k taken && (binding x).all (fun i => memN i taken) && (if b then Nat.blt k cut && apartOpen ops k x.dst (looks ops x) taken 0 ops.toList else onlyOne k taken 0 ops.toList)) && ordFrom ops cut (k :: taken) rest
def noSel : List Oper → Bool
  | [] => true
  | x :: l => (match x.op with | .select .. => false | .defer _ => false | _ => true) && noSel l
/-- what the kernel looks at once for a region -/
def ordOK (ops : Array Oper) (cut : Nat) (perm : List (Nat × Bool)) : Bool := noSel ops.toList && (Nat.ble ops.size cut || tailed ops cut) && ordFrom ops cut [] perm && Nat.beq perm.length ops.size

theorem noSel_spec {ops : Array Oper} (h : noSel ops.toList = true) (i : Nat) (o : Oper) (ho : ops[i]? = some o) : (∀ cs b, o.op ≠ .select cs b) ∧ ∀ c, o.op ≠ .defer c := by
  have key : ∀ (l : List Oper), noSel l = true → ∀ x ∈ l, (∀ cs b, x.op ≠ .select cs b) ∧ ∀ c, x.op ≠ .defer c := by
    intro l
    induction l with
    | nil => intro _ x hx; cases hx
    | cons y l ih =>
      intro h x hx
      rw [noSel, Bool.and_eq_true] at h
      rcases List.mem_cons.1 hx with rfl | hx
      · refine ⟨fun cs b he => ?_, fun c he => ?_⟩ <;> (rw [he] at h; cases h.1)
      · exact ih h.2 x hx
  exact key _ h o (by rw [← Array.getElem?_toList] at ho; exact List.mem_of_getElem? ho)
theorem apart_of {ops : Array Oper} {x y : Oper} (h : (noneOf x.dst (looks ops y) && !sameDst x.dst y.dst && noneOf y.dst (looks ops x)) = true) : x.apart ops y = true := by
  rw [Bool.and_eq_true, Bool.and_eq_true] at h
  obtain ⟨⟨h2, h3⟩, h4⟩ := h
  unfold Oper.apart
  unfold noneOf looks at h2 h4
  unfold sameDst at h3
  cases hx : x.dst with
  | none =>
    cases hyd : y.dst with
    | none => rfl
    | some b => rw [hyd] at h4; simp only [Bool.not_eq_true'] at h4; simp only [Bool.true_and, Bool.not_eq_true', List.contains_eq_mem, decide_eq_false_iff_not]; intro hm; rw [memN_iff.2 hm] at h4; cases h4
  | some a =>
    rw [hx] at h2 h3
    have e1 : a ∉ y.looksAt ops := by
      intro hm; simp only [memN_iff.2 hm] at h2; cases h2
    cases hyd : y.dst with
    | none => simp [e1]
    | some b =>
      rw [hyd] at h3 h4
      have e2 : b ∉ x.looksAt ops := by
        intro hm; simp only [memN_iff.2 hm] at h4; cases h4
      have e3 : b ≠ a := fun e => by subst e; simp at h3
      simp [e1, e2, e3]
theorem apartOpen_spec {ops : Array Oper} {k : Nat} {x : Oper} {taken : List Nat} : ∀ {l : List Oper} {m : Nat}, apartOpen ops k x.dst (looks ops x) taken m l = true → ∀ (n : Nat) (y : Oper), l[n]? = some y → m + n ≠ k → m + n ∉ taken → k ∉ binding y → x.apart ops y = true
  | [], _, _, n, y, hy, _, _, _ => by simp at hy
  | z :: l, m, h, n, y, hy, h1, h2, h3 => by
    rw [apartOpen, Bool.and_eq_true] at h
    cases n with
    | zero =>
      obtain rfl : z = y := by simpa using hy
      have h4 := h.1
      rw [Bool.or_eq_true, Bool.or_eq_true, Bool.or_eq_true] at h4
      rcases h4 with ((h4 | h4) | h4) | h4
      · rw [Nat.beq_eq] at h4; exact absurd h4 h1
      · exact absurd (memN_iff.1 h4) h2
      · exact absurd (memN_iff.1 h4) h3
      · exact apart_of h4
    | succ n => exact apartOpen_spec h.2 n y (by simpa using hy) (by rw [show m + 1 + n = m + (n + 1) by omega]; exact h1) (by rw [show m + 1 + n = m + (n + 1) by omega]; exact h2) h3
theorem onlyOne_spec {k : Nat} {taken : List Nat} : ∀ {l : List Oper} {m : Nat}, onlyOne k taken m l = true → ∀ (n : Nat) (y : Oper), l[n]? = some y → m + n ≠ k → m + n ∉ taken → ∃ b ∈ binding y, b ∉ taken
  | [], _, _, n, y, hy, _, _ => by simp at hy
  | z :: l, m, h, n, y, hy, h1, h2 => by
    rw [onlyOne, Bool.and_eq_true] at h
    cases n with
    | zero =>
      obtain rfl : z = y := by simpa using hy
      have h4 := h.1
      rw [Bool.or_eq_true, Bool.or_eq_true] at h4
      rcases h4 with (h4 | h4) | h4
      · rw [Nat.beq_eq] at h4; exact absurd h4 h1
      · exact absurd (memN_iff.1 h4) h2
      · obtain ⟨b, hb, h5⟩ := List.any_eq_true.1 h4
        exact ⟨b, hb, fun hm => by rw [memN_iff.2 hm] at h5; cases h5⟩
    | succ n => exact onlyOne_spec h.2 n y (by simpa using hy) (by rw [show m + 1 + n = m + (n + 1) by omega]; exact h1) (by rw [show m + 1 + n = m + (n + 1) by omega]; exact h2)

/-- what has been done -/
def setK (n : Nat) (taken : List Nat) : Array Bool := (List.range n).toArray.map fun i => memN i taken
theorem setK_get {n i : Nat} (hi : i < n) (taken : List Nat) (d : Bool) : (setK n taken).getD i d = memN i taken := by
  unfold setK
  rw [Array.getD_eq_getD_getElem?]
  simp [hi]
theorem setK_size (n : Nat) (taken : List Nat) : (setK n taken).size = n := by simp [setK]
theorem setK_nil (n : Nat) : setK n [] = Array.replicate n false := by
  apply Array.ext
  · simp [setK]
  · intro i h1 h2; simp [setK, memN]
theorem setK_next (n k : Nat) (taken : List Nat) : (setK n taken).setIfInBounds k true = setK n (k :: taken) := by
  apply Array.ext
  · simp [setK]
  · intro i h1 h2
    simp only [setK, Array.size_setIfInBounds, Array.size_map, List.size_toArray, List.length_range] at h1
    rw [Array.getElem_setIfInBounds (by simpa [setK] using h1)]
    simp only [setK, Array.getElem_map, List.getElem_toArray, List.getElem_range, memN]
    by_cases h : k = i
    · subst h; simp
    · have : Nat.beq i k = false := by rw [← Bool.not_eq_true, Nat.beq_eq]; exact fun e => h e.symm
      rw [if_neg h, this, Bool.false_or]
theorem shut_set {ops : Array Oper} {taken : List Nat} (h : ∀ k ∈ taken, ∀ o, ops[k]? = some o → ∀ i ∈ binding o, i ∈ taken) (hr : ∀ (k : Nat) (o : Oper), ops[k]? = some o → ∀ i ∈ binding o, k ∈ taken → i < ops.size) : Shut .any ops (setK ops.size taken) := by
  intro i o ho hl e he hb
  have hlt : i < ops.size := (Array.getElem?_eq_some_iff.1 ho).1
  rw [setK_get hlt] at hl
  have hm := memN_iff.1 hl
  have hb2 : e.on ∈ binding o := mem_binding.2 ⟨e, he, hb, rfl⟩
  rw [setK_get (hr i o ho e.on hb2 hm)]
  exact memN_iff.2 (h i hm o ho _ hb2)

/-- The operations 'taken' have been walked, those of 'rest' are to come. -/
structure OrdAt (P : Program) (ops : Array Oper) (Q : Exit → Act → World → Prop) (cut : Nat) (taken : List Nat) (rest : List (Nat × Bool)) (a : Act) (w : World) : Prop where
  wp : ordFrom ops cut taken rest = true → noSel ops.toList = true → tailed ops cut = true ∨ ops.size ≤ cut → taken.length + rest.length = ops.size → taken.Nodup → (∀ k ∈ taken, k < ops.size) → (∀ k ∈ taken, ∀ o, ops[k]? = some o → ∀ i ∈ binding o, i ∈ taken) →
    wpE P ops Q cut rest.length (setK ops.size taken) a w
theorem OrdAt.ext {cut : Nat} {taken : List Nat} {rest : List (Nat × Bool)} {a : Act} {w w' : World} (h : OrdAt P ops Q cut taken rest a w) (hw : Ext w w') : OrdAt P ops Q cut taken rest a w' := ⟨fun h1 h2 h3 h4 h5 h6 h7 => (h.wp h1 h2 h3 h4 h5 h6 h7).ext hw⟩

theorem OrdAt.take {cut k : Nat} {taken : List Nat} {rest : List (Nat × Bool)} {a : Act} {w : World} {o : Oper} {v : Value} (hQ : ∀ c a w, Q (.panic c) (a.put o.dst v) w → Q (.panic c) a w) (ho : nth ops k = some o)
    (hy : YieldsE P ops w o v a) (h : OrdAt P ops Q cut (k :: taken) rest (a.put o.dst v) w) : OrdAt P ops Q cut taken ((k, true) :: rest) a w := by
  refine ⟨fun h1 h2 h3 h4 h5 h6 h7 => ?_⟩
  rw [ordFrom, Bool.and_eq_true] at h1
  obtain ⟨h1, hrest⟩ := h1
  rw [ho] at h1
  simp only [Bool.and_eq_true, if_true] at h1
  obtain ⟨⟨hnt, hbd⟩, hkc, hap⟩ := h1
  have ho' := nth_eq ho
  have hklt : k < ops.size := (Array.getElem?_eq_some_iff.1 ho').1
  have hnt' : k ∉ taken := fun hm => by rw [memN_iff.2 hm] at hnt; cases hnt
  have hbd' : ∀ i ∈ binding o, i ∈ taken := fun i hi => memN_iff.1 ((List.all_eq_true.1 hbd) i hi)
  have h7' : ∀ q ∈ k :: taken, ∀ x, ops[q]? = some x → ∀ i ∈ binding x, i ∈ k :: taken := fun q hq x hx i hi => by
    rcases List.mem_cons.1 hq with rfl | hq
    · rw [ho'] at hx; cases hx; exact List.mem_cons_of_mem _ (hbd' i hi)
    · exact List.mem_cons_of_mem _ (h7 q hq x hx i hi)
  have hn := h.wp hrest h2 h3 (by simp at h4 ⊢; omega) (List.nodup_cons.2 ⟨hnt', h5⟩) (fun q hq => by
    rcases List.mem_cons.1 hq with rfl | hq
    · exact hklt
    · exact h6 q hq) h7'
  rw [← setK_next] at hn
  have hkc' : k < cut := by simpa [Nat.blt_eq] using hkc
  have ht : tailed ops (min cut ops.size) = true ∧ k < min cut ops.size ∧ True := by
    refine ⟨?_, by omega, trivial⟩
    rcases h3 with h3 | h3
    · by_cases hc : cut ≤ ops.size
      · rw [Nat.min_eq_left hc]; exact h3
      · rw [Nat.min_eq_right (by omega)]; unfold tailed; simp
    · rw [Nat.min_eq_right h3]; unfold tailed; simp
  have key : ∀ {fuel : Nat} {listed : Array Bool} {a : Act} {w : World}, wpE P ops Q cut fuel listed a w ↔ wpE P ops Q (min cut ops.size) fuel listed a w := by
    intro fuel
    induction fuel with
    | zero => intro listed a w; exact Iff.rfl
    | succ f ih =>
      intro listed a w
      have hi : ∀ i ∈ Region.ready .any ops listed, (cut ≤ i ↔ min cut ops.size ≤ i) := fun i hi => by
        obtain ⟨_, x, hx, _⟩ := mem_ready.1 hi
        have := (Array.getElem?_eq_some_iff.1 hx).1
        omega
      constructor
      · intro hh w' hw'
        exact ⟨(hh w' hw').1, fun i him => opW_mono (fun a2 w2 h3 => ⟨h3.1.imp (hi i him).1 id, ih.1 h3.2⟩) ((hh w' hw').2 i him)⟩
      · intro hh w' hw'
        exact ⟨(hh w' hw').1, fun i him => opW_mono (fun a2 w2 h3 => ⟨h3.1.imp (hi i him).2 id, ih.2 h3.2⟩) ((hh w' hw').2 i him)⟩
  have q1 : ∀ j oj, ops[j]? = some oj → j ≠ k → (setK ops.size taken).getD j true = false → (∀ e ∈ oj.after, Region.binds .any e = true → e.on ≠ k) → o.apart ops oj = true := by
    intro j oj hj hne hun hno
    have hjs : j < ops.size := (Array.getElem?_eq_some_iff.1 hj).1
    rw [setK_get hjs] at hun
    refine apartOpen_spec hap j oj (by rw [Array.getElem?_toList]; exact hj) (by simpa using hne) (by rw [Nat.zero_add]; intro hm; rw [memN_iff.2 hm] at hun; cases hun) fun hm => ?_
    obtain ⟨e, he1, he2, he3⟩ := mem_binding.1 hm
    exact hno e he1 he2 he3
  have q2 : Shut .any ops (setK ops.size taken) := shut_set h7 fun q x hx i hi hq => h6 i (h7 q hq x hx i hi)
  have q3 : k ∈ Region.ready .any ops (setK ops.size taken) := by
    rw [mem_ready]
    refine ⟨by rw [setK_get hklt]; simpa using hnt, o, ho', fun e he hb => ?_⟩
    have hm := hbd' e.on (mem_binding.2 ⟨e, he, hb, rfl⟩)
    rw [setK_get (h6 _ hm)]; exact memN_iff.2 hm
  cases hfl : floatAt ops k with
  | false => exact key.2 (wpE_first ht.1 ho' ht.2.1 hfl (fun j x cs b hj => (noSel_spec h2 j x hj).1 cs b) hQ _ _ a w q1 q2 q3 hy (key.1 hn))
  | true =>
    have hfo : floats o = true := by
      unfold floatAt at hfl
      rw [show (List.drop k ops.toList).head? = some o from ho] at hfl
      exact hfl
    exact wpE_firstA ho' (fun j x cs b hj => (noSel_spec h2 j x hj).1 cs b) hQ _ _ a w q1 q2 q3 (floats_all hfo hy) hn
/-- what is left behind one that came alone -/
def OrdNext (P : Program) (ops : Array Oper) (Q : Exit → Act → World → Prop) (cut k : Nat) (w' : World) (taken : List Nat) (rest : List (Nat × Bool)) (a : Act) (w : World) : Prop := (cut ≤ k ∨ Gxt w' w) ∧ OrdAt P ops Q cut taken rest a w
theorem OrdAt.seq {cut k : Nat} {taken : List Nat} {rest : List (Nat × Bool)} {a : Act} {w : World} {o : Oper} (ho : nth ops k = some o) (hg : o.guard = none)
    (h : ∀ w', Ext w w' → o.wp P a w' (OrdNext P ops Q cut k w' (k :: taken) rest) Q) : OrdAt P ops Q cut taken ((k, false) :: rest) a w := by
  refine ⟨fun h1 h2 h3 h4 h5 h6 h7 => ?_⟩
  rw [ordFrom, Bool.and_eq_true] at h1
  obtain ⟨h1, hrest⟩ := h1
  rw [ho] at h1
  simp only [Bool.and_eq_true, if_false, Bool.false_eq_true] at h1
  obtain ⟨⟨hnt, hbd⟩, hone⟩ := h1
  have ho' := nth_eq ho
  have hklt : k < ops.size := (Array.getElem?_eq_some_iff.1 ho').1
  have hnt' : k ∉ taken := fun hm => by rw [memN_iff.2 hm] at hnt; cases hnt
  have hbd' : ∀ i ∈ binding o, i ∈ taken := fun i hi => memN_iff.1 ((List.all_eq_true.1 hbd) i hi)
  have h7' : ∀ q ∈ k :: taken, ∀ x, ops[q]? = some x → ∀ i ∈ binding x, i ∈ k :: taken := fun q hq x hx i hi => by
    rcases List.mem_cons.1 hq with rfl | hq
    · rw [ho'] at hx; cases hx; exact List.mem_cons_of_mem _ (hbd' i hi)
    · exact List.mem_cons_of_mem _ (h7 q hq x hx i hi)
  show wpE P ops Q cut (rest.length + 1) _ a w
  intro w' hw'
  have hre : ∀ i ∈ Region.ready .any ops (setK ops.size taken), i = k := fun i hi => by
    obtain ⟨hu, x, hx, hall⟩ := mem_ready.1 hi
    have hilt : i < ops.size := (Array.getElem?_eq_some_iff.1 hx).1
    rw [setK_get hilt] at hu
    by_cases hik : i = k
    · exact hik
    · exfalso
      obtain ⟨b, hb, hbn⟩ := onlyOne_spec hone i x (by rw [Array.getElem?_toList]; exact hx) (by simpa using hik) (by rw [Nat.zero_add]; intro hm; rw [memN_iff.2 hm] at hu; cases hu)
      obtain ⟨e, he1, he2, rfl⟩ := mem_binding.1 hb
      have hl := hall e he1 he2
      rcases Nat.lt_or_ge e.on ops.size with hh | hh
      · rw [setK_get hh] at hl; exact hbn (memN_iff.1 hl)
      · rw [Array.getD_eq_getD_getElem?, Array.getElem?_eq_none (by rw [setK_size]; exact hh)] at hl; cases hl
  have hin : k ∈ Region.ready .any ops (setK ops.size taken) := by
    rw [mem_ready]
    refine ⟨by rw [setK_get hklt]; simpa using hnt, o, ho', fun e he hb => ?_⟩
    have hm := hbd' e.on (mem_binding.2 ⟨e, he, hb, rfl⟩)
    rw [setK_get (h6 _ hm)]; exact memN_iff.2 hm
  refine ⟨fun h0 => (by rw [h0] at hin; cases hin), fun i hi => ?_⟩
  obtain rfl := hre i hi
  unfold opW
  simp only [ho', Region.wanted, hg, if_true]
  refine Oper.wp_mono (fun a2 w2 h8 => ⟨h8.1, ?_⟩) (h w' hw')
  rw [setK_next]
  exact h8.2.wp hrest h2 h3 (by simp at h4 ⊢; omega) (List.nodup_cons.2 ⟨hnt', h5⟩) (fun q hq => by
    rcases List.mem_cons.1 hq with rfl | hq
    · exact hklt
    · exact h6 q hq) h7'
theorem nodup_le : ∀ (n : Nat) (l : List Nat), l.Nodup → (∀ x ∈ l, x < n) → l.length ≤ n
  | 0, l, _, h => by
    cases l with
    | nil => simp
    | cons x l => exact absurd (h x List.mem_cons_self) (by omega)
  | n + 1, l, hn, h => by
    have ih := nodup_le n (l.erase n) (hn.erase n) fun x hx => by
      have h1 := h x (List.mem_of_mem_erase hx)
      have h2 : x ≠ n := fun e => by subst e; exact (List.Nodup.not_mem_erase hn) hx
      omega
    rw [List.length_erase] at ih
    split at ih <;> omega
theorem OrdAt.done {cut : Nat} {taken : List Nat} {a : Act} {w : World} (h : ∀ w', Ext w w' → Q .normal a w') : OrdAt P ops Q cut taken [] a w := by
  refine ⟨fun _ _ _ h4 h5 h6 _ => ⟨?_, h⟩⟩
  rw [List.eq_nil_iff_forall_not_mem]
  intro j hj
  obtain ⟨hu, x, hx, _⟩ := mem_ready.1 hj
  have hjlt : j < ops.size := (Array.getElem?_eq_some_iff.1 hx).1
  rw [setK_get hjlt] at hu
  have hnm : j ∉ taken := fun hm => by rw [memN_iff.2 hm] at hu; cases hu
  have h7 : (j :: taken).length ≤ ops.size := by
    exact nodup_le ops.size _ (List.nodup_cons.2 ⟨hnm, h5⟩) fun q hq => by
      rcases List.mem_cons.1 hq with rfl | hq
      · exact hjlt
      · exact h6 q hq
  simp at h4 h7
  omega

theorem ord_start {cut : Nat} {perm : List (Nat × Bool)} {a : Act} {w : World} (hok : ordOK ops cut perm = true) (h : OrdAt P ops Q cut [] perm a w) : wpE P ops Q cut ops.size (Array.replicate ops.size false) a w := by
  unfold ordOK at hok
  rw [Bool.and_eq_true, Bool.and_eq_true, Bool.and_eq_true] at hok
  obtain ⟨⟨⟨h1, h2⟩, h3⟩, h4⟩ := hok
  rw [Nat.beq_eq] at h4
  have := h.wp h3 h1 (by
    rw [Bool.or_eq_true, Nat.ble_eq] at h2
    exact h2.symm) (by simpa using h4) List.nodup_nil (fun k hk => by cases hk) (fun k hk => by cases hk)
  rw [h4, setK_nil] at this
  exact this
/-- **A region that draws its order, in an order of one's own.** -/
theorem wp_region_ord {id : Nat} {a : Act} {w : World} (cut : Nat) (perm : List (Nat × Bool)) (hm : P.follows .mixedOrders = true) (hok : ordOK ops cut perm = true) (h : ∀ w', Ext w w' → OrdAt P ops Q cut [] perm a w') : (Code.region id ops true).wp P Q a w :=
  wp_region_any hm (wpE.any _ _ _ _ (ord_start hok (h w.drew (ext_drew w))))
theorem wpE.anyIn {l n : Nat} {cut : Nat} (hnd : ∀ (i : Nat) (o : Oper), ops[i]? = some o → ∀ c, o.op ≠ .defer c) : ∀ (fuel : Nat) (listed : Array Bool) (a : Act) (w : World), wpE P ops Q cut fuel listed a w → wpAnyIn (Fence.wide.inRound l) n P .any ops Q fuel listed a w
  | 0, _, _, _, h => ⟨h.1, h.2 _ (Below.refl _ _)⟩
  | fuel + 1, listed, a, w, h => ⟨(h w (Below.refl _ _)).1, fun i hi => (opW_mono (fun a' w' h' => wpE.anyIn hnd fuel _ _ _ h'.2) ((h w (Below.refl _ _)).2 i hi)).opIn hnd⟩
theorem wpIn_region_ord {l n : Nat} {id : Nat} {a : Act} {w : World} (cut : Nat) (perm : List (Nat × Bool)) (hm : P.follows .mixedOrders = true) (hok : ordOK ops cut perm = true) (h : ∀ w', Ext w w' → OrdAt P ops Q cut [] perm a w') : (Code.region id ops true).wpIn (Fence.wide.inRound l) n P Q a w := by
  have hs : noSel ops.toList = true := by
    unfold ordOK at hok
    rw [Bool.and_eq_true, Bool.and_eq_true, Bool.and_eq_true] at hok
    exact hok.1.1.1
  exact wpIn_region_any hm (wpE.anyIn (fun i o ho => (noSel_spec hs i o ho).2) _ _ _ _ (ord_start hok (h w.drew (ext_drew w))))
theorem wpIn_region_ord_wide {n : Nat} {id : Nat} {a : Act} {w : World} (cut : Nat) (perm : List (Nat × Bool)) (hm : P.follows .mixedOrders = true) (hok : ordOK ops cut perm = true) (h : ∀ w', Ext w w' → OrdAt P ops Q cut [] perm a w') : (Code.region id ops true).wpIn Fence.wide n P Q a w :=
  wpIn_wide.2 (wp_region_ord cut perm hm hok h)
/-- only the way on, no panic -/
def On (Q : Exit → Act → World → Prop) : Exit → Act → World → Prop
  | .normal => Q .normal
  | _ => fun _ _ => False
theorem on_go : ∀ e a w, On Q e a w → Q e a w
  | .normal, _, _, h => h
theorem on_normal {a : Act} {w : World} (h : Q .normal a w) : On Q .normal a w := h
theorem on_put {d : Option Tmp} {v : Value} : ∀ c a w, On Q (.panic c) (Act.put a d v) w → On Q (.panic c) a w := fun _ _ _ h => h
theorem wp_region_ordN {id : Nat} {a : Act} {w : World} (cut : Nat) (perm : List (Nat × Bool)) (hm : P.follows .mixedOrders = true) (hok : ordOK ops cut perm = true) (h : ∀ w', Ext w w' → OrdAt P ops (On Q) cut [] perm a w') : (Code.region id ops true).wp P Q a w :=
  Code.wp_mono on_go (wp_region_ord cut perm hm hok h)
theorem wpIn_region_ordN_wide {n : Nat} {id : Nat} {a : Act} {w : World} (cut : Nat) (perm : List (Nat × Bool)) (hm : P.follows .mixedOrders = true) (hok : ordOK ops cut perm = true) (h : ∀ w', Ext w w' → OrdAt P ops (On Q) cut [] perm a w') : (Code.region id ops true).wpIn Fence.wide n P Q a w :=
  wpIn_mono (wpIn_region_ord_wide cut perm hm hok h) on_go
theorem wpIn_region_ordN {l n : Nat} {id : Nat} {a : Act} {w : World} (cut : Nat) (perm : List (Nat × Bool)) (hm : P.follows .mixedOrders = true) (hok : ordOK ops cut perm = true) (h : ∀ w', Ext w w' → OrdAt P ops (On Q) cut [] perm a w') : (Code.region id ops true).wpIn (Fence.wide.inRound l) n P Q a w :=
  wpIn_mono (wpIn_region_ord cut perm hm hok h) on_go

/-- an operation that yields a value -/
theorem OrdAt.op {cut k d : Nat} {taken : List Nat} {rest : List (Nat × Bool)} {s t : List Value} {ds : List Deferred} {w : World} {v : Value} {o : Oper} (hQ : ∀ c a w, Q (.panic c) (Act.put a o.dst v) w → Q (.panic c) a w) (ho : nth ops k = some o) (hg : o.guard = none) (hd : o.dst = some d)
    (hrun : ∀ w', Gxt w w' → (execOp (Act.eval { tmps := s.toArray, defers := ds }) o).run P w' = .ok (.value v) w') (ht : s.set d v = t) (h : OrdAt P ops Q cut (k :: taken) rest { tmps := t.toArray, defers := ds } w) :
    OrdAt P ops Q cut taken ((k, true) :: rest) { tmps := s.toArray, defers := ds } w := by
  subst ht
  refine OrdAt.take hQ ho (.inl ⟨by simp [Region.wanted, hg], fun w' hw' => by rw [hrun w' hw']; exact ⟨rfl, Below.refl _ _⟩⟩) ?_
  rw [hd]
  simpa [Act.put] using h
theorem OrdAt.op_if {cut k d : Nat} {taken : List Nat} {rest : List (Nat × Bool)} {s t : List Value} {ds : List Deferred} {w : World} {v : Value} {o : Oper} (hQ : ∀ c a w, Q (.panic c) (Act.put a o.dst v) w → Q (.panic c) a w) (ho : nth ops k = some o) (hg : Region.wanted o (yielded ops s.toArray) = true) (hd : o.dst = some d)
    (hrun : ∀ w', Gxt w w' → (execOp (Act.eval { tmps := s.toArray, defers := ds }) o).run P w' = .ok (.value v) w') (ht : s.set d v = t) (h : OrdAt P ops Q cut (k :: taken) rest { tmps := t.toArray, defers := ds } w) :
    OrdAt P ops Q cut taken ((k, true) :: rest) { tmps := s.toArray, defers := ds } w := by
  subst ht
  refine OrdAt.take hQ ho (.inl ⟨hg, fun w' hw' => by rw [hrun w' hw']; exact ⟨rfl, Below.refl _ _⟩⟩) ?_
  rw [hd]
  simpa [Act.put] using h
/-- an operation whose guard says no -/
theorem OrdAt.op_not {cut k d : Nat} {taken : List Nat} {rest : List (Nat × Bool)} {s t : List Value} {ds : List Deferred} {w : World} {o : Oper} (hQ : ∀ c a w, Q (.panic c) (Act.put a o.dst undef) w → Q (.panic c) a w) (ho : nth ops k = some o) (hg : Region.wanted o (yielded ops s.toArray) = false) (hd : o.dst = some d)
    (ht : s.set d undef = t) (h : OrdAt P ops Q cut (k :: taken) rest { tmps := t.toArray, defers := ds } w) :
    OrdAt P ops Q cut taken ((k, true) :: rest) { tmps := s.toArray, defers := ds } w := by
  subst ht
  refine OrdAt.take hQ ho (.inr ⟨hg, rfl⟩) ?_
  rw [hd]
  simpa [Act.put] using h
/-- a call -/
theorem OrdAt.call {cut k d : Nat} {taken : List Nat} {rest : List (Nat × Bool)} {s t : List Value} {ds : List Deferred} {w : World} {v : Value} {o : Oper} {f : FuncId} {args : Array Value} (hQ : ∀ c a w, Q (.panic c) (Act.put a o.dst v) w → Q (.panic c) a w) (ho : nth ops k = some o) (hg : Region.wanted o (yielded ops s.toArray) = true) (hd : o.dst = some d)
    (hrun : ∀ w', Gxt w w' → (execOp (Act.eval { tmps := s.toArray, defers := ds }) o).run P w' = .ok (.enter f args) w') (hc : ∀ w', Gxt w w' → Calls P f args w' fun e w'' => e = .returned v ∧ Ext w' w'') (ht : s.set d v = t) (h : OrdAt P ops Q cut (k :: taken) rest { tmps := t.toArray, defers := ds } w) :
    OrdAt P ops Q cut taken ((k, true) :: rest) { tmps := s.toArray, defers := ds } w := by
  subst ht
  refine OrdAt.take hQ ho (.inl ⟨hg, fun w' hw' => by rw [hrun w' hw']; exact hc w' hw'⟩) ?_
  rw [hd]
  simpa [Act.put] using h
end
end Go.Proofs.Ytmlcjiabnmdfeaa.OrdX
