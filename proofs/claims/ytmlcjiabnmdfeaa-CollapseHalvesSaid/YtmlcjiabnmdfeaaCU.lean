/- Package contest: contracts of Half, Right, Winner, and the order of sides (chapter 11, turned to this program). -/
import Derived.Test.YtmlcjiabnmdfeaaCT
import Derived.Orders
import Derived.WalkKit
import Derived.KernelRfl
import Derived.WalkLawsBesides
import Derived.WalkSpells
import Derived.Deep.QuietTactic
import Derived.BigQuiet
import Derived.Deep.LoopGhost
import Derived.Lib.Hide
import Derived.RangeFuncNested
import Derived.RangeFuncBound
import Derived.RangeFuncCalls
import Derived.RangeFuncLeaves
import Derived.Shelf.Abstract
import Derived.Shelf.RegionOpen
import Derived.OwnWalkIn
import Derived.TacticsInMore
import Derived.LoopNIn
import Derived.LoopIn
import Derived.Maps.AppendAt
import Derived.Deep.RegionHeld3
import Derived.Deep.RegionWith
import Derived.Scope
import Derived.ScopeJumps
import Derived.WalkMore
import Derived.Laws.MakeOwn
import Derived.Laws.OwnMore
import Derived.OwnWalk
namespace Go.Proofs.Ytmlcjiabnmdfeaa.CT
open Go
open Go.RowKit
set_option linter.unusedVariables false
open Go.RowKit Go.Shelf
attribute [local go_sem] Oper.semAt_some
open Go Go.RowKit Go.Shelf

theorem count_set : ∀ (l : List Bool) (i : Nat), l.getD i true = false → (l.set i true).countP (fun b => !b) + 1 = l.countP (fun b => !b)
  | [], i, h => by simp at h
  | b :: l, 0, h => by simp at h; subst h; simp
  | b :: l, i + 1, h => by
    have ih := count_set l i (by simpa using h)
    simp only [List.set_cons_succ, List.countP_cons]
    omega

theorem wpAny_inv {P : Program} {ops : Array Oper} {Q : Exit → Act → World → Prop} {md : Region.Mode} (Inv : Array Bool → Act → World → Prop)
    (hstep : ∀ listed i a w, i ∈ Region.ready md ops listed → Inv listed a w → ∀ K : Act → World → Prop, (∀ a' w', Inv (listed.setIfInBounds i true) a' w' → K a' w') → wpOp P ops Q i K a w)
    (hfin : ∀ listed a w, Region.ready md ops listed = [] → listed.size = ops.size → Inv listed a w → Q .normal a w) :
    ∀ (fuel : Nat) (listed : Array Bool) (a : Act) (w : World), listed.size = ops.size → listed.toList.countP (fun b => !b) = fuel → Inv listed a w → wpAny P md ops Q fuel listed a w := by
  intro fuel
  induction fuel with
  | zero =>
    intro listed a w hs hc hI
    have hr : Region.ready md ops listed = [] := by
      rw [List.eq_nil_iff_forall_not_mem]
      intro i hi
      obtain ⟨h1, o, ho, _⟩ := mem_ready.1 hi
      have hlt : i < listed.size := by rw [hs]; exact (Array.getElem?_eq_some_iff.1 ho).1
      rw [List.countP_eq_zero] at hc
      have hm : listed[i] ∈ listed.toList := by simp
      have := hc _ hm
      rw [Array.getD_eq_getD_getElem?, Array.getElem?_eq_getElem hlt] at h1
      simp at h1 this
      rw [h1] at this; cases this
    exact ⟨hr, hfin _ _ _ hr hs hI⟩
  | succ fuel ih =>
    intro listed a w hs hc hI
    refine ⟨fun hr => hfin _ _ _ hr hs hI, fun i hi => ?_⟩
    refine hstep listed i a w hi hI _ fun a' w' hI' => ih _ a' w' (by simpa using hs) ?_ hI'
    obtain ⟨h1, o, ho, _⟩ := mem_ready.1 hi
    have := count_set listed.toList i (by rw [Array.getD_eq_getD_getElem?] at h1; rw [List.getD_eq_getElem?_getD]; simpa using h1)
    rw [Array.toList_setIfInBounds]
    omega

/-- **A region that draws its order, by an invariant.** -/
theorem wp_region_inv {P : Program} {ops : Array Oper} {Q : Exit → Act → World → Prop} {id : Nat} {a : Act} {w : World} (hm : P.follows .mixedOrders = true) (Inv : Array Bool → Act → World → Prop)
    (h0 : Inv (Array.replicate ops.size false) a w.drew)
    (hstep : ∀ listed i a w, i ∈ Region.ready .any ops listed → Inv listed a w → ∀ K : Act → World → Prop, (∀ a' w', Inv (listed.setIfInBounds i true) a' w' → K a' w') → wpOp P ops Q i K a w)
    (hfin : ∀ listed a w, Region.ready .any ops listed = [] → listed.size = ops.size → Inv listed a w → Q .normal a w) : (Code.region id ops true).wp P Q a w :=
  wp_region_any hm (wpAny_inv Inv hstep hfin _ _ _ _ (by simp) (by simp [List.countP_replicate]) h0)

theorem ready_all {ops : Array Oper} {md : Region.Mode} {listed : Array Bool} (hord : ∀ (i : Nat) (o : Oper), ops[i]? = some o → ∀ e ∈ o.after, e.on < i) (hs : listed.size = ops.size) (hr : Region.ready md ops listed = []) :
    ∀ i, i < ops.size → listed.getD i false = true := by
  intro i
  induction i using Nat.strongRecOn with
  | _ i ih =>
    intro hi
    cases hd : listed.getD i false with
    | true => rfl
    | false =>
      have hm : i ∈ Region.ready md ops listed := by
        rw [mem_ready]
        refine ⟨?_, ops[i], Array.getElem?_eq_getElem hi, fun e he _ => ih _ (hord i _ (Array.getElem?_eq_getElem hi) e he) (by have := hord i _ (Array.getElem?_eq_getElem hi) e he; omega)⟩
        have hlt : i < listed.size := by omega
        rw [Array.getD_eq_getD_getElem?, Array.getElem?_eq_getElem hlt] at hd ⊢
        exact hd
      rw [hr] at hm; cases hm

/-- edges lead back -/
def backward (ops : Array Oper) : Bool := (List.range ops.size).all fun i => ((ops[i]?).map fun o => o.after.all fun e => decide (e.on < i)).getD true

theorem backward_spec {ops : Array Oper} (h : backward ops = true) : ∀ (i : Nat) (o : Oper), ops[i]? = some o → ∀ e ∈ o.after, e.on < i := by
  intro i o ho e he
  have hlt : i < ops.size := (Array.getElem?_eq_some_iff.1 ho).1
  have := (List.all_eq_true.1 h) i (List.mem_range.2 hlt)
  rw [ho] at this
  simp only [Option.map_some, Option.getD_some, Array.all_eq_true_iff_forall_mem] at this
  exact of_decide_eq_true (this e he)

/-- what has been done, and one more -/
def more (done : Nat → Bool) (i : Nat) : Nat → Bool := fun j => j == i || done j

/-- **A region that draws its order, by an invariant of what has been done.** -/
theorem wp_region_done {P : Program} {ops : Array Oper} {Q : Exit → Act → World → Prop} {id : Nat} {a : Act} {w : World} (hm : P.follows .mixedOrders = true) (hord : backward ops = true) (Inv : (Nat → Bool) → Act → World → Prop)
    (h0 : Inv (fun _ => false) a w.drew)
    (hstep : ∀ (done : Nat → Bool) (i : Nat) (o : Oper) (a : Act) (w : World), ops[i]? = some o → done i = false → (∀ e ∈ o.after, Region.binds .any e = true → done e.on = true) → Inv done a w → ∀ K : Act → World → Prop, (∀ a' w', Inv (more done i) a' w' → K a' w') → wpOp P ops Q i K a w)
    (hfin : ∀ done a w, (∀ i, i < ops.size → done i = true) → Inv done a w → Q .normal a w) : (Code.region id ops true).wp P Q a w := by
  refine wp_region_inv hm (fun listed a w => listed.size = ops.size ∧ Inv (fun i => listed.getD i false) a w) ⟨by simp, ?_⟩ ?_ ?_
  · have e : (fun i => (Array.replicate ops.size false).getD i false) = fun _ => false := by
      funext i
      rw [Array.getD_eq_getD_getElem?, Array.getElem?_replicate]
      split <;> rfl
    rw [e]; exact h0
  · intro listed i a w hi ⟨hs, hI⟩ K hK
    obtain ⟨h1, o, ho, he⟩ := mem_ready.1 hi
    have hlt : i < listed.size := by rw [hs]; exact (Array.getElem?_eq_some_iff.1 ho).1
    have hd : listed.getD i false = false := by
      rw [Array.getD_eq_getD_getElem?, Array.getElem?_eq_getElem hlt] at h1 ⊢
      exact h1
    refine hstep (fun i => listed.getD i false) i o a w ho hd he hI K fun a' w' hI' => hK a' w' ⟨by simpa using hs, ?_⟩
    have e : (fun j => (listed.setIfInBounds i true).getD j false) = more (fun i => listed.getD i false) i := by
      funext j
      unfold more
      by_cases hj : j = i
      · subst hj
        rw [Array.getD_eq_getD_getElem?, Array.getElem?_setIfInBounds_self_of_lt hlt]; simp
      · rw [getD_set_ne _ (Ne.symm hj)]
        have : (j == i) = false := by simp [hj]
        rw [this, Bool.false_or]
    rw [e]; exact hI'
  · intro listed a w hr hs ⟨_, hI⟩
    exact hfin _ a w (ready_all (backward_spec hord) hs hr) hI

theorem wpOp_plain {P : Program} {ops : Array Oper} {Q : Exit → Act → World → Prop} {i : Nat} {o : Oper} {K : Act → World → Prop} {a : Act} {w : World} (ho : ops[i]? = some o) (hg : o.guard = none) (h : o.wp P a w K Q) : wpOp P ops Q i K a w := by
  unfold wpOp
  rw [ho]
  simp only [Region.wanted, hg, if_true]
  exact .inl h

/-- the world, some draws on -/
def Dr (w w' : World) : Prop := ∃ n, w' = w.drewN n

theorem Dr.refl (w : World) : Dr w w := ⟨0, rfl⟩

theorem Dr.step {w w' : World} (h : Dr w w') (n : Nat) : Dr w (w'.drewN n) := by
  obtain ⟨m, rfl⟩ := h
  exact ⟨m + n, by simp [World.drewN, Nat.add_assoc]⟩

theorem Dr.step1 {w w' : World} (h : Dr w w') : Dr w w'.drew := h.step 1

theorem Dr.below {w w' : World} (h : Dr w w') (B : Nat) : Below B w w' := by
  obtain ⟨m, rfl⟩ := h
  exact ⟨rfl, rfl, rfl, Nat.le_refl _, fun _ _ => rfl⟩

/-- the six cells of a side, at a block's place -/
def SideAt (w : World) (b o : Nat) (s : Side) : Prop :=
  w.cell? ⟨b, o, none⟩ = some (.int .i64 s.style) ∧ w.cell? ⟨b, o + 1, none⟩ = some (.int .i64 s.width) ∧ w.cell? ⟨b, o + 2, none⟩ = some (.int .u32 s.color) ∧
  w.cell? ⟨b, o + 3, none⟩ = some (.int .i64 s.by_) ∧ w.cell? ⟨b, o + 4, none⟩ = some (.int .i64 s.row) ∧ w.cell? ⟨b, o + 5, none⟩ = some (.int .i64 s.col)

def Sides (w : World) (A : Option Addr) (xs : List Side) : Prop :=
  ∀ j, j < xs.length → ∃ b off, A = some ⟨b, off, none⟩ ∧ SideAt w b (off + j * 6) (xs[j]?.getD default)

theorem Sides.get {w : World} {A : Option Addr} {xs : List Side} (h : Sides w A xs) (j : Nat) (hj : j < xs.length) :
    ∃ x b off, Hid (xs[j]?.getD default = x) ∧ A = some ⟨b, off, none⟩ ∧ SideAt w b (off + j * 6) x :=
  let ⟨b, off, hA, hc⟩ := h j hj; ⟨_, b, off, Lib.hid rfl, hA, hc⟩

theorem SideAt.below {w w' : World} {b o : Nat} {s : Side} (h : SideAt w b o s) {B : Nat} (hb : Below B w w') (hB : b < B) : SideAt w' b o s :=
  have f := fun i => hb.cell (p := ⟨b, i, none⟩) hB
  ⟨(f _).trans h.1, (f _).trans h.2.1, (f _).trans h.2.2.1, (f _).trans h.2.2.2.1, (f _).trans h.2.2.2.2.1, (f _).trans h.2.2.2.2.2⟩

theorem SideAt.lt {w : World} {b o : Nat} {s : Side} (h : SideAt w b o s) : b < w.heap.size := World.block_lt_of_cell? w _ h.1

theorem Sides.below {w w' : World} {A : Option Addr} {xs : List Side} (h : Sides w A xs) (hb : Below w.heap.size w w') : Sides w' A xs := fun j hj =>
  let ⟨b, off, hA, hc⟩ := h j hj
  ⟨b, off, hA, hc.below hb hc.lt⟩

theorem wrongs_of {xs : List Side} {k : Nat} (hk : k < xs.length) (h : right (xs[k]?.getD default) = false) : wrongs xs = true := by
  unfold wrongs
  rw [List.any_eq_true]
  refine ⟨xs[k], List.getElem_mem hk, ?_⟩
  simp [hk] at h
  simp [h]

theorem wrongs_none {xs : List Side} (h : ∀ j, j < xs.length → right (xs[j]?.getD default) = true) : wrongs xs = false := by
  unfold wrongs
  rw [List.any_eq_false]
  intro x hx
  obtain ⟨j, hj, rfl⟩ := List.getElem_of_mem hx
  have := h j hj
  simp [hj] at this
  simp [this]

theorem c32 (s : Side) (w : World) : Calls Try.prog 73 #[.agg s.arr] w fun e w' => e = .returned (.bool (!right s)) ∧ Below w.heap.size w w' := by
  have hB : Below w.heap.size w (w.alloc (.cells s.arr 45)) := (Below.refl _ _).alloc (Nat.le_refl _) _
  have H := Lib.hid (c18 s (w.alloc (.cells s.arr 45)))
  have HB := Lib.hid hB
  clear hB
  generalize hr : right s = r at *
  clear hr
  unfold Side.arr at *
  go_enter Try.func73, Try.ntmps73
  go_wp2_with (go_at_call 51; refine H.out.mono ?_; rintro e w' ⟨rfl, hb⟩)
  go_ret
  exact ⟨rfl, HB.out.trans (hb.mono HB.out.size)⟩

def IdxSaid (xs : List Side) (w : World) (e : Ending) (w' : World) : Prop := ∃ i : Int, e = .returned (.int .i64 i) ∧ decide (0 ≤ i) = wrongs xs ∧ Below w.heap.size w w'

set_option maxHeartbeats 400000 in
theorem c38 (A : Option Addr) (xs : List Side) (c : Nat) (w : World) (hx : Sides w A xs) (hl : xs.length ≤ 17592186044416) :
    Calls Try.prog 76 #[.slice A xs.length c, .func (.func 73) #[] #[]] w (IdxSaid xs w) := by
  have Hx := Lib.hid hx
  clear hx
  go_enter Try.func76, Try.ntmps76
  go_wp2
  go_loopw [8] (fun i wr => ∃ k : Nat, k ≤ xs.length ∧ i = .int .i64 k ∧ Hid (∀ j, j < k → right (xs[j]?.getD default) = true) ∧ Below w.heap.size w wr) (fun i _ => xs.length - (intOf i).toNat)
  case atStart => exact ⟨0, Nat.zero_le _, rfl, fun j hj => absurd hj (Nat.not_lt_zero j), Below.refl _ _⟩
  case round =>
    obtain ⟨k, hk, rfl, hp, hB⟩ := hrel
    by_cases hlt : k < xs.length
    · obtain ⟨x, b, off, hxk, rfl, hc⟩ := (Hx.out.below hB).get k hlt
      obtain ⟨q0, q1, q2, q3, q4, q5⟩ := hc
      have h32 := c32 x wr
      cases hb : right x with
      | true =>
        rw [hb] at h32
        have Hb := Lib.hid hb
        clear hb
        have H32 := Lib.hid h32
        clear h32
        have hnext : Hid (∀ j, j < k + 1 → right (xs[j]?.getD default) = true) := fun j hj => by
          by_cases e : j = k
          · subst e; rw [hxk.out]; exact Hb.out
          · exact hp.out j (by omega)
        go_wp2_with (go_at_call 73; refine H32.out.mono ?_; rintro e w' ⟨rfl, hb'⟩)
        go_roundw
        case rel => exact ⟨k + 1, by omega, by go_num, hnext, hB.trans (hb'.mono hB.size)⟩
        case measure => simp [intOf]; omega
      | false =>
        rw [hb] at h32
        have Hb := Lib.hid hb
        clear hb
        have H32 := Lib.hid h32
        clear h32
        go_wp2_with (go_at_call 73; refine H32.out.mono ?_; rintro e w' ⟨rfl, hb'⟩)
        go_ret
        exact ⟨_, rfl, by rw [wrongs_of hlt (by rw [hxk.out]; exact Hb.out)]; simp, hB.trans (hb'.mono hB.size)⟩
    · obtain rfl : k = xs.length := by omega
      go_wp2
      go_ret
      exact ⟨_, rfl, by rw [wrongs_none hp.out]; decide, hB⟩

theorem c31 (A : Option Addr) (xs : List Side) (c : Nat) (w : World) (hx : Sides w A xs) (hl : xs.length ≤ 17592186044416) :
    Calls Try.prog 72 #[.slice A xs.length c, .func (.func 73) #[] #[]] w fun e w' => e = .returned (.bool (wrongs xs)) ∧ Below w.heap.size w w' := by
  have H := Lib.hid (c38 A xs c w hx hl)
  clear hx
  go_enter Try.func72, Try.ntmps72
  go_wp2_with (go_at_call 76; refine H.out.mono ?_; rintro e w' ⟨i, rfl, hi, hb⟩; have Hi := Lib.hid hi; clear hi)
  all_goals go_ret
  all_goals rw [← Hi.out]
  all_goals exact ⟨rfl, hb⟩

/-- contest.areRight -/
theorem c25 (A : Option Addr) (xs : List Side) (c : Nat) (w : World) (hx : Sides w A xs) (hl : xs.length ≤ 17592186044416) :
    Calls Try.prog 70 #[.slice A xs.length c] w fun e w' => e = .returned (.bool (!wrongs xs)) ∧ Below w.heap.size w w' := by
  have H := Lib.hid (c31 A xs c w hx hl)
  clear hx
  go_enter Try.func70, Try.ntmps70
  go_wp2_with (go_at_call 72; refine H.out.mono ?_; rintro e w' ⟨rfl, hb⟩)
  go_ret
  exact ⟨rfl, hb⟩

/-- a side's rank, a number at a place -/
def rank (s : Side) : List Int :=
  [if s.style = 1 then 0 else 1, if s.style = 0 then 1 else 0, -s.width, if s.style = 1 ∨ s.style = 0 then 0 else s.style, s.by_, s.row, s.col, s.color]

def rankA (s : Side) : Array Value := ((rank s).map (Value.int .i64)).toArray

theorem right_width {s : Side} (h : right s = true) : 0 ≤ s.width ∧ s.width ≤ 1073741824 := by
  have := (right_iff.1 h).2.1
  split at this <;> omega

def Side.wf (s : Side) : Prop := 0 ≤ s.color ∧ s.color ≤ 4294967295

set_option maxHeartbeats 1000000 in
/-- contest.ranked -/
theorem c33 (s : Side) (w : World) (hr : right s = true) (hc : s.wf) : Calls Try.prog 74 #[.agg s.arr] w fun e w' => e = .returned (.agg (rankA s)) ∧ Below w.heap.size w w' := by
  have hw := right_width hr
  have hra : rankA s = #[.int .i64 (if s.style = 1 then 0 else 1), .int .i64 (if s.style = 0 then 1 else 0), .int .i64 (-s.width), .int .i64 (if s.style = 1 ∨ s.style = 0 then 0 else s.style), .int .i64 s.by_, .int .i64 s.row, .int .i64 s.col, .int .i64 s.color] := rfl
  rw [hra]
  clear hra hr
  obtain ⟨sty, wid, co, by_, row, col⟩ := s
  unfold Side.wf at hc
  dsimp only at hw hc ⊢
  unfold Side.arr
  dsimp only
  have hB : Below w.heap.size w w := Below.refl _ _
  by_cases h1 : sty = 1
  · subst h1
    go_enter Try.func74, Try.ntmps74
    go_wp2
    refine bodyPost_ret (v := .agg #[.int .i64 0, .int .i64 0, .int .i64 (-wid), .int .i64 0, .int .i64 by_, .int .i64 row, .int .i64 col, .int .i64 co]) (by simp [results, Try.results74, go_sem]) rfl ⟨rfl, ?_⟩
    exact (((Below.refl _ _).alloc (Nat.le_refl _) _).alloc (by simp) _).alloc (by simp; omega) _
  · by_cases h0 : sty = 0
    · subst h0
      go_enter Try.func74, Try.ntmps74
      go_wp2
      refine bodyPost_ret (v := .agg #[.int .i64 1, .int .i64 1, .int .i64 (-wid), .int .i64 0, .int .i64 by_, .int .i64 row, .int .i64 col, .int .i64 co]) (by simp [results, Try.results74, go_sem]) rfl ⟨rfl, ?_⟩
      exact (((Below.refl _ _).alloc (Nat.le_refl _) _).alloc (by simp) _).alloc (by simp; omega) _
    · have e1 : (if sty = 1 then (0 : Int) else 1) = 1 := by rw [if_neg h1]
      have e2 : (if sty = 0 then (1 : Int) else 0) = 0 := by rw [if_neg h0]
      have e3 : (if sty = 1 ∨ sty = 0 then (0 : Int) else sty) = sty := by rw [if_neg (by omega)]
      rw [e1, e2, e3]
      have t1 : (sty == 1) = false := by rw [beq_eq_false_iff_ne]; exact h1
      have t0 : (sty == 0) = false := by rw [beq_eq_false_iff_ne]; exact h0
      clear e1 e2 e3 h0 h1
      go_enter Try.func74, Try.ntmps74
      go_wp2
      refine bodyPost_ret (v := .agg #[.int .i64 1, .int .i64 0, .int .i64 (-wid), .int .i64 sty, .int .i64 by_, .int .i64 row, .int .i64 col, .int .i64 co]) (by simp [results, Try.results74, go_sem]) rfl ⟨rfl, ?_⟩
      exact (((Below.refl _ _).alloc (Nat.le_refl _) _).alloc (by simp) _).alloc (by simp; omega) _

theorem wpIn_scope_wide {n : Nat} {P : Program} {c : Code} {Q : Exit → Act → World → Prop} {a : Act} {w : World} (h : c.wpIn Fence.wide n P (Exit.noGoto Q) a w) : (Code.scope c).wpIn Fence.wide n P Q a w :=
  wpIn_wide.2 (wp_scope_straight (wpIn_wide.1 h))

/-- contest.ranked, the numbers apart -/
theorem c33' (s : Side) (hs : right s = true) (hcs : s.wf) : ∃ r0 r1 r2 r3 r4 r5 r6 r7 : Int, Hid (rank s = [r0, r1, r2, r3, r4, r5, r6, r7]) ∧ Hid (∀ W, Calls Try.prog 74 #[.agg s.arr] W fun e w' => e = .returned (.agg #[.int .i64 r0, .int .i64 r1, .int .i64 r2, .int .i64 r3, .int .i64 r4, .int .i64 r5, .int .i64 r6, .int .i64 r7]) ∧ Below W.heap.size W w') :=
  ⟨_, _, _, _, _, _, _, _, Lib.hid rfl, fun W => c33 s W hs hcs⟩

theorem cells8 {W : World} {B : Nat} {t : TypeId} {fr : Nat × Nat} {r0 r1 r2 r3 r4 r5 r6 r7 : Int} (h : W.heap[B]? = some (.cells #[.int .i64 r0, .int .i64 r1, .int .i64 r2, .int .i64 r3, .int .i64 r4, .int .i64 r5, .int .i64 r6, .int .i64 r7] t fr)) :
    W.cell? ⟨B, 0, none⟩ = some (.int .i64 r0) ∧ W.cell? ⟨B, 1, none⟩ = some (.int .i64 r1) ∧ W.cell? ⟨B, 2, none⟩ = some (.int .i64 r2) ∧ W.cell? ⟨B, 3, none⟩ = some (.int .i64 r3) ∧ W.cell? ⟨B, 4, none⟩ = some (.int .i64 r4) ∧ W.cell? ⟨B, 5, none⟩ = some (.int .i64 r5) ∧ W.cell? ⟨B, 6, none⟩ = some (.int .i64 r6) ∧ W.cell? ⟨B, 7, none⟩ = some (.int .i64 r7) := by
  simp [World.cell?, h]

/-- The blocks of a set lie as they lay. -/
structure Keeps (S : Nat → Prop) (w w' : World) : Prop where
  os : w'.os = w.os
  tape : w'.tape = w.tape
  output : w'.output = w.output
  size : w.heap.size ≤ w'.heap.size
  block : ∀ k, S k → w'.heap[k]? = w.heap[k]?

theorem Keeps.refl (S : Nat → Prop) (w : World) : Keeps S w w := ⟨rfl, rfl, rfl, Nat.le_refl _, fun _ _ => rfl⟩

theorem Keeps.trans {S : Nat → Prop} {a b c : World} (h : Keeps S a b) (k : Keeps S b c) : Keeps S a c :=
  ⟨k.os.trans h.os, k.tape.trans h.tape, k.output.trans h.output, Nat.le_trans h.size k.size, fun i hi => (k.block i hi).trans (h.block i hi)⟩

theorem Keeps.cell {S : Nat → Prop} {w w' : World} (h : Keeps S w w') {p : Addr} (hp : S p.block) : w'.cell? p = w.cell? p := World.cell?_of_block (w := w) (h.block p.block hp)

theorem Keeps.putObj {S : Nat → Prop} (w : World) (hS : ∀ k, S k → k < w.heap.size) (W : World) (l : Nat) (o o' : Obj) (hl : w.heap.size ≤ l) (_ : W.heap[l]? = some o) (_ : o.isCells = false) (_ : o.isWalk = false) : Keeps S W (W.putObj l o') :=
  have hg := grownBy_putObj' W l o'
  ⟨rfl, rfl, rfl, hg.size, fun k hk => World.putObj_heap_other (fun e => by have := hS k hk; omega)⟩

theorem Keeps.setCell {S : Nat → Prop} {a w : World} (h : Keeps S a w) {p : Addr} (hp : ¬ S p.block) (u : Value) : Keeps S a (w.setCell p u) :=
  h.trans ⟨rfl, rfl, rfl, by simp [World.setCell], fun k hk => Below.heap_setCell _ _ _ _ (fun e => hp (e ▸ hk))⟩

theorem Keeps.below {S : Nat → Prop} {B : Nat} {w w' : World} (h : Keeps S w w') (hS : ∀ k, k < B → S k) : Below B w w' :=
  ⟨h.os, h.tape, h.output, h.size, fun k hk => h.block k (hS k hk)⟩

theorem Keeps.setBox {S : Nat → Prop} {a w : World} (h : Keeps S a w) (B : Nat) (hp : ¬ S B) (u : Value) : Keeps S a (w.setCell ⟨B, 0, none⟩ u) := h.setCell (p := ⟨B, 0, none⟩) hp u

def upto {α : Type} (f : Nat → α) (k : Nat) : List α := (List.range k).map f

theorem upto_succ {α : Type} (f : Nat → α) (k : Nat) : upto f (k + 1) = upto f k ++ [f k] := by simp [upto, List.range_succ]

theorem upto_length {α : Type} (f : Nat → α) (k : Nat) : (upto f k).length = k := by simp [upto]

/-- contest.steps -/
theorem c34 (R Q : Array Value) (w : World) :
    Calls Try.prog 75 #[.agg R, .agg Q] w fun e w' => e = .returned (.func (.func 77) #[] #[.pointer (some ⟨w.heap.size, 0, none⟩), .pointer (some ⟨w.heap.size + 1, 0, none⟩)]) ∧
      (w.alloc (.cells R 131)).alloc (.cells Q 131) = w' := by
  go_enter Try.func75, Try.ntmps75
  go_wp2
  go_ret
  exact ⟨rfl, rfl⟩

def nth (l : List Int) (k : Nat) : Int := l[k]?.getD 0

def pair (rl ql : List Int) (k : Nat) : Int × Int := (nth rl k, nth ql k)

def encP (p : Int × Int) : Array Value := #[.int .i64 p.1, .int .i64 p.2]

theorem idx59 (r0 r1 r2 r3 r4 r5 r6 r7 : Int) (k : Nat) (hk : k < 8) (W : World) : (Instr.index 131 (.agg #[.int .i64 r0, .int .i64 r1, .int .i64 r2, .int .i64 r3, .int .i64 r4, .int .i64 r5, .int .i64 r6, .int .i64 r7]) (.int .i64 k)).run Try.prog W = .ok (.int .i64 (nth [r0, r1, r2, r3, r4, r5, r6, r7] k)) W := by
  rcases k with _ | _ | _ | _ | _ | _ | _ | _ | k
  iterate 8 kernel_rfl
  omega

theorem cell8 {W : World} {B : Nat} {t : TypeId} {fr : Nat × Nat} (q0 q1 q2 q3 q4 q5 q6 q7 : Int) (h : W.heap[B]? = some (.cells #[.int .i64 q0, .int .i64 q1, .int .i64 q2, .int .i64 q3, .int .i64 q4, .int .i64 q5, .int .i64 q6, .int .i64 q7] t fr)) (k : Nat) (hk : k < 8) : W.cell? ⟨B, k, none⟩ = some (.int .i64 (nth [q0, q1, q2, q3, q4, q5, q6, q7] k)) := by
  rcases k with _ | _ | _ | _ | _ | _ | _ | _ | k
  iterate 8 (simp [World.cell?, h, nth])
  omega

set_option maxHeartbeats 2000000 in
/-- steps' closure -/
theorem c39 (F : Fence) (n : Nat) (h39 : F.fn 77) (hro : F.round = none) (l Ba Bb : Nat) (S : Nat → Prop) (r0 r1 r2 r3 r4 r5 r6 r7 q0 q1 q2 q3 q4 q5 q6 q7 : Int) (hSb : S Bb) (J Jx : List (Int × Int) → World → Prop) (hn : 1 ≤ n)
    (hY : ∀ pre x W, J pre W → pre.length < 8 → YieldAt F (n - 1) Try.prog l (encP x) W fun e W' =>
      (e = .returned (.bool true) ∧ J (pre ++ [x]) W' ∧ Keeps S W W') ∨ (e = .returned (.bool false) ∧ Jx (pre ++ [x]) W'))
    (W : World) (hA : W.heap[Ba]? = some (.cells #[.int .i64 r0, .int .i64 r1, .int .i64 r2, .int .i64 r3, .int .i64 r4, .int .i64 r5, .int .i64 r6, .int .i64 r7] 131 (0, 0))) (hB : W.heap[Bb]? = some (.cells #[.int .i64 q0, .int .i64 q1, .int .i64 q2, .int .i64 q3, .int .i64 q4, .int .i64 q5, .int .i64 q6, .int .i64 q7] 131 (0, 0))) (h0 : J [] W) :
    CallsIn F n Try.prog 77 #[.func (.yield l) #[] #[], .pointer (some ⟨Ba, 0, none⟩), .pointer (some ⟨Bb, 0, none⟩)] W fun e W' => (∃ v, e = .returned v) ∧
      ((∃ ys, ys = upto (pair [r0, r1, r2, r3, r4, r5, r6, r7] [q0, q1, q2, q3, q4, q5, q6, q7]) 8 ∧ J ys W') ∨ (∃ pre, (∃ k, k ≤ 8 ∧ pre = upto (pair [r0, r1, r2, r3, r4, r5, r6, r7] [q0, q1, q2, q3, q4, q5, q6, q7]) k) ∧ Jx pre W')) := by
  obtain ⟨c0, c1, c2, c3, c4, c5, c6, c7⟩ := cells8 hA
  have HJ0 := Lib.hid h0
  have HSb := Lib.hid hSb
  have HB := Lib.hid hB
  clear h0 hSb hB hA
  refine callsIn_of_wp Try.func77 rfl h39 ?_ hro
  simp only [Try.ntmps77, List.size_toArray, List.length_cons, List.length_nil, Nat.reduceAdd, Nat.reduceSub, Array.replicate_succ, Array.replicate_zero, List.push_toArray, List.append_toArray, List.nil_append, List.cons_append]
  gi_wp2
  gi_loopw [7] (fun i wr => ∃ k : Nat, k ≤ 8 ∧ i = .int .i64 k ∧ Hid (J (upto (pair [r0, r1, r2, r3, r4, r5, r6, r7] [q0, q1, q2, q3, q4, q5, q6, q7]) k) wr) ∧ Hid (Keeps S W wr)) (fun i _ => 8 - (intOf i).toNat)
  case atStart => exact ⟨0, Nat.zero_le _, rfl, HJ0, Lib.hid (Keeps.refl _ _)⟩
  case round =>
    clear c0 c1 c2 c3 c4 c5 c6 c7
    obtain ⟨k, hk, rfl, hJs, hnx⟩ := hrel
    by_cases hlt : k < 8
    · have hi := idx59 r0 r1 r2 r3 r4 r5 r6 r7 k hlt
      have hc := cell8 q0 q1 q2 q3 q4 q5 q6 q7 ((hnx.out.block Bb HSb.out).trans HB.out) k hlt
      obtain ⟨fn, tmps, assign, body, hy, hR⟩ := hY _ (pair [r0, r1, r2, r3, r4, r5, r6, r7] [q0, q1, q2, q3, q4, q5, q6, q7] k) wr hJs.out (by rw [upto_length]; exact hlt)
      have HR := Lib.hid hR
      clear hR hY
      dsimp only [encP, pair] at hy
      generalize nth [r0, r1, r2, r3, r4, r5, r6, r7] k = x at *
      generalize nth [q0, q1, q2, q3, q4, q5, q6, q7] k = y at *
      gi_wp2
      refine HR.out.mono ?_
      rintro e W3 (⟨rfl, hJ3, hk3⟩ | ⟨rfl, hJx3⟩)
      · have HJ3 := Lib.hid hJ3
        have Hk3 := Lib.hid (hnx.out.trans hk3)
        clear hJ3 hk3 hc
        gi_wp2
        go_roundw
        case rel => exact ⟨k + 1, by omega, by simp, by rw [upto_succ]; exact HJ3, Hk3⟩
        case measure => simp [intOf]; omega
      · have HJ3 := Lib.hid hJx3
        clear hJx3 hc
        gi_wp2
        refine bodyPost_ret (results_none rfl _ _ _) rfl ?_
        exact ⟨⟨_, rfl⟩, .inr ⟨_, ⟨k + 1, by omega, (upto_succ _ _).symm⟩, HJ3.out⟩⟩
    · obtain rfl : k = 8 := by omega
      clear hY
      gi_wp2
      go_end0
      exact ⟨⟨_, rfl⟩, .inl ⟨_, rfl, hJs.out⟩⟩

theorem c39_stops (F : Fence) (n : Nat) (h39 : F.fn 77) (hro : F.round = none) (hn : 1 ≤ n) (Ba Bb : Nat) (S : Nat → Prop) (r0 r1 r2 r3 r4 r5 r6 r7 q0 q1 q2 q3 q4 q5 q6 q7 : Int) (hSb : S Bb) (w : World)
    (hA : w.heap[Ba]? = some (.cells #[.int .i64 r0, .int .i64 r1, .int .i64 r2, .int .i64 r3, .int .i64 r4, .int .i64 r5, .int .i64 r6, .int .i64 r7] 131 (0, 0))) (hB : w.heap[Bb]? = some (.cells #[.int .i64 q0, .int .i64 q1, .int .i64 q2, .int .i64 q3, .int .i64 q4, .int .i64 q5, .int .i64 q6, .int .i64 q7] 131 (0, 0))) :
    SeqStopsK F n Try.prog 77 #[.pointer (some ⟨Ba, 0, none⟩), .pointer (some ⟨Bb, 0, none⟩)] encP (Keeps S) (fun ys => ys = upto (pair [r0, r1, r2, r3, r4, r5, r6, r7] [q0, q1, q2, q3, q4, q5, q6, q7]) 8) (fun pre => ∃ k, k ≤ 8 ∧ pre = upto (pair [r0, r1, r2, r3, r4, r5, r6, r7] [q0, q1, q2, q3, q4, q5, q6, q7]) k) 8 w := fun l J Jx W hW _ _ hY h0 => by
  have k1 := (hW.block Ba (Array.getElem?_eq_some_iff.1 hA).1).trans hA
  have k2 := (hW.block Bb (Array.getElem?_eq_some_iff.1 hB).1).trans hB
  exact c39 F n h39 hro l Ba Bb S r0 r1 r2 r3 r4 r5 r6 r7 q0 q1 q2 q3 q4 q5 q6 q7 hSb J Jx hn hY W k1 k2 h0

/-- what holds between the operations of order's second statement -/
def OrdInv (W0 : World) (b2 b3 : Nat) (sa ta R Q : Array Value) (done : Nat → Bool) (a : Act) (W : World) : Prop :=
  ∃ v5 v6 v10 v11 v12 v13 : Value, a = { tmps := #[.agg sa, .agg ta, .pointer (some ⟨b2, 0, none⟩), .pointer (some ⟨b3, 0, none⟩), .int .i64 0, v5, v6, undef, undef, undef, v10, v11, v12, v13, undef, undef, undef, undef, undef, undef, undef, undef, undef, undef, undef, undef, undef, undef, undef], defers := [] } ∧
    Below W0.heap.size W0 W ∧ (done 0 = true → v10 = .agg sa) ∧ (done 1 = true → v11 = .agg R) ∧ (done 2 = true → v12 = .agg ta) ∧ (done 3 = true → v13 = .agg Q) ∧
    (done 4 = true → ∃ B, v5 = .pointer (some ⟨B, 0, none⟩) ∧ W0.heap.size ≤ B ∧ W.heap[B]? = some (.cells (if done 6 then R else #[.int .i64 0, .int .i64 0, .int .i64 0, .int .i64 0, .int .i64 0, .int .i64 0, .int .i64 0, .int .i64 0]) 131 (0, 0)) ∧ (done 5 = true → v6 ≠ .pointer (some ⟨B, 0, none⟩))) ∧
    (done 5 = true → ∃ B, v6 = .pointer (some ⟨B, 0, none⟩) ∧ W0.heap.size ≤ B ∧ W.heap[B]? = some (.cells (if done 7 then Q else #[.int .i64 0, .int .i64 0, .int .i64 0, .int .i64 0, .int .i64 0, .int .i64 0, .int .i64 0, .int .i64 0]) 131 (0, 0))) ∧
    (done 6 = true → done 4 = true) ∧ (done 7 = true → done 5 = true)

theorem below_setRow {B0 B : Nat} {W : World} {cs : Array Value} (hs : B0 ≤ W.heap.size) (hB : B0 ≤ B) : Below B0 W (W.setRow B cs) :=
  ⟨rfl, rfl, rfl, by simp, fun k hk => setRow_other _ _ _ _ (by omega)⟩

theorem eq59 (r0 r1 r2 r3 r4 r5 r6 r7 q0 q1 q2 q3 q4 q5 q6 q7 : Int) (w : World) : (Op.equalIn 10000 131 (.agg #[.int .i64 r0, .int .i64 r1, .int .i64 r2, .int .i64 r3, .int .i64 r4, .int .i64 r5, .int .i64 r6, .int .i64 r7]) (.agg #[.int .i64 q0, .int .i64 q1, .int .i64 q2, .int .i64 q3, .int .i64 q4, .int .i64 q5, .int .i64 q6, .int .i64 q7])).run Try.prog w = .ok (decide ([r0, r1, r2, r3, r4, r5, r6, r7] = [q0, q1, q2, q3, q4, q5, q6, q7])) w := by
  have u2 := Try.underlying2
  have a2 := Try.isAgg2
  have z2 := Try.sizeOf2
  rw [show (10000 : Nat) = 9999 + 1 from rfl, Op.equalIn]
  simp only [Sem.run_bind, run_underlying Try.underlying131, Result.andThen_ok]
  simp only [Std.Legacy.Range.forIn_eq_forIn_range', Std.Legacy.Range.size, Nat.sub_zero, Nat.add_sub_cancel, Nat.div_one, List.range'_succ, List.range'_zero, List.forIn_cons, List.forIn_nil]
  go_simp
  by_cases h0 : r0 = q0
  case neg => simp [h0]
  subst h0
  by_cases h1 : r1 = q1
  case neg => simp [h1]
  subst h1
  by_cases h2 : r2 = q2
  case neg => simp [h2]
  subst h2
  by_cases h3 : r3 = q3
  case neg => simp [h3]
  subst h3
  by_cases h4 : r4 = q4
  case neg => simp [h4]
  subst h4
  by_cases h5 : r5 = q5
  case neg => simp [h5]
  subst h5
  by_cases h6 : r6 = q6
  case neg => simp [h6]
  subst h6
  by_cases h7 : r7 = q7
  case neg => simp [h7]
  subst h7
  simp

theorem more_self (done : Nat → Bool) (i : Nat) : more done i i = true := by simp [more]

theorem more_ne (done : Nat → Bool) {i j : Nat} (h : j ≠ i) : more done i j = done j := by simp [more, h]

def lexl : List Int → List Int → Int
  | x :: l, y :: m => if x = y then lexl l m else if x < y then -1 else 1
  | _, _ => 1

/-- -1: the first is ahead, 1: the second, 0: they are the same -/
def ordl (l m : List Int) : Int := if l = m then 0 else lexl l m

def AllEq (pre : List (Int × Int)) : Prop := ∀ p ∈ pre, p.1 = p.2

theorem alleq8 {r0 r1 r2 r3 r4 r5 r6 r7 q0 q1 q2 q3 q4 q5 q6 q7 : Int} (h : AllEq (upto (pair [r0, r1, r2, r3, r4, r5, r6, r7] [q0, q1, q2, q3, q4, q5, q6, q7]) 8)) : [r0, r1, r2, r3, r4, r5, r6, r7] = [q0, q1, q2, q3, q4, q5, q6, q7] := by
  have e0 := h (r0, q0) (by simp [upto, pair, nth, List.range_succ])
  have e1 := h (r1, q1) (by simp [upto, pair, nth, List.range_succ])
  have e2 := h (r2, q2) (by simp [upto, pair, nth, List.range_succ])
  have e3 := h (r3, q3) (by simp [upto, pair, nth, List.range_succ])
  have e4 := h (r4, q4) (by simp [upto, pair, nth, List.range_succ])
  have e5 := h (r5, q5) (by simp [upto, pair, nth, List.range_succ])
  have e6 := h (r6, q6) (by simp [upto, pair, nth, List.range_succ])
  have e7 := h (r7, q7) (by simp [upto, pair, nth, List.range_succ])
  simp_all

theorem upto_shift {α : Type} (f : Nat → α) (k : Nat) : upto f (k + 1) = f 0 :: upto (fun i => f (i + 1)) k := by
  simp [upto, List.range_succ_eq_map]

theorem lexl_at : ∀ (k : Nat) (rl ql : List Int) (ini : List (Int × Int)) (x y : Int), k ≤ rl.length → k ≤ ql.length → upto (pair rl ql) k = ini ++ [(x, y)] → AllEq ini → x ≠ y → lexl rl ql = if x < y then -1 else 1
  | 0, rl, ql, ini, x, y, _, _, h, _, _ => by simp [upto] at h
  | k + 1, [], _, _, _, _, hl, _, _, _, _ => by simp at hl
  | k + 1, _ :: _, [], _, _, _, _, hl, _, _, _ => by simp at hl
  | k + 1, r :: rl, q :: ql, [], x, y, h1, h2, h, he, hn => by
    rw [upto_shift] at h
    simp only [List.nil_append, List.cons.injEq] at h
    obtain ⟨h, -⟩ := h
    simp only [pair, nth, Prod.mk.injEq, List.getElem?_cons_zero, Option.getD_some] at h
    obtain ⟨rfl, rfl⟩ := h
    simp only [lexl, if_neg hn]
  | k + 1, r :: rl, q :: ql, p :: ini, x, y, h1, h2, h, he, hn => by
    rw [upto_shift] at h
    simp only [List.cons_append, List.cons.injEq] at h
    obtain ⟨h, ht⟩ := h
    have hp := he p (by simp)
    rw [← h] at hp
    simp only [pair, nth, List.getElem?_cons_zero, Option.getD_some] at hp
    subst hp
    simp only [lexl, if_true]
    refine lexl_at k rl ql ini x y (by simpa using h1) (by simpa using h2) ?_ (fun p hp => he p (by simp [hp])) hn
    rw [← ht]
    simp [upto, pair, nth]

theorem lexl_first {r0 r1 r2 r3 r4 r5 r6 r7 q0 q1 q2 q3 q4 q5 q6 q7 : Int} {ini : List (Int × Int)} {x y : Int} (k : Nat) (hk : k ≤ 8) (h : upto (pair [r0, r1, r2, r3, r4, r5, r6, r7] [q0, q1, q2, q3, q4, q5, q6, q7]) k = ini ++ [(x, y)]) (he : AllEq ini) (hn : x ≠ y) :
    lexl [r0, r1, r2, r3, r4, r5, r6, r7] [q0, q1, q2, q3, q4, q5, q6, q7] = if x < y then -1 else 1 := lexl_at k _ _ ini x y hk hk h he hn

def OrdI (w : World) (B : Nat) (pre : List (Int × Int)) (W : World) : Prop := Boxed W B 3 (.int .i64 1) ∧ Below w.heap.size w W ∧ AllEq pre

theorem ordI_own (w : World) (B C : Nat) (hC : w.heap.size ≤ C) : OwnFrom C (OrdI w B) :=
  OwnFrom.and (Own.from (boxed_own _ _ (fun _ : List (Int × Int) => Value.int .i64 1)) _) (OwnFrom.and (ownFrom_below (Nat.le_refl _) hC) (ownFrom_pure _ _))

def OrdX (w : World) (B : Nat) (c : Code) (pre : List (Int × Int)) (W : World) : Prop := c = .exit 0 ∧ ∃ ini x y v, pre = ini ++ [(x, y)] ∧ AllEq ini ∧ x ≠ y ∧ v = (if x < y then (-1 : Int) else 1) ∧ Boxed W B 3 (.int .i64 v) ∧ Below w.heap.size w W

theorem ordX_own (w : World) (B C : Nat) (hC : w.heap.size ≤ C) (c : Code) : OwnFrom C (OrdX w B c) := fun s X Y row hs hg hr => by
  obtain ⟨hc, ini, x, y, v, e1, e2, e3, e4, hb, hw⟩ := hs
  have := OwnFrom.and (Own.from (boxed_own B 3 (fun _ : List (Int × Int) => Value.int .i64 v)) C) (ownFrom_below (w₀ := w) (Nat.le_refl w.heap.size) hC) s X Y row ⟨hb, hw⟩ hg hr
  exact ⟨hc, ini, x, y, v, e1, e2, e3, e4, this.1, this.2⟩

set_option maxRecDepth 100000 in
set_option maxHeartbeats 2000000 in
theorem c26_first (w : World) (s0 s1 s2 s3 s4 s5 t0 t1 t2 t3 t4 t5 r0 r1 r2 r3 r4 r5 r6 r7 q0 q1 q2 q3 q4 q5 q6 q7 : Int)
    (Hs : Hid (∀ W, Calls Try.prog 74 #[.agg #[.int .i64 s0, .int .i64 s1, .int .u32 s2, .int .i64 s3, .int .i64 s4, .int .i64 s5]] W fun e w' => e = .returned (.agg #[.int .i64 r0, .int .i64 r1, .int .i64 r2, .int .i64 r3, .int .i64 r4, .int .i64 r5, .int .i64 r6, .int .i64 r7]) ∧ Below W.heap.size W w'))
    (Ht : Hid (∀ W, Calls Try.prog 74 #[.agg #[.int .i64 t0, .int .i64 t1, .int .u32 t2, .int .i64 t3, .int .i64 t4, .int .i64 t5]] W fun e w' => e = .returned (.agg #[.int .i64 q0, .int .i64 q1, .int .i64 q2, .int .i64 q3, .int .i64 q4, .int .i64 q5, .int .i64 q6, .int .i64 q7]) ∧ Below W.heap.size W w')) :
    Calls Try.prog 71 #[.agg #[.int .i64 s0, .int .i64 s1, .int .u32 s2, .int .i64 s3, .int .i64 s4, .int .i64 s5], .agg #[.int .i64 t0, .int .i64 t1, .int .u32 t2, .int .i64 t3, .int .i64 t4, .int .i64 t5]] w fun e w' => e = .returned (.int .i64 (ordl [r0, r1, r2, r3, r4, r5, r6, r7] [q0, q1, q2, q3, q4, q5, q6, q7])) ∧ Below w.heap.size w w' := by
  refine (callsIn_wide (n := 3)).1 ?_
  refine callsIn_of_wp_marks Try.func71 rfl trivial ?_ rfl
  simp only [Try.ntmps71, List.size_toArray, List.length_cons, List.length_nil, Nat.reduceAdd, Nat.reduceSub, Array.replicate_succ, Array.replicate_zero, List.push_toArray, List.append_toArray, List.nil_append, List.cons_append]
  gi_wp2
  refine wpIn_scope_wide ?_
  gi_wp2_with fail
  refine wpIn_wide.2 ?_
  obtain ⟨W0, hW0⟩ : ∃ W0, (w.alloc (.cells #[.int .i64 s0, .int .i64 s1, .int .u32 s2, .int .i64 s3, .int .i64 s4, .int .i64 s5] 45)).alloc (.cells #[.int .i64 t0, .int .i64 t1, .int .u32 t2, .int .i64 t3, .int .i64 t4, .int .i64 t5] 45) = W0 := ⟨_, rfl⟩
  have g2 : W0.heap[w.heap.size]? = some (.cells #[.int .i64 s0, .int .i64 s1, .int .u32 s2, .int .i64 s3, .int .i64 s4, .int .i64 s5] 45 (0, 0)) := by rw [← hW0]; exact (Below.heap_alloc _ _ _ (by simp)).trans (heap_alloc_new w _)
  have g3 : W0.heap[w.heap.size + 1]? = some (.cells #[.int .i64 t0, .int .i64 t1, .int .u32 t2, .int .i64 t3, .int .i64 t4, .int .i64 t5] 45 (0, 0)) := by
    have := heap_alloc_new (w.alloc (.cells #[.int .i64 s0, .int .i64 s1, .int .u32 s2, .int .i64 s3, .int .i64 s4, .int .i64 s5] 45)) (.cells #[.int .i64 t0, .int .i64 t1, .int .u32 t2, .int .i64 t3, .int .i64 t4, .int .i64 t5] 45)
    rw [World.size_alloc, hW0] at this; exact this
  rw [hW0]
  refine wp_region_done (by kernel_rfl) (by kernel_rfl) (OrdInv W0 w.heap.size (w.heap.size + 1) #[.int .i64 s0, .int .i64 s1, .int .u32 s2, .int .i64 s3, .int .i64 s4, .int .i64 s5] #[.int .i64 t0, .int .i64 t1, .int .u32 t2, .int .i64 t3, .int .i64 t4, .int .i64 t5] #[.int .i64 r0, .int .i64 r1, .int .i64 r2, .int .i64 r3, .int .i64 r4, .int .i64 r5, .int .i64 r6, .int .i64 r7] #[.int .i64 q0, .int .i64 q1, .int .i64 q2, .int .i64 q3, .int .i64 q4, .int .i64 q5, .int .i64 q6, .int .i64 q7]) ?_ ?_ ?_
  · exact ⟨_, _, _, _, _, _, rfl, (Below.refl _ _).drew, fun h => by simp at h, fun h => by simp at h, fun h => by simp at h, fun h => by simp at h, fun h => by simp at h, fun h => by simp at h, fun h => by simp at h, fun h => by simp at h⟩
  · rintro done i o a W ho hd he ⟨v5, v6, v10, v11, v12, v13, rfl, hB, i0, i1, i2, i3, i4, i5, i6, i7⟩ K hK
    have l2 : w.heap.size < W0.heap.size := (Array.getElem?_eq_some_iff.1 g2).1
    have l3 : w.heap.size + 1 < W0.heap.size := (Array.getElem?_eq_some_iff.1 g3).1
    have gW2 := (hB.block _ l2).trans g2
    have gW3 := (hB.block _ l3).trans g3
    rcases i with _ | _ | _ | _ | _ | _ | _ | _ | i
    · obtain rfl := Option.some.inj ho
      refine wpOp_plain ho rfl ?_
      refine wp_load_row 45 _ rfl w.heap.size rfl 45 _ _ _ gW2 Try.underlying45 rfl (by kernel_rfl) ?_
      refine hK _ _ ⟨v5, v6, _, v11, v12, v13, rfl, hB, fun _ => rfl, fun h => i1 h, fun h => i2 h, fun h => i3 h, fun h => i4 h, fun h => i5 h, fun h => i6 h, fun h => i7 h⟩
    · obtain rfl := Option.some.inj ho
      obtain rfl := i0 (he ⟨0, .data⟩ (by simp) rfl)
      refine wpOp_plain ho rfl ?_
      clear ho hd he
      go_wp2_with (go_at_call 74; refine (Hs.out _).mono ?_; rintro e w1 ⟨rfl, hb⟩)
      exact ⟨v5, v6, _, _, v12, v13, rfl, hB.trans (hb.mono hB.size), fun _ => rfl, fun _ => rfl, fun h => i2 h, fun h => i3 h, (fun h => by obtain ⟨B, e1, e2, e3, e4⟩ := i4 h; exact ⟨B, e1, e2, (hb.block B (Array.getElem?_eq_some_iff.1 e3).1).trans e3, e4⟩), (fun h => by obtain ⟨B, e1, e2, e3⟩ := i5 h; exact ⟨B, e1, e2, (hb.block B (Array.getElem?_eq_some_iff.1 e3).1).trans e3⟩), fun h => i6 h, fun h => i7 h⟩
    · obtain rfl := Option.some.inj ho
      refine wpOp_plain ho rfl ?_
      refine wp_load_row 45 _ rfl (w.heap.size + 1) rfl 45 _ _ _ gW3 Try.underlying45 rfl (by kernel_rfl) ?_
      refine hK _ _ ⟨v5, v6, v10, v11, _, v13, rfl, hB, fun h => i0 h, fun h => i1 h, fun _ => rfl, fun h => i3 h, fun h => i4 h, fun h => i5 h, fun h => i6 h, fun h => i7 h⟩
    · obtain rfl := Option.some.inj ho
      obtain rfl := i2 (he ⟨2, .data⟩ (by simp) rfl)
      refine wpOp_plain ho rfl ?_
      clear ho hd he
      go_wp2_with (go_at_call 74; refine (Ht.out _).mono ?_; rintro e w1 ⟨rfl, hb⟩)
      exact ⟨v5, v6, v10, v11, _, _, rfl, hB.trans (hb.mono hB.size), fun h => i0 h, fun h => i1 h, fun _ => rfl, fun _ => rfl, (fun h => by obtain ⟨B, e1, e2, e3, e4⟩ := i4 h; exact ⟨B, e1, e2, (hb.block B (Array.getElem?_eq_some_iff.1 e3).1).trans e3, e4⟩), (fun h => by obtain ⟨B, e1, e2, e3⟩ := i5 h; exact ⟨B, e1, e2, (hb.block B (Array.getElem?_eq_some_iff.1 e3).1).trans e3⟩), fun h => i6 h, fun h => i7 h⟩
    · obtain rfl := Option.some.inj ho
      refine wpOp_plain ho rfl ?_
      have h6 : done 6 = false := by cases h : done 6 with
        | false => rfl
        | true => exact absurd (i6 h) (by rw [hd]; simp)
      clear ho he
      go_wp2
      have hb : Below W.heap.size W (W.alloc (.cells #[.int .i64 0, .int .i64 0, .int .i64 0, .int .i64 0, .int .i64 0, .int .i64 0, .int .i64 0, .int .i64 0] 131)) := (Below.refl _ _).alloc (Nat.le_refl _) _
      exact ⟨_, v6, v10, v11, v12, v13, rfl, hB.alloc hB.size _, fun h => i0 h, fun h => i1 h, fun h => i2 h, fun h => i3 h, fun _ => ⟨W.heap.size, rfl, hB.size, by rw [more_ne _ (by decide), h6]; exact heap_alloc_new W _, fun h => by obtain ⟨B, e1, e2, e3⟩ := i5 h; intro e; rw [e1] at e; have := (Array.getElem?_eq_some_iff.1 e3).1; simp at e <;> omega⟩, (fun h => by obtain ⟨B, e1, e2, e3⟩ := i5 h; exact ⟨B, e1, e2, (hb.block B (Array.getElem?_eq_some_iff.1 e3).1).trans e3⟩), fun _ => rfl, fun h => i7 h⟩
    · obtain rfl := Option.some.inj ho
      refine wpOp_plain ho rfl ?_
      have h7 : done 7 = false := by cases h : done 7 with
        | false => rfl
        | true => exact absurd (i7 h) (by rw [hd]; simp)
      clear ho he
      go_wp2
      have hb : Below W.heap.size W (W.alloc (.cells #[.int .i64 0, .int .i64 0, .int .i64 0, .int .i64 0, .int .i64 0, .int .i64 0, .int .i64 0, .int .i64 0] 131)) := (Below.refl _ _).alloc (Nat.le_refl _) _
      exact ⟨v5, _, v10, v11, v12, v13, rfl, hB.alloc hB.size _, fun h => i0 h, fun h => i1 h, fun h => i2 h, fun h => i3 h, (fun h => by obtain ⟨B, e1, e2, e3, e4⟩ := i4 h; exact ⟨B, e1, e2, (hb.block B (Array.getElem?_eq_some_iff.1 e3).1).trans e3, fun _ e => by have := (Array.getElem?_eq_some_iff.1 e3).1; simp at e <;> omega⟩), fun _ => ⟨W.heap.size, rfl, hB.size, by rw [more_ne _ (by decide), h7]; exact heap_alloc_new W _⟩, fun h => i6 h, fun _ => rfl⟩
    · obtain rfl := Option.some.inj ho
      obtain rfl := i1 (he ⟨1, .data⟩ (by simp) rfl)
      obtain ⟨B, rfl, e2, e3, e4⟩ := i4 (he ⟨4, .data⟩ (by simp) rfl)
      rw [hd] at e3
      refine wpOp_plain ho rfl ?_
      refine wp_store_row 131 _ _ rfl B _ rfl rfl 131 _ e3 (by kernel_rfl) rfl (by simp [Value.oneCell']) ?_
      have d5 := he ⟨5, .phase⟩ (by simp) rfl
      obtain ⟨B', rfl, f2, f3⟩ := i5 d5
      have hne : B' ≠ B := fun e => e4 d5 (by rw [e])
      refine hK _ _ ⟨_, _, v10, _, v12, v13, rfl, hB.trans (below_setRow hB.size e2), i0, i1, i2, i3, fun _ => ⟨B, rfl, e2, by rw [more_self]; exact setRow_heap _ _ _ _ _ _ e3, fun _ => e4 d5⟩, fun _ => ⟨B', rfl, f2, by rw [more_ne _ (by decide), setRow_other _ _ _ _ hne]; exact f3⟩, fun _ => he ⟨4, .data⟩ (by simp) rfl, i7⟩
    · obtain rfl := Option.some.inj ho
      obtain rfl := i3 (he ⟨3, .data⟩ (by simp) rfl)
      obtain ⟨B, rfl, e2, e3⟩ := i5 (he ⟨5, .data⟩ (by simp) rfl)
      rw [hd] at e3
      refine wpOp_plain ho rfl ?_
      refine wp_store_row 131 _ _ rfl B _ rfl rfl 131 _ e3 (by kernel_rfl) rfl (by simp [Value.oneCell']) ?_
      have d5 := he ⟨5, .data⟩ (by simp) rfl
      obtain ⟨B', rfl, f2, f3, f4⟩ := i4 (he ⟨4, .phase⟩ (by simp) rfl)
      have hne : B' ≠ B := fun e => f4 d5 (by rw [e])
      refine hK _ _ ⟨_, _, v10, v11, v12, _, rfl, hB.trans (below_setRow hB.size e2), i0, i1, i2, i3, fun _ => ⟨B', rfl, f2, by rw [more_ne _ (by decide), setRow_other _ _ _ _ hne]; exact f3, fun _ => f4 d5⟩, fun _ => ⟨B, rfl, e2, by rw [more_self]; exact setRow_heap _ _ _ _ _ _ e3⟩, i6, fun _ => d5⟩
    · exact absurd (Array.getElem?_eq_some_iff.1 ho).1 (by simp)
  · rintro done a W hall ⟨v5, v6, v10, v11, v12, v13, rfl, hB, i0, i1, i2, i3, i4, i5, i6, i7⟩
    obtain ⟨B5, rfl, e2, e3, e4⟩ := i4 (hall 4 (by simp))
    obtain ⟨B6, rfl, f2, f3⟩ := i5 (hall 5 (by simp))
    rw [hall 6 (by simp)] at e3
    rw [hall 7 (by simp)] at f3
    simp only [if_true] at e3 f3
    clear i0 i1 i2 i3 i4 i5 i6 i7 hall
    obtain ⟨c0, c1, c2, c3, c4, c5, c6, c7⟩ := cells8 e3
    obtain ⟨d0, d1, d2, d3, d4, d5, d6, d7⟩ := cells8 f3
    have E3 := Lib.hid e3
    have F3 := Lib.hid f3
    clear e3 f3 g2 g3
    have hBw : Below w.heap.size w W := (show Below w.heap.size w W0 by rw [← hW0]; exact ((Below.refl _ w).alloc (Nat.le_refl _) _).alloc (by simp) _).trans (hB.mono (by rw [← hW0, World.size_alloc, World.size_alloc]; omega))
    have hq := eq59 r0 r1 r2 r3 r4 r5 r6 r7 q0 q1 q2 q3 q4 q5 q6 q7 W
    by_cases hrq : [r0, r1, r2, r3, r4, r5, r6, r7] = [q0, q1, q2, q3, q4, q5, q6, q7]
    · rw [decide_eq_true hrq] at hq
      have ho : ordl [r0, r1, r2, r3, r4, r5, r6, r7] [q0, q1, q2, q3, q4, q5, q6, q7] = 0 := if_pos hrq
      have HO := Lib.hid ho
      clear ho
      clear hrq
      gi_wp2
      rw [Exit.noGoto_ret]
      exact ⟨_, results_tmp rfl _ _ _, by rw [HO.out]; rfl, hBw⟩
    · rw [decide_eq_false hrq] at hq
      have ho : ordl [r0, r1, r2, r3, r4, r5, r6, r7] [q0, q1, q2, q3, q4, q5, q6, q7] = lexl [r0, r1, r2, r3, r4, r5, r6, r7] [q0, q1, q2, q3, q4, q5, q6, q7] := if_neg hrq
      have HO := Lib.hid ho
      clear ho
      have HN := Lib.hid hrq
      have l5 := (Array.getElem?_eq_some_iff.1 E3.out).1
      have l6 := (Array.getElem?_eq_some_iff.1 F3.out).1
      have E4 := (Below.heap_alloc W (.cells #[.int .i64 1] 3) B5 l5).trans E3.out
      have F4 := (Below.heap_alloc W (.cells #[.int .i64 1] 3) B6 l6).trans F3.out
      obtain ⟨k0, k1, k2, k3, k4, k5, k6, k7⟩ := cells8 E4
      obtain ⟨m0, m1, m2, m3, m4, m5, m6, m7⟩ := cells8 F4
      clear hrq E4 F4
      gi_wp2_with (first | (refine ⟨trivial, ?_⟩; gi_at_call 75; refine (callsIn_wide.2 (c34 _ _ _)).mono ?_; rintro e w1 ⟨rfl, rfl⟩) | (refine wpIn_label ?_))
      have hs0 : w.heap.size + 2 = W0.heap.size := by rw [← hW0]; simp
      have hsW := hBw.size
      obtain ⟨W1, hW1⟩ : ∃ W1, (((W.alloc (Obj.cells #[Value.int IntKind.i64 1] 3)).alloc (Obj.cells #[.int .i64 r0, .int .i64 r1, .int .i64 r2, .int .i64 r3, .int .i64 r4, .int .i64 r5, .int .i64 r6, .int .i64 r7] 131)).alloc (Obj.cells #[.int .i64 q0, .int .i64 q1, .int .i64 q2, .int .i64 q3, .int .i64 q4, .int .i64 q5, .int .i64 q6, .int .i64 q7] 131)) = W1 := ⟨_, rfl⟩
      have hsz : W1.heap.size = W.heap.size + 3 := by rw [← hW1]; simp
      have hBW : Below W.heap.size W W1 := by
        rw [← hW1]; exact (((Below.refl _ W).alloc (Nat.le_refl _) _).alloc (by simp) _).alloc (by simp; omega) _
      have hB1 : Below w.heap.size w W1 := hBw.trans (hBW.mono hBw.size)
      have x7 : Boxed W1 W.heap.size 3 (.int .i64 1) := by rw [← hW1]; exact (((Boxed.new W 3 _).alloc _).alloc _)
      have x8 : W1.heap[W.heap.size + 1]? = some (.cells #[.int .i64 r0, .int .i64 r1, .int .i64 r2, .int .i64 r3, .int .i64 r4, .int .i64 r5, .int .i64 r6, .int .i64 r7] 131 (0, 0)) := by
        have := heap_alloc_new (W.alloc (Obj.cells #[Value.int IntKind.i64 1] 3)) (Obj.cells #[.int .i64 r0, .int .i64 r1, .int .i64 r2, .int .i64 r3, .int .i64 r4, .int .i64 r5, .int .i64 r6, .int .i64 r7] 131)
        rw [World.size_alloc] at this
        rw [← hW1]
        exact (Below.heap_alloc _ _ _ (by simp)).trans this
      have x9 : W1.heap[W.heap.size + 1 + 1]? = some (.cells #[.int .i64 q0, .int .i64 q1, .int .i64 q2, .int .i64 q3, .int .i64 q4, .int .i64 q5, .int .i64 q6, .int .i64 q7] 131 (0, 0)) := by
        have := heap_alloc_new ((W.alloc (Obj.cells #[Value.int IntKind.i64 1] 3)).alloc (Obj.cells #[.int .i64 r0, .int .i64 r1, .int .i64 r2, .int .i64 r3, .int .i64 r4, .int .i64 r5, .int .i64 r6, .int .i64 r7] 131)) (Obj.cells #[.int .i64 q0, .int .i64 q1, .int .i64 q2, .int .i64 q3, .int .i64 q4, .int .i64 q5, .int .i64 q6, .int .i64 q7] 131)
        rw [World.size_alloc, World.size_alloc] at this
        rw [← hW1]
        exact this
      rw [hW1]
      clear hW1 hBW k0 k1 k2 k3 k4 k5 k6 k7 m0 m1 m2 m3 m4 m5 m6 m7 c0 c1 c2 c3 c4 c5 c6 c7 d0 d1 d2 d3 d4 d5 d6 d7
      have hI0 : OrdI w W.heap.size [] W1 := ⟨x7, hB1, fun p hp => by simp at hp⟩
      refine wpIn_rangeFunc_ownG (F := Fence.wide) (n := 3) rfl (by omega) (gf := 77) (lb := #[.pointer (some ⟨W.heap.size + 1, 0, none⟩), .pointer (some ⟨W.heap.size + 1 + 1, 0, none⟩)]) rfl trivial (enters_of Try.func77 (by kernel_rfl) rfl)
        (c39_stops Fence.wide 2 trivial rfl (by omega) (W.heap.size + 1) (W.heap.size + 1 + 1) (fun k => k < w.heap.size ∨ k = W.heap.size + 1 + 1) r0 r1 r2 r3 r4 r5 r6 r7 q0 q1 q2 q3 q4 q5 q6 q7 (.inr rfl) W1 x8 x9)
        (fun h k => h.trans k) (Keeps.putObj W1 (fun k hk => by omega)) (Below.refl _ _) (fun _ => rfl)
        (OrdI w W.heap.size) (OrdX w W.heap.size) (ordI_own w W.heap.size _ (by omega)) (ordX_own w W.heap.size _ (by omega))
        hI0 ?a1 ?assign ?body ?fin ?stop
      case assign =>
        intro l x W K hK
        have HK := Lib.hid hK
        clear hK
        unfold encP
        gi_wp2
        exact HK.out
      case body =>
        rintro l pre ⟨x, y⟩ X ⟨e0, hBX, heq⟩ hlt
        have f0 := e0.cell
        have g0 := e0.frozen
        have Heq := Lib.hid heq
        clear heq
        by_cases hxy : x = y
        · subst hxy
          gi_wp2
          refine ⟨KeepsFrom.refl _ _, Keeps.refl _ _, e0, hBX, fun p hp => ?_⟩
          rcases List.mem_append.1 hp with h | h
          · exact Heq.out p h
          · rw [List.mem_singleton.1 h]
        · have t1 : (x == y) = false := by rw [beq_eq_false_iff_ne]; exact hxy
          have Hxy := Lib.hid hxy
          clear hxy
          by_cases hlt : x < y
          · gi_wp2
            refine ⟨(KeepsOthers.setCell _ _ _).from _, rfl, pre, x, y, -1, rfl, Heq.out, Hxy.out, by rw [if_pos hlt], e0.set _, hBX.trans (((Keeps.refl (fun k => k < w.heap.size) _).setBox W.heap.size (fun h => by omega) _).below fun k hk => hk)⟩
          · gi_wp2
            refine ⟨KeepsFrom.refl _ _, rfl, pre, x, y, 1, rfl, Heq.out, Hxy.out, by rw [if_neg (by omega)], e0, hBX⟩
      case fin =>
        rintro D ys X hD rfl ⟨e0, hBX, heq⟩ hK
        exact absurd (alleq8 heq) HN.out
      case stop =>
        rintro D c pre X hD ⟨k, hk, rfl⟩ ⟨rfl, ini, x, y, v, hpe, heq, hxy, hv, e0, hBX⟩ hK
        have hl := lexl_first k hk hpe heq hxy
        rw [← hv] at hl
        clear hv
        have f0 := e0.cell
        have hKb := (belowK_b (w := W1) (n₀ := W1.heap.size) (Nat.le_refl _) X D _ (.deferred none) (by omega) hK rfl rfl).mono (B' := w.heap.size) (by omega)
        have HL := Lib.hid hl
        clear hl hpe heq hxy
        gi_wp2
        try rw [Exit.noGoto_ret]
        refine ⟨by simp, .inl ⟨_, _, rfl, run_takeDeferred hK, ?_⟩⟩
        exact ⟨_, results_tmp rfl _ _ _, by rw [HO.out, HL.out]; rfl, hBX.trans hKb⟩

/-- which of two is ahead: -1 the first, 1 the second, 0 they are the same -/
def ord (s t : Side) : Int := ordl (rank s) (rank t)

theorem c26 (s t : Side) (w : World) (hs : right s = true) (hsw : s.wf) (ht : right t = true) (htw : t.wf) :
    Calls Try.prog 71 #[.agg s.arr, .agg t.arr] w fun e w' => e = .returned (.int .i64 (ord s t)) ∧ Below w.heap.size w w' := by
  obtain ⟨r0, r1, r2, r3, r4, r5, r6, r7, hr, Hr⟩ := c33' s hs hsw
  obtain ⟨q0, q1, q2, q3, q4, q5, q6, q7, hq, Hq⟩ := c33' t ht htw
  have h := c26_first w s.style s.width s.color s.by_ s.row s.col t.style t.width t.color t.by_ t.row t.col r0 r1 r2 r3 r4 r5 r6 r7 q0 q1 q2 q3 q4 q5 q6 q7 Hr Hq
  rw [← hr.out, ← hq.out] at h
  exact h

/-- a block that is one side -/
structure Row (W : World) (B : Nat) (s : Side) : Prop where
  at_ : W.heap[B]? = some (.cells s.arr 45 (0, 0))

theorem Row.lt {W : World} {B : Nat} {s : Side} (h : Row W B s) : B < W.heap.size := (Array.getElem?_eq_some_iff.1 h.at_).1

theorem Row.new (W : World) (s : Side) : Row (W.alloc (.cells s.arr 45)) W.heap.size s := ⟨heap_alloc_new _ _⟩

theorem Row.alloc {W : World} {B : Nat} {s : Side} (h : Row W B s) (o : Obj) : Row (W.alloc o) B s := ⟨(Below.heap_alloc _ _ _ h.lt).trans h.at_⟩

theorem Row.below {W W' : World} {B : Nat} {s : Side} (h : Row W B s) {C : Nat} (hb : Below C W W') (hB : B < C) : Row W' B s := ⟨(hb.block B hB).trans h.at_⟩

theorem Row.turn {W W' : World} {B : Nat} {s : Side} (h : Row W B s) (hb : Below W.heap.size W W') : Row W' B s := h.below hb h.lt

theorem Row.side {W : World} {B : Nat} {s : Side} (h : Row W B s) :
    W.cell? ⟨B, 0, none⟩ = some (.int .i64 s.style) ∧ W.cell? ⟨B, 1, none⟩ = some (.int .i64 s.width) ∧ W.cell? ⟨B, 2, none⟩ = some (.int .u32 s.color) ∧
    W.cell? ⟨B, 3, none⟩ = some (.int .i64 s.by_) ∧ W.cell? ⟨B, 4, none⟩ = some (.int .i64 s.row) ∧ W.cell? ⟨B, 5, none⟩ = some (.int .i64 s.col) := by
  simp [World.cell?, h.at_, Side.arr]

theorem blk_set {W : World} {B : Nat} {cs : Array Value} {t : TypeId} {fr : Nat × Nat} (h : W.heap[B]? = some (.cells cs t fr)) (i : Nat) (v : Value) :
    (W.setCell ⟨B, i, none⟩ v).heap[B]? = some (.cells (cs.setIfInBounds i v) t fr) := by simp [World.setCell, Array.getElem?_modify, h]

theorem Row.frozen {W : World} {B : Nat} {s : Side} (h : Row W B s) (i : Nat) : W.frozen? ⟨B, i, none⟩ = false := by simp [World.frozen?, h.at_]

/-- the six cells of a side are written -/
def put6 (W : World) (B : Nat) (s : Side) : World :=
  (((((W.setCell ⟨B, 0, none⟩ (.int .i64 s.style)).setCell ⟨B, 1, none⟩ (.int .i64 s.width)).setCell ⟨B, 2, none⟩ (.int .u32 s.color)).setCell ⟨B, 3, none⟩ (.int .i64 s.by_)).setCell ⟨B, 4, none⟩ (.int .i64 s.row)).setCell ⟨B, 5, none⟩ (.int .i64 s.col)

theorem arr_put (a b : Side) : ((((((a.arr.setIfInBounds 0 (.int .i64 b.style)).setIfInBounds 1 (.int .i64 b.width)).setIfInBounds 2 (.int .u32 b.color)).setIfInBounds 3 (.int .i64 b.by_)).setIfInBounds 4 (.int .i64 b.row)).setIfInBounds 5 (.int .i64 b.col)) = b.arr := by
  simp [Side.arr]

theorem put6_heap {W : World} {B : Nat} {cs : Array Value} {t : TypeId} {fr : Nat × Nat} (h : W.heap[B]? = some (.cells cs t fr)) (s : Side) :
    (put6 W B s).heap[B]? = some (.cells ((((((cs.setIfInBounds 0 (.int .i64 s.style)).setIfInBounds 1 (.int .i64 s.width)).setIfInBounds 2 (.int .u32 s.color)).setIfInBounds 3 (.int .i64 s.by_)).setIfInBounds 4 (.int .i64 s.row)).setIfInBounds 5 (.int .i64 s.col)) t fr) := by
  unfold put6
  apply blk_set; apply blk_set; apply blk_set; apply blk_set; apply blk_set; apply blk_set; exact h

theorem Row.put {W : World} {B : Nat} {t : Side} (h : Row W B t) (s : Side) : Row (put6 W B s) B s := by
  have := put6_heap h.at_ s
  rw [arr_put] at this
  exact ⟨this⟩

theorem put6_other (W : World) (B : Nat) (s : Side) {B' : Nat} (hne : B' ≠ B) : (put6 W B s).heap[B']? = W.heap[B']? := by
  unfold put6
  rw [Below.heap_setCell _ _ _ _ (by exact hne), Below.heap_setCell _ _ _ _ (by exact hne), Below.heap_setCell _ _ _ _ (by exact hne), Below.heap_setCell _ _ _ _ (by exact hne), Below.heap_setCell _ _ _ _ (by exact hne), Below.heap_setCell _ _ _ _ (by exact hne)]

theorem Row.other {W : World} {B B' : Nat} {t : Side} (h : Row W B' t) (s : Side) (hne : B' ≠ B) : Row (put6 W B s) B' t := ⟨(put6_other W B s hne).trans h.at_⟩

theorem put6_below {W : World} {B C : Nat} (s : Side) (hC : C ≤ B) (hs : C ≤ W.heap.size) : Below C W (put6 W B s) := by
  unfold put6
  have hS : ∀ i, ¬ (fun k => k < C) (Addr.mk B i none).block := fun i h => absurd h (by show ¬ B < C; omega)
  exact ((((((((Keeps.refl (fun k => k < C) W).setCell (hS 0) _).setCell (hS 1) _).setCell (hS 2) _).setCell (hS 3) _).setCell (hS 4) _).setCell (hS 5) _)).below fun k hk => hk

/-- the one that is ahead of all among the first k -/
def led (xs : List Side) : Nat → Side
  | 0 => xs[0]?.getD default
  | k + 1 => if ord (xs[k]?.getD default) (led xs k) < 0 then xs[k]?.getD default else led xs k

theorem led_one (xs : List Side) : led xs 1 = xs[0]?.getD default := by
  show (if ord (xs[0]?.getD default) (xs[0]?.getD default) < 0 then xs[0]?.getD default else xs[0]?.getD default) = _
  by_cases h : ord (xs[0]?.getD default) (xs[0]?.getD default) < 0
  · rw [if_pos h]
  · rw [if_neg h]

theorem led_mem (xs : List Side) (h : xs ≠ []) : ∀ k, k ≤ xs.length → led xs k ∈ xs
  | 0, _ => by cases xs with
    | nil => exact absurd rfl h
    | cons x l => simp [led]
  | k + 1, hk => by
    have hm : xs[k]?.getD default ∈ xs := by
      rw [List.getElem?_eq_getElem (by omega)]; exact List.getElem_mem _
    simp only [led]
    split
    · exact hm
    · exact led_mem xs h k (by omega)

/-- what holds between the operations of Winner's comparison -/
def WinInv (W0 : World) (b off c n : Nat) (B2 B4 : Nat) (k : Nat) (x y : Side) (o : Int) (v6 v7 v8 v9 v10 v11 v12 v13 v14 v15 v16 v17 v18 v19 v20 v21 v22 v30 v31 v32 v33 v34 v35 : Value) (done : Nat → Bool) (a : Act) (W : World) : Prop :=
  ∃ v23 v24 v25 v26 v27 v28 v29 : Value, a = { tmps := #[.slice (some ⟨b, off, none⟩) n c, undef, .pointer (some ⟨B2, 0, none⟩), .int .i64 0, .pointer (some ⟨B4, 0, none⟩), .int .i64 k, v6, v7, v8, v9, v10, v11, v12, v13, v14, v15, v16, v17, v18, v19, v20, v21, v22, v23, v24, v25, v26, v27, v28, v29, v30, v31, v32, v33, v34, v35], defers := [] } ∧
    Below W0.heap.size W0 W ∧ (done 0 = true → v23 = .slice (some ⟨b, off, none⟩) n c) ∧ (done 1 = true → v24 = .int .i64 k) ∧ (done 2 = true → v25 = .pointer (some ⟨b, off + k * 6, none⟩)) ∧ (done 3 = true → v26 = .agg x.arr) ∧ (done 4 = true → v27 = .agg y.arr) ∧ (done 5 = true → v28 = .int .i64 o) ∧ (done 6 = true → v29 = .bool (decide (o < 0)))

/-- what holds at the label -/
def WinJ (w : World) (xs : List Side) (A : Option Addr) (c : Nat) (a : Act) (W : World) : Prop :=
  ∃ (k B2 B4 : Nat) (y : Side) (v6 v7 v8 v9 v10 v11 v12 v13 v14 v15 v16 v17 v18 v19 v20 v21 v22 v23 v24 v25 v26 v27 v28 v29 v30 v31 v32 v33 v34 v35 : Value), 1 ≤ k ∧ k ≤ xs.length ∧ Hid (y = led xs k) ∧ Row W B2 default ∧ Row W B4 y ∧ w.heap.size ≤ B2 ∧ w.heap.size ≤ B4 ∧ B2 ≠ B4 ∧ Below w.heap.size w W ∧
    a = { tmps := #[.slice A xs.length c, undef, .pointer (some ⟨B2, 0, none⟩), .int .i64 0, .pointer (some ⟨B4, 0, none⟩), .int .i64 k, v6, v7, v8, v9, v10, v11, v12, v13, v14, v15, v16, v17, v18, v19, v20, v21, v22, v23, v24, v25, v26, v27, v28, v29, v30, v31, v32, v33, v34, v35], defers := [] }

theorem wp_scope_label {P : Program} {a : Act} {w : World} {Q : Exit → Act → World → Prop} {c rest : Code} (l : Nat) (J : Act → World → Prop) (μ : Act → World → Nat) (hf : findLabel c l = some (Code.skip.seq rest))
    (first : (∀ a w, J a w → rest.wp P (Exit.jump l J Q) a w) → c.wp P (Exit.jump l J Q) a w)
    (pass : ∀ a w, J a w → rest.wp P (Exit.jump l (fun a' w' => J a' w' ∧ μ a' w' < μ a w) Q) a w) : (Code.scope c).wp P Q a w :=
  wp_scope_jumps l J μ hf (first fun a w hJ => Code.wp_mono (fun e a' w' h => by
    cases e with
    | goto l' => exact ⟨h.1, h.2.1⟩
    | _ => exact h) (pass a w hJ)) fun a w hJ => wp_seq (wp_skip (pass a w hJ))

set_option maxRecDepth 100000 in
set_option maxHeartbeats 2000000 in
theorem c15_right (A : Option Addr) (xs : List Side) (c : Nat) (w : World) (hx : Sides w A xs) (hl : xs.length ≤ 17592186044416) (hwf : ∀ x ∈ xs, x.wf) (hr : ∀ x ∈ xs, right x = true) (hn : xs ≠ []) :
    Calls Try.prog 61 #[.slice A xs.length c] w fun e w' => e = .returned (.tuple #[.agg (led xs xs.length).arr, .int .i64 0]) ∧ Below w.heap.size w w' := by
  have hpos : 0 < xs.length := List.length_pos_iff.2 hn
  have hw : wrongs xs = false := wrongs_iff.2 hr
  have H26 := Lib.hid (fun (s t : Side) W (hs : s ∈ xs) (ht : t ∈ xs) => c26 s t W (hr s hs) (hwf s hs) (hr t ht) (hwf t ht))
  have H25 := Lib.hid (fun W (h : Sides W A xs) => by have := c25 A xs c W h hl; rw [hw] at this; exact this)
  have Hm := Lib.hid (fun k => led_mem xs hn k)
  have Hx := Lib.hid hx
  clear hx hw hn hr hwf
  go_enter Try.func61, Try.ntmps61
  go_wp2
  refine wp_scope_label 0 (WinJ w xs A c) (fun a _ => xs.length - (intOf (a.tmps.getD 5 undef)).toNat) rfl ?first ?pass
  case first =>
    intro hpass
    have hbw : Below w.heap.size w (w.alloc (.cells (default : Side).arr 45)) := (Below.refl _ w).alloc (Nat.le_refl _) _
    obtain ⟨x, b, off, hx0, rfl, hc⟩ := (Hx.out.below hbw).get 0 hpos
    have t1 : ((xs.length : Int) == 0) = false := by rw [beq_eq_false_iff_ne]; omega
    have t2 : (xs.length == 0) = false := by rw [beq_eq_false_iff_ne]; omega
    have Hc := Lib.hid hc
    have Hbw := Lib.hid hbw
    clear hc hbw
    go_wp2_with (fail)
    refine (H25.out _ (Hx.out.below Hbw.out)).mono ?_
    rintro e w1 ⟨rfl, hb1⟩
    have hc1 := Hc.out.below hb1 Hc.out.lt
    rw [Nat.zero_mul, Nat.add_zero] at hc1
    obtain ⟨q0, q1, q2, q3, q4, q5⟩ := hc1
    go_wp2_with (fail)
    rename_i hK
    refine wp_label (hK _ _ (hpass _ _ ?_))
    clear hK
    have hsz := Hbw.out.size
    rw [World.size_alloc] at hsz
    have hs1 := hb1.size
    rw [World.size_alloc] at hs1
    have hB1 : Below w.heap.size w w1 := Hbw.out.trans (hb1.mono (by rw [World.size_alloc]; omega))
    refine ⟨1, w.heap.size, w1.heap.size, x, _, _, _, _, _, _, _, _, _, _, _, _, _, _, _, _, _, _, _, _, _, _, _, _, _, _, _, _, _, _, Nat.le_refl _, hpos, Lib.hid (by rw [led_one, hx0.out]), ((Row.new w default).turn hb1).alloc _, Row.new w1 x, Nat.le_refl _, by omega, by omega, hB1.alloc (by omega) _, rfl⟩
  case pass =>
    rintro a W ⟨k, B2, B4, y, v6, v7, v8, v9, v10, v11, v12, v13, v14, v15, v16, v17, v18, v19, v20, v21, v22, v23, v24, v25, v26, v27, v28, v29, v30, v31, v32, v33, v34, v35, hk1, hk, hy, R2, R4, hB2, hB4, hne, hB, rfl⟩
    have HM := Hm.out k hk
    rw [← hy.out] at HM
    obtain ⟨y0, y1, y2, y3, y4, y5⟩ := R4.side
    obtain ⟨z0, z1, z2, z3, z4, z5⟩ := R2.side
    by_cases hlt : k < xs.length
    · have t1 : (k == xs.length) = false := by rw [beq_eq_false_iff_ne]; omega
      have t2 : ((k : Int) == (xs.length : Int)) = false := by rw [beq_eq_false_iff_ne]; omega
      obtain ⟨x, b, off, hxk, rfl, hc⟩ := (Hx.out.below hB).get k hlt
      have hxm : x ∈ xs := by
        rw [← hxk.out, List.getElem?_eq_getElem hlt]; exact List.getElem_mem _
      have H := Lib.hid (fun W => H26.out x y W hxm HM)
      have Hc := Lib.hid hc
      clear hc
      go_wp2
      refine wp_region_done (by kernel_rfl) (by kernel_rfl) (WinInv W b off c xs.length B2 B4 k x y (ord x y) v6 v7 v8 v9 v10 v11 v12 v13 v14 v15 v16 v17 (.int .i64 k) (.slice (some ⟨b, off, none⟩) xs.length c) (.int .i64 xs.length) (.bool false) v22 v30 v31 v32 v33 v34 v35) ?_ ?_ ?_
      · exact ⟨_, _, _, _, _, _, _, rfl, (Dr.refl W).step1.below _, fun h => by simp at h, fun h => by simp at h, fun h => by simp at h, fun h => by simp at h, fun h => by simp at h, fun h => by simp at h, fun h => by simp at h⟩
      · rintro done i o a X ho hd he ⟨v23, v24, v25, v26, v27, v28, v29, rfl, hBX, i0, i1, i2, i3, i4, i5, i6⟩ K hK
        clear y0 y1 y2 y3 y4 y5 z0 z1 z2 z3 z4 z5
        have Hd := Lib.hid he
        clear he
        rcases i with _ | _ | _ | _ | _ | _ | _ | i
        rotate_left 7
        · exact absurd (Array.getElem?_eq_some_iff.1 ho).1 (by simp)
        · obtain rfl := Option.some.inj ho
          refine wpOp_plain ho rfl ?_
          clear ho hd
          go_wp2
          exact ⟨_, v24, v25, v26, v27, v28, v29, rfl, hBX, fun _ => rfl, fun h => i1 h, fun h => i2 h, fun h => i3 h, fun h => i4 h, fun h => i5 h, fun h => i6 h⟩
        · obtain rfl := Option.some.inj ho
          refine wpOp_plain ho rfl ?_
          clear ho hd
          go_wp2
          exact ⟨v23, _, v25, v26, v27, v28, v29, rfl, hBX, fun h => i0 h, fun _ => rfl, fun h => i2 h, fun h => i3 h, fun h => i4 h, fun h => i5 h, fun h => i6 h⟩
        · obtain rfl := Option.some.inj ho
          obtain rfl := i0 (Hd.out ⟨0, .data⟩ (by simp) rfl)
          obtain rfl := i1 (Hd.out ⟨1, .data⟩ (by simp) rfl)
          refine wpOp_plain ho rfl ?_
          clear ho hd
          go_wp2
          exact ⟨_, _, _, v26, v27, v28, v29, rfl, hBX, fun _ => rfl, fun _ => rfl, fun _ => rfl, fun h => i3 h, fun h => i4 h, fun h => i5 h, fun h => i6 h⟩
        · obtain rfl := Option.some.inj ho
          obtain rfl := i2 (Hd.out ⟨2, .data⟩ (by simp) rfl)
          obtain ⟨q0, q1, q2, q3, q4, q5⟩ := Hc.out.below hBX Hc.out.lt
          refine wpOp_plain ho rfl ?_
          clear ho hd
          go_wp2
          exact ⟨v23, v24, _, _, v27, v28, v29, rfl, hBX, fun h => i0 h, fun h => i1 h, fun _ => rfl, fun _ => rfl, fun h => i4 h, fun h => i5 h, fun h => i6 h⟩
        · obtain rfl := Option.some.inj ho
          obtain ⟨q0, q1, q2, q3, q4, q5⟩ := (R4.turn hBX).side
          refine wpOp_plain ho rfl ?_
          clear ho hd
          go_wp2
          exact ⟨v23, v24, v25, v26, _, v28, v29, rfl, hBX, fun h => i0 h, fun h => i1 h, fun h => i2 h, fun h => i3 h, fun _ => rfl, fun h => i5 h, fun h => i6 h⟩
        · obtain rfl := Option.some.inj ho
          obtain rfl := i3 (Hd.out ⟨3, .data⟩ (by simp) rfl)
          obtain rfl := i4 (Hd.out ⟨4, .data⟩ (by simp) rfl)
          refine wpOp_plain ho rfl ?_
          clear ho hd
          go_wp2_with (go_at_call 71; refine (H.out _).mono ?_; rintro e w2 ⟨rfl, hb2⟩)
          exact ⟨v23, v24, v25, _, _, _, v29, rfl, hBX.trans (hb2.mono hBX.size), fun h => i0 h, fun h => i1 h, fun h => i2 h, fun _ => rfl, fun _ => rfl, fun _ => rfl, fun h => i6 h⟩
        · obtain rfl := Option.some.inj ho
          obtain rfl := i5 (Hd.out ⟨5, .data⟩ (by simp) rfl)
          refine wpOp_plain ho rfl ?_
          clear ho hd
          go_wp2
          exact ⟨v23, v24, v25, v26, v27, _, _, rfl, hBX, fun h => i0 h, fun h => i1 h, fun h => i2 h, fun h => i3 h, fun h => i4 h, fun _ => rfl, fun _ => rfl⟩
      · rintro done a X hall ⟨v23, v24, v25, v26, v27, v28, v29, rfl, hBX, i0, i1, i2, i3, i4, i5, i6⟩
        obtain rfl := i0 (hall 0 (by simp))
        obtain rfl := i1 (hall 1 (by simp))
        obtain rfl := i2 (hall 2 (by simp))
        obtain rfl := i3 (hall 3 (by simp))
        obtain rfl := i4 (hall 4 (by simp))
        obtain rfl := i5 (hall 5 (by simp))
        obtain rfl := i6 (hall 6 (by simp))
        clear i0 i1 i2 i3 i4 i5 i6 hall y0 y1 y2 y3 y4 y5 z0 z1 z2 z3 z4 z5
        have hBx : Below w.heap.size w X := hB.trans (hBX.mono hB.size)
        have hsx := hBX.size
        by_cases ho : ord x y < 0
        · have hd : decide (ord x y < 0) = true := decide_eq_true ho
          have hle : x = led xs (k + 1) := by
            simp only [led]; rw [hxk.out, ← hy.out, if_pos ho]
          rw [hd]
          have Hle := Lib.hid hle
          obtain ⟨q0, q1, q2, q3, q4, q5⟩ := Hc.out.below hBX Hc.out.lt
          have r4 := R4.turn hBX
          have r2 := R2.turn hBX
          obtain ⟨p0, p1, p2, p3, p4, p5⟩ := r4.side
          have f0 := r4.frozen 0
          have f1 := r4.frozen 1
          have f2 := r4.frozen 2
          have f3 := r4.frozen 3
          have f4 := r4.frozen 4
          have f5 := r4.frozen 5
          have R4' := Lib.hid (r4.put x)
          have R2' := Lib.hid (r2.other x hne)
          have HB' := Lib.hid (hBx.trans (put6_below (W := X) (B := B4) (C := w.heap.size) x hB4 hBx.size))
          clear hle ho hd r4 r2
          go_wp2
          refine wp_goto ?_
          exact ⟨rfl, ⟨k + 1, B2, B4, x, _, _, _, _, _, _, _, _, _, _, _, _, _, _, _, _, _, _, _, _, _, _, _, _, _, _, _, _, _, _, by omega, by omega, Hle, R2'.out, R4'.out, hB2, hB4, hne, HB'.out, rfl⟩, by simp [intOf]; omega⟩
        · have hd : decide (ord x y < 0) = false := decide_eq_false ho
          have hle : y = led xs (k + 1) := by
            simp only [led]; rw [hxk.out, ← hy.out, if_neg ho]
          rw [hd]
          have Hle := Lib.hid hle
          clear hle ho hd
          go_wp2
          refine wp_goto ?_
          exact ⟨rfl, ⟨k + 1, B2, B4, y, _, _, _, _, _, _, _, _, _, _, _, _, _, _, _, _, _, _, _, _, _, _, _, _, _, _, _, _, _, _, by omega, by omega, Hle, R2.turn hBX, R4.turn hBX, hB2, hB4, hne, hBx, rfl⟩, by simp [intOf]; omega⟩
    · obtain rfl : k = xs.length := by omega
      have f0 := R2.frozen 0
      have f1 := R2.frozen 1
      have f2 := R2.frozen 2
      have f3 := R2.frozen 3
      have f4 := R2.frozen 4
      have f5 := R2.frozen 5
      have hR := R2.put y
      have hbl := hB.trans (put6_below (W := W) (B := B2) (C := w.heap.size) y hB2 hB.size)
      unfold put6 at hR hbl
      have HR := Lib.hid hR
      have Hbl := Lib.hid hbl
      clear hR hbl
      go_wp2
      generalize ((((((W.setCell ⟨B2, 0, none⟩ (.int .i64 y.style)).setCell ⟨B2, 1, none⟩ (.int .i64 y.width)).setCell ⟨B2, 2, none⟩ (.int .u32 y.color)).setCell ⟨B2, 3, none⟩ (.int .i64 y.by_)).setCell ⟨B2, 4, none⟩ (.int .i64 y.row)).setCell ⟨B2, 5, none⟩ (.int .i64 y.col)) = W2 at *
      obtain ⟨z0, z1, z2, z3, z4, z5⟩ := HR.out.side
      refine ⟨rfl, .tuple #[.agg y.arr, .int .i64 0], by simp [results, Try.results61, go_sem, Side.arr, *], ?_⟩
      rw [← hy.out]
      exact ⟨rfl, Hbl.out⟩

theorem c15_empty (A : Option Addr) (c : Nat) (w : World) :
    Calls Try.prog 61 #[.slice A 0 c] w fun e w' => e = .returned (.tuple #[.agg (default : Side).arr, .int .i64 110]) ∧ Below w.heap.size w w' := by
  go_enter Try.func61, Try.ntmps61
  go_wp2
  refine wp_scope_straight ?_
  go_wp2
  rw [Exit.noGoto_ret]
  refine ⟨rfl, .tuple #[.agg (default : Side).arr, .int .i64 110], by simp [results, Try.results61, go_sem, Side.arr, default], rfl, ?_⟩
  exact (Below.refl _ w).alloc (Nat.le_refl _) _

theorem c15_wrong (A : Option Addr) (xs : List Side) (c : Nat) (w : World) (hx : Sides w A xs) (hl : xs.length ≤ 17592186044416) (hw : wrongs xs = true) :
    Calls Try.prog 61 #[.slice A xs.length c] w fun e w' => e = .returned (.tuple #[.agg (default : Side).arr, .int .i64 110]) ∧ Below w.heap.size w w' := by
  have hpos : 0 < xs.length := by
    cases xs with
    | nil => simp [wrongs] at hw
    | cons x l => simp
  have H25 := Lib.hid (fun W (h : Sides W A xs) => by have := c25 A xs c W h hl; rw [hw] at this; exact this)
  have hbw : Below w.heap.size w (w.alloc (.cells (default : Side).arr 45)) := (Below.refl _ w).alloc (Nat.le_refl _) _
  have Hx := Lib.hid (hx.below hbw)
  have Hbw := Lib.hid hbw
  have t1 : ((xs.length : Int) == 0) = false := by rw [beq_eq_false_iff_ne]; omega
  have t2 : (xs.length == 0) = false := by rw [beq_eq_false_iff_ne]; omega
  clear hx hbw hw hpos
  go_enter Try.func61, Try.ntmps61
  go_wp2
  refine wp_scope_straight ?_
  go_wp2_with (fail)
  refine (H25.out _ Hx.out).mono ?_
  rintro e w1 ⟨rfl, hb1⟩
  have R := (Row.new w default).turn hb1
  obtain ⟨z0, z1, z2, z3, z4, z5⟩ := R.side
  have f0 := R.frozen 0
  have f1 := R.frozen 1
  have f2 := R.frozen 2
  have f3 := R.frozen 3
  have f4 := R.frozen 4
  have f5 := R.frozen 5
  have hR := R.put default
  have hbl := (Hbw.out.trans (hb1.mono (by simp))).trans (put6_below (W := w1) (B := w.heap.size) (C := w.heap.size) default (Nat.le_refl _) (by have := hb1.size; rw [World.size_alloc] at this; omega))
  unfold put6 at hR hbl
  have HR := Lib.hid hR
  have Hbl := Lib.hid hbl
  clear hR hbl
  go_wp2
  rw [Exit.noGoto_ret]
  obtain ⟨W2, hW2⟩ : ∃ W2, ((((((w1.setCell ⟨w.heap.size, 0, none⟩ (.int .i64 0)).setCell ⟨w.heap.size, 1, none⟩ (.int .i64 0)).setCell ⟨w.heap.size, 2, none⟩ (.int .u32 0)).setCell ⟨w.heap.size, 3, none⟩ (.int .i64 0)).setCell ⟨w.heap.size, 4, none⟩ (.int .i64 0)).setCell ⟨w.heap.size, 5, none⟩ (.int .i64 0)) = W2 := ⟨_, rfl⟩
  rw [hW2]
  have hR2 : Row W2 w.heap.size default := by rw [← hW2]; exact HR.out
  have hB2 : Below w.heap.size w W2 := by rw [← hW2]; exact Hbl.out
  obtain ⟨z0, z1, z2, z3, z4, z5⟩ := hR2.side
  refine ⟨rfl, .tuple #[.agg (default : Side).arr, .int .i64 110], by simp [results, Try.results61, go_sem, Side.arr, *], rfl, hB2⟩

theorem eq30 (a b : Side) (w : World) : (Op.equalIn 10000 45 (.agg a.arr) (.agg b.arr)).run Try.prog w = .ok (decide (a = b)) w := by
  obtain ⟨a0, a1, a2, a3, a4, a5⟩ := a
  obtain ⟨b0, b1, b2, b3, b4, b5⟩ := b
  simp only [Side.arr]
  rw [show (10000 : Nat) = 9999 + 1 from rfl, Op.equalIn]
  simp only [Sem.run_bind, run_underlying Try.underlying45, Result.andThen_ok]
  go_simp
  by_cases h0 : a0 = b0 <;> by_cases h1 : a1 = b1 <;> by_cases h2 : a2 = b2 <;> by_cases h3 : a3 = b3 <;> by_cases h4 : a4 = b4 <;> by_cases h5 : a5 = b5 <;> simp [h0, h1, h2, h3, h4, h5]

theorem lex_cons (x y : Int) (l m : List Int) : ordl (x :: l) (y :: m) = if x = y then ordl l m else if x < y then -1 else 1 := by
  unfold ordl
  by_cases h : x = y
  · subst h
    simp only [lexl, List.cons.injEq, true_and, if_true]
  · rw [if_neg (by simp [h]), if_neg h]
    simp only [lexl, if_neg h]

theorem lex_nil : ordl [] [] = 0 := rfl

theorem lex_step (x y : Int) (l m : List Int) (r : Bool) (h : x = y → decide (ordl l m < 0) = r) : decide (ordl (x :: l) (y :: m) < 0) = if x ≠ y then decide (x < y) else r := by
  rw [lex_cons]
  by_cases e : x = y
  · rw [if_pos e, if_neg (by simp [e]), h e]
  · rw [if_neg e, if_pos e]
    by_cases hl : x < y
    · rw [if_pos hl]; simp [hl]
    · rw [if_neg hl]; simp [hl]

theorem ord_ref (a b : Side) : decide (ord a b < 0) = refw a b := by
  obtain ⟨a0, a1, a2, a3, a4, a5⟩ := a
  obtain ⟨b0, b1, b2, b3, b4, b5⟩ := b
  unfold ord rank refw
  dsimp only
  have tail : ∀ (x y : Int), decide (ordl [x, a3, a4, a5, a2] [y, b3, b4, b5, b2] < 0) = if x ≠ y then decide (x < y) else if a3 ≠ b3 then decide (a3 < b3) else if a4 ≠ b4 then decide (a4 < b4) else if a5 ≠ b5 then decide (a5 < b5) else decide (a2 < b2) := by
    intro x y
    refine lex_step _ _ _ _ _ fun _ => lex_step _ _ _ _ _ fun _ => lex_step _ _ _ _ _ fun _ => lex_step _ _ _ _ _ fun _ => ?_
    rw [lex_step a2 b2 [] [] false (fun _ => by simp [lex_nil])]
    by_cases e : a2 = b2
    · rw [if_neg (by simp [e])]; simp [e]
    · rw [if_pos e]
  have wid : ∀ (x y : Int), decide (ordl [-a1, x, a3, a4, a5, a2] [-b1, y, b3, b4, b5, b2] < 0) = if a1 ≠ b1 then decide (b1 < a1) else if x ≠ y then decide (x < y) else if a3 ≠ b3 then decide (a3 < b3) else if a4 ≠ b4 then decide (a4 < b4) else if a5 ≠ b5 then decide (a5 < b5) else decide (a2 < b2) := by
    intro x y
    rw [lex_step _ _ _ _ _ (fun _ => tail x y)]
    by_cases e : a1 = b1
    · have e1 : ¬ (-a1 ≠ -b1) := fun h => h (by rw [e])
      have e2 : ¬ (a1 ≠ b1) := fun h => h e
      rw [if_neg e1, if_neg e2]
    · rw [if_pos (by omega), if_pos e]
      congr 1
      exact propext ⟨fun h => by omega, fun h => by omega⟩
  rw [lex_step _ _ _ _ _ (fun _ => lex_step _ _ _ _ _ (fun _ => wid _ _))]
  by_cases p : a0 = 1
  · subst p
    by_cases q : b0 = 1
    · subst q; simp
    · simp [q]
  · by_cases q : b0 = 1
    · subst q; simp [p]
    · by_cases p0 : a0 = 0
      · subst p0
        by_cases q0 : b0 = 0
        · subst q0; simp
        · simp [q, q0]
      · by_cases q0 : b0 = 0
        · subst q0; simp [p, p0]
        · simp [p, q, p0, q0]

theorem ordl_neg : ∀ (l m : List Int), l.length = m.length → ordl m l = - ordl l m
  | [], [], _ => rfl
  | x :: l, y :: m, h => by
    rw [lex_cons, lex_cons]
    by_cases e : x = y
    · rw [if_pos e.symm, if_pos e]; exact ordl_neg l m (by simpa using h)
    · rw [if_neg (fun e' => e e'.symm), if_neg e]
      by_cases hl : x < y
      · rw [if_neg (by omega), if_pos hl]; rfl
      · rw [if_pos (by omega), if_neg hl]

theorem ordl_zero : ∀ (l m : List Int), l.length = m.length → ordl l m = 0 → l = m
  | [], [], _, _ => rfl
  | x :: l, y :: m, h, h0 => by
    rw [lex_cons] at h0
    by_cases e : x = y
    · rw [if_pos e] at h0; rw [e, ordl_zero l m (by simpa using h) h0]
    · rw [if_neg e] at h0; split at h0 <;> omega

theorem ordl_trans : ∀ (l m k : List Int), l.length = m.length → m.length = k.length → ordl l m < 0 → ordl m k < 0 → ordl l k < 0
  | [], [], [], _, _, h, _ => h
  | x :: l, y :: m, z :: k, h1, h2, ha, hb => by
    rw [lex_cons] at ha hb ⊢
    by_cases e : x = y
    · subst e
      rw [if_pos rfl] at ha
      by_cases e' : x = z
      · rw [if_pos e'] at hb ⊢; exact ordl_trans l m k (by simpa using h1) (by simpa using h2) ha hb
      · rw [if_neg e'] at hb ⊢; exact hb
    · rw [if_neg e] at ha
      have hxy : x < y := by
        by_cases h : x < y
        · exact h
        · rw [if_neg h] at ha; omega
      by_cases e' : y = z
      · subst e'; rw [if_neg e, if_pos hxy]; omega
      · rw [if_neg e'] at hb
        have hyz : y < z := by
          by_cases h : y < z
          · exact h
          · rw [if_neg h] at hb; omega
        rw [if_neg (by omega), if_pos (by omega)]; omega

theorem rank_length (s : Side) : (rank s).length = 8 := rfl

theorem ord_neg (a b : Side) : ord b a = - ord a b := ordl_neg _ _ (by rw [rank_length, rank_length])

theorem rank_inj {a b : Side} (h : rank a = rank b) : a = b := by
  obtain ⟨a0, a1, a2, a3, a4, a5⟩ := a
  obtain ⟨b0, b1, b2, b3, b4, b5⟩ := b
  simp only [rank, List.cons.injEq, and_true] at h
  obtain ⟨h1, h2, h3, h4, h5, h6, h7, h8⟩ := h
  have hs : a0 = b0 := by
    by_cases p : a0 = 1 <;> by_cases q : b0 = 1 <;> by_cases p0 : a0 = 0 <;> by_cases q0 : b0 = 0 <;> simp_all
  have hw : a1 = b1 := by omega
  subst hs hw h5 h6 h7 h8
  rfl

theorem ord_zero {a b : Side} (h : ord a b = 0) : a = b := rank_inj (ordl_zero _ _ (by rw [rank_length, rank_length]) h)

theorem ord_self (a : Side) : ord a a = 0 := by unfold ord ordl; rw [if_pos rfl]

theorem ord_trans {a b c : Side} (h1 : ord a b < 0) (h2 : ord b c < 0) : ord a c < 0 := ordl_trans _ _ _ (by rw [rank_length, rank_length]) (by rw [rank_length, rank_length]) h1 h2

def bad (l : List Side) : Bool := l.isEmpty || wrongs l

def winY (l : List Side) : Side := if bad l = true then default else led l l.length

def winF (l : List Side) : Int := if bad l = true then 110 else 0

/-- contest.Winner, any sides -/
theorem c15 (A : Option Addr) (l : List Side) (c : Nat) (w : World) (hx : Sides w A l) (hl : l.length ≤ 17592186044416) (hwf : ∀ x ∈ l, x.wf) :
    Calls Try.prog 61 #[.slice A l.length c] w fun e w' => e = .returned (.tuple #[.agg (winY l).arr, .int .i64 (winF l)]) ∧ Below w.heap.size w w' := by
  unfold winY winF
  cases hb : bad l with
  | true =>
    rw [if_pos rfl, if_pos rfl]
    by_cases h0 : l = []
    · subst h0; exact c15_empty A c w
    · have hw : wrongs l = true := by
        unfold bad at hb
        rw [Bool.or_eq_true] at hb
        rcases hb with h | h
        · exact absurd (List.isEmpty_iff.1 h) h0
        · exact h
      exact c15_wrong A l c w hx hl hw
  | false =>
    rw [if_neg (by simp), if_neg (by simp)]
    unfold bad at hb
    rw [Bool.or_eq_false_iff] at hb
    have hw := wrongs_iff.1 hb.2
    exact c15_right A l c w hx hl hwf hw (by intro h; rw [h] at hb; simp at hb)

def leS (x y : Side) : Bool := !decide (ord y x < 0)

theorem leS_iff {x y : Side} : leS x y = true ↔ ¬ ord y x < 0 := by unfold leS; simp

theorem leS_trans (a b c : Side) (h1 : leS a b = true) (h2 : leS b c = true) : leS a c = true := by
  rw [leS_iff] at *
  intro h
  by_cases h0 : ord b a = 0
  · rw [← ord_zero h0] at h; exact h2 h
  · have h3 := ord_neg b a
    exact h2 (ord_trans h (show ord a b < 0 by omega))

theorem leS_anti {a b : Side} (h1 : leS a b = true) (h2 : leS b a = true) : a = b := by
  rw [leS_iff] at *
  have h3 := ord_neg a b
  exact ord_zero (by omega)

theorem wrongs_perm {l m : List Side} (h : l.Perm m) : wrongs l = wrongs m := by
  cases h1 : wrongs m with
  | false => rw [wrongs_iff] at *; exact fun x hx => h1 x (h.mem_iff.1 hx)
  | true =>
    cases h2 : wrongs l with
    | true => rfl
    | false => rw [wrongs_iff] at h2; rw [wrongs_iff.2 fun x hx => h2 x (h.mem_iff.2 hx)] at h1; cases h1

theorem led_le (xs : List Side) : ∀ k, k ≤ xs.length → ∀ j, j < k → leS (led xs k) (xs[j]?.getD default) = true
  | 0, _, j, h => absurd h (Nat.not_lt_zero _)
  | k + 1, hk, j, hj => by
    show leS (if ord (xs[k]?.getD default) (led xs k) < 0 then xs[k]?.getD default else led xs k) _ = true
    have self : ∀ x, leS x x = true := fun x => by rw [leS_iff, ord_self]; omega
    by_cases hjk : j < k
    · have ih := led_le xs k (by omega) j hjk
      by_cases h : ord (xs[k]?.getD default) (led xs k) < 0
      · rw [if_pos h]
        refine leS_trans _ (led xs k) _ ?_ ih
        rw [leS_iff]
        have := ord_neg (xs[k]?.getD default) (led xs k)
        omega
      · rw [if_neg h]; exact ih
    · obtain rfl : j = k := by omega
      by_cases h : ord (xs[j]?.getD default) (led xs j) < 0
      · rw [if_pos h]; exact self _
      · rw [if_neg h, leS_iff]; exact h

theorem led_all {xs : List Side} {x : Side} (hx : x ∈ xs) : leS (led xs xs.length) x = true := by
  obtain ⟨j, hj, rfl⟩ := List.getElem_of_mem hx
  have := led_le xs xs.length (Nat.le_refl _) j hj
  rw [List.getElem?_eq_getElem hj] at this
  exact this

end Go.Proofs.Ytmlcjiabnmdfeaa.CT
