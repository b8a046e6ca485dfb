/- The range over a place's slots: what holds from round to round. -/
import Derived.Test.YtmlcjiabnmdfeaaFC
namespace Go.Proofs.Ytmlcjiabnmdfeaa
open Go Go.RowKit Go.Shelf CT
set_option linter.unusedVariables false

theorem shut_of_grown {X Y : World} {row : Option Nat} {B : Nat} (hB : B ≤ X.heap.size) (hg : X.grownBy Y row) (hr : ∀ r, row = some r → B ≤ r ∧ ∃ o : Obj, X.heap[r]? = some o ∧ o.isCells = false) : ShutD B X Y :=
  ⟨hg.os, hg.tape, hg.output, hg.size, fun b hb => hg.block b (by omega) (fun e => by have := (hr b e.symm).1; omega), fun b cs t fr hc => (hg.block b (Array.getElem?_eq_some_iff.1 hc).1 (fun e => by
    obtain ⟨_, o, ho, ho2⟩ := hr b e.symm
    rw [hc] at ho
    cases ho
    cases ho2)).trans hc⟩
section
variable {w X Y W : World} {H0 R C : Nat} {vs : Nat → Value} {n : Nat → Nat} {f : Nat → Nat → Int} {ps : List Place} {Ds : List Nat}
theorem SlW.shut (h : SlW w X H0 R vs n f) (hs : ShutD H0 X Y) : SlW w Y H0 R vs n f :=
  ⟨hs.tab h.tab, hs.boxed h.b0, hs.boxed h.b1, hs.boxed h.b5, h.nb, h.bl.trans hs.below⟩
theorem Marks.own {B B0 : Nat} {row : Option Nat} (h : Marks X B0 Ds) (hg : X.grownBy Y row) (hr : ∀ r, row = some r → B ≤ r ∧ ∃ o : Obj, X.heap[r]? = some o ∧ o.isCells = false) (hD : ∀ D ∈ Ds, D < B) : Marks Y B0 Ds :=
  h.keep fun D hm => hg.block D (h.lt hm) fun e => by have := (hr D e.symm).1; have := hD D hm; omega

theorem ownRow_nodup (r0 c0 i : Nat) : ∀ k, (ownRow r0 c0 i k).Nodup
  | 0 => List.nodup_nil
  | k + 1 => by
    rw [ownRow, List.nodup_append]
    refine ⟨ownRow_nodup r0 c0 i k, by simp, fun a ha b hb e => ?_⟩
    rw [List.mem_singleton] at hb
    subst hb; subst e
    have := ownRow_mem.1 ha
    dsimp only at this
    omega
theorem ownTo_nodup (r0 c0 q : Nat) : ∀ m, (ownTo r0 c0 q m).Nodup
  | 0 => List.nodup_nil
  | m + 1 => by
    rw [ownTo, List.nodup_append]
    refine ⟨ownTo_nodup r0 c0 q m, ownRow_nodup r0 c0 m q, fun a ha b hb e => ?_⟩
    subst e
    have h1 := ownTo_mem.1 ha
    have h2 := ownRow_mem.1 hb
    omega
theorem ownRow_prefix (r0 c0 i : Nat) {k q : Nat} (h : k ≤ q) : ownRow r0 c0 i k <+: ownRow r0 c0 i q := by
  induction q with
  | zero => obtain rfl : k = 0 := by omega
            exact List.prefix_refl _
  | succ q ih =>
    by_cases e : k = q + 1
    · subst e; exact List.prefix_refl _
    · exact (ih (by omega)).trans (by rw [ownRow]; exact List.prefix_append _ _)
theorem ownTo_prefix (r0 c0 q : Nat) {i m : Nat} (h : i ≤ m) : ownTo r0 c0 q i <+: ownTo r0 c0 q m := by
  induction m with
  | zero => obtain rfl : i = 0 := by omega
            exact List.prefix_refl _
  | succ m ih =>
    by_cases e : i = m + 1
    · subst e; exact List.prefix_refl _
    · exact (ih (by omega)).trans (by rw [ownTo]; exact List.prefix_append _ _)
theorem own_prefix (r0 c0 : Nat) {q m i k : Nat} (hi : i < m) (hk : k ≤ q) : ownTo r0 c0 q i ++ ownRow r0 c0 i k <+: ownTo r0 c0 q m := by
  refine List.IsPrefix.trans ?_ (ownTo_prefix r0 c0 q (show i + 1 ≤ m by omega))
  rw [ownTo]
  exact List.prefix_append_right_inj _ |>.2 (ownRow_prefix r0 c0 i hk)
theorem fresh_of_prefix {L pre : List (Nat × Nat)} {x : Nat × Nat} (hL : L.Nodup) (h : pre ++ [x] <+: L) : x ∉ pre := fun hm => by
  have h1 := h.sublist.nodup hL
  rw [List.nodup_append] at h1
  exact h1.2.2 x hm x (by simp) rfl

/-- what holds from round to round -/
structure BI (w : World) (H0 R C N0 : Nat) (ps : List Place) (k : Nat) (Ds : List Nat) (L : List (Nat × Nat)) (base : Nat) (pre : List (Nat × Nat)) (W : World) : Prop where
  st : ∃ vs f, SlW w W H0 R vs (fun _ => C) f ∧ (∀ r, r < R → ∀ b, (vs r).ownBlock = some b → b < N0) ∧ (pre <+: L → f = markL (whoTo ps k) k pre ∧ ∀ s ∈ pre, whoTo ps k s.1 s.2 < 0)
  ms : Marks W (H0 + 6) Ds
  bx : Boxed W N0 3 (.int .i64 k)
  sz : base ≤ W.heap.size
/-- what holds where a slot had an owner -/
structure BX (w : World) (H0 : Nat) (ps : List Place) (k : Nat) (Ds : List Nat) (L : List (Nat × Nat)) (c : Code) (pre : List (Nat × Nat)) (W : World) : Prop where
  ret : c = .ret
  b0 : Boxed W H0 63 (.slice none 0 0)
  b1 : Boxed W (H0 + 1) 35 (.int .i64 70)
  bl : Below H0 w W
  ms : Marks W (H0 + 6) Ds
  no : pre <+: L → ∃ s ∈ pre, ¬ whoTo ps k s.1 s.2 < 0
  sz : H0 ≤ W.heap.size
variable {N0 k base : Nat} {L pre : List (Nat × Nat)} {c : Code}
theorem BI.own {row : Option Nat} (h : BI w H0 R C N0 ps k Ds L base pre X) (hg : X.grownBy Y row) (hH : H0 ≤ base) (hr : ∀ r, row = some r → base ≤ r ∧ ∃ o : Obj, X.heap[r]? = some o ∧ o.isCells = false) (hD : ∀ D ∈ Ds, D < base) : BI w H0 R C N0 ps k Ds L base pre Y := by
  obtain ⟨vs, f, hS, hv, hf⟩ := h.st
  have hs := shut_of_grown (B := H0) (Nat.le_trans hH h.sz) hg fun r e => ⟨Nat.le_trans hH (hr r e).1, (hr r e).2⟩
  exact ⟨⟨vs, f, hS.shut hs, hv, hf⟩, h.ms.own hg hr hD, hs.boxed h.bx, Nat.le_trans h.sz hg.size⟩
theorem BI.turn (h : BI w H0 R C N0 ps k Ds L base pre X) (hb : Below X.heap.size X Y) : BI w H0 R C N0 ps k Ds L base pre Y := by
  obtain ⟨vs, f, hS, hv, hf⟩ := h.st
  exact ⟨⟨vs, f, hS.turn hb, hv, hf⟩, h.ms.turn hb, (hb.block _ h.bx.lt).trans h.bx, Nat.le_trans h.sz hb.size⟩
theorem keepsOthers_below (h : Below X.heap.size X Y) : KeepsOthers X Y := ⟨h.size, fun k o ho _ => (h.block k (Array.getElem?_eq_some_iff.1 ho).1).trans ho⟩
theorem keeps_below {S : Nat → Prop} (h : Below X.heap.size X Y) (hS : ∀ b, S b → b < X.heap.size) : CT.Keeps S X Y := ⟨h.os, h.tape, h.output, h.size, fun b hb => h.block b (hS b hb)⟩
theorem BX.own {row : Option Nat} (h : BX w H0 ps k Ds L c pre X) (hg : X.grownBy Y row) (hH : H0 ≤ base) (hr : ∀ r, row = some r → base ≤ r ∧ ∃ o : Obj, X.heap[r]? = some o ∧ o.isCells = false) (hD : ∀ D ∈ Ds, D < base) : BX w H0 ps k Ds L c pre Y := by
  have hs := shut_of_grown (B := H0) h.sz hg fun r e => ⟨Nat.le_trans hH (hr r e).1, (hr r e).2⟩
  exact ⟨h.ret, hs.boxed h.b0, hs.boxed h.b1, h.bl.trans hs.below, h.ms.own hg hr hD, h.no, Nat.le_trans h.sz hg.size⟩
/-- one slot is taken -/
theorem BI.step {r q b cap : Nat} (hS : SlW w W H0 R vs (fun _ => C) f) (hf : pre <+: L → f = markL (whoTo ps k) k pre ∧ ∀ s ∈ pre, whoTo ps k s.1 s.2 < 0) (hM : Marks W (H0 + 6) Ds) (hN : Boxed W N0 3 (.int .i64 k)) (hvN : ∀ r, r < R → ∀ b, (vs r).ownBlock = some b → b < N0) (hsz : base ≤ W.heap.size)
    (hL : L.Nodup) (hr : r < R) (hq : q < C) (hv : vs r = .slice (some ⟨b, 0, none⟩) C cap) (hfree : f r q < 0) (hcell : W.cell? ⟨b, q, none⟩ = some (.int .i64 (f r q))) :
    BI w H0 R C N0 ps k Ds L base (pre ++ [(r, q)]) (W.setCell ⟨b, q, none⟩ (.int .i64 k)) := by
  refine ⟨⟨vs, _, hS.set hr (n := fun _ => C) hq hv k, hvN, fun hp => ?_⟩, hM.set hcell, (heap_set_other W q _ (fun e => by have := hvN r hr b (by rw [hv]; rfl); omega)).trans hN, by simpa [World.setCell] using hsz⟩
  have hx := fresh_of_prefix hL hp
  obtain ⟨h1, h2⟩ := hf ((List.prefix_append pre [(r, q)]).trans hp)
  subst h1
  refine ⟨by rw [markL_next], fun s hs => ?_⟩
  rcases List.mem_append.1 hs with hs | hs
  · exact h2 s hs
  · rw [List.mem_singleton] at hs
    subst hs
    unfold markL at hfree
    rw [if_neg hx] at hfree
    exact hfree
/-- a slot had an owner -/
theorem BX.step {r q : Nat} (hS : SlW w W H0 R vs n f) (hf : pre <+: L → f = markL (whoTo ps k) k pre ∧ ∀ s ∈ pre, whoTo ps k s.1 s.2 < 0) (hM : Marks W (H0 + 6) Ds) (hL : L.Nodup) (hno : ¬ f r q < 0) (hH : H0 = w.heap.size) :
    BX w H0 ps k Ds L .ret (pre ++ [(r, q)]) ((W.setCell ⟨H0, 0, none⟩ (.slice none 0 0)).setCell ⟨H0 + 1, 0, none⟩ (.int .i64 70)) := by
  refine ⟨rfl, (hS.b0.set (.slice none 0 0)).other (B' := H0 + 1) (by omega) (.int .i64 70), (hS.b1.other (B' := H0) (by omega) (.slice none 0 0)).set (.int .i64 70), ?_, (hM.set (v := .slice none 0 0) hS.b0.cell).set (v := .int .i64 70) (hS.b1.other (B' := H0) (by omega) _).cell, fun hp => ?_, ?_⟩
  · exact (hS.bl.setCell (p := ⟨H0, 0, none⟩) (Nat.le_refl _) _).setCell (p := ⟨H0 + 1, 0, none⟩) (by show H0 ≤ H0 + 1; omega) _
  · have hx := fresh_of_prefix hL hp
    obtain ⟨h1, _⟩ := hf ((List.prefix_append pre [(r, q)]).trans hp)
    subst h1
    refine ⟨(r, q), by simp, fun h => hno ?_⟩
    unfold markL
    rw [if_neg hx]
    exact h
  · have := hS.size
    simp [World.setCell]
    omega
theorem slots_stop (h : BX w H0 ps k Ds L .ret pre W) (hp : pre <+: L) (hH : H0 = w.heap.size) (hk : k < ps.length) (hL : L = slotsOf (ps[k]?.getD default)) {D : Nat} (hD : W.heap[D]? = some (.deferred (some []))) (hDB : base ≤ D) (hDs : ∀ E ∈ Ds, E < base) (hb : H0 + 6 ≤ base) {tmps : Array Value} (h6 : tmps[6]?.getD undef = .pointer (some ⟨H0, 0, none⟩)) (h7 : tmps[7]?.getD undef = .pointer (some ⟨H0 + 1, 0, none⟩)) :
    LeavesInM Fence.wide 3 Try.prog Try.f25 tmps (SlotsSaid ps R C w) (List.map coll (D :: Ds)) .returning W := by
  have hM := h.ms.cons (D := D) (by omega) hD fun hm => by have := hDs D hm; omega
  have hok : okS ps R C = false := by
    obtain ⟨s, hs, hn⟩ := h.no hp
    refine okS_no hk ?_
    unfold okP freeP
    rw [Bool.and_eq_false_iff]
    right
    rw [List.all_eq_false]
    exact ⟨s, by rw [← hL]; exact hp.subset hs, by simpa using hn⟩
  refine leaves_coll _ _ hM fun W' hW' => ⟨_, res25 h6 h7 (hW'.boxed h.b0) (hW'.boxed h.b1), ⟨fun h2 => (by rw [hok] at h2; cases h2), fun _ => rfl⟩, ?_⟩
  subst hH
  exact h.bl.trans (hW'.below.mono (by omega))
/-- all slots of a place are taken -/
theorem BI.all (h : BI w H0 R C N0 ps k Ds L base L W) (hL : L = slotsOf (ps[k]?.getD default)) (hfit : fitP (ps[k]?.getD default) R C = true) : (∃ vs, SlW w W H0 R vs (fun _ => C) (whoTo ps (k + 1))) ∧ okP ps R C k = true := by
  obtain ⟨vs, f, hS, hv, hf⟩ := h.st
  obtain ⟨h1, h2⟩ := hf (List.prefix_refl _)
  refine ⟨⟨vs, ?_⟩, ?_⟩
  · rw [← markL_all hfit, ← hL, ← h1]; exact hS
  · unfold okP freeP
    rw [hfit, ← hL, Bool.true_and, List.all_eq_true]
    exact fun s hs => decide_eq_true (h2 s hs)
end
end Go.Proofs.Ytmlcjiabnmdfeaa
