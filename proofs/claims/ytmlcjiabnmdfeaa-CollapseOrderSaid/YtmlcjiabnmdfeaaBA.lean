/- The order of runs makes no difference to edges: the plain law of CollapseOrder. -/
import Derived.Test.YtmlcjiabnmdfeaaR
namespace Go.Proofs.Ytmlcjiabnmdfeaa
open Go Go.RowKit Go.Shelf CT
set_option linter.unusedVariables false

theorem led_perm {l m : List CT.Side} (h : l.Perm m) (h0 : l ≠ []) : led l l.length = led m m.length := by
  have m0 : m ≠ [] := fun e => h0 (by rw [e] at h; exact h.eq_nil)
  exact leS_anti (led_all (h.mem_iff.2 (led_mem m m0 _ (Nat.le_refl _)))) (led_all (h.mem_iff.1 (led_mem l h0 _ (Nat.le_refl _))))
theorem winY_perm {l m : List CT.Side} (h : l.Perm m) : winY l = winY m := by
  have hb : bad l = bad m := by
    unfold bad
    rw [wrongs_perm h]
    congr 1
    cases l with
    | nil => rw [h.symm.eq_nil]
    | cons x l => cases m with
      | nil => exact absurd h.eq_nil (by simp)
      | cons y m => rfl
  unfold winY
  rw [hb]
  cases hm : bad m with
  | true => rfl
  | false =>
    rw [if_neg (by simp), if_neg (by simp)]
    refine led_perm h fun e => ?_
    subst e
    rw [hm] at hb
    cases hb
theorem edgeOf_perm (r c : Int) (b : Bool) {l m : List CT.Side} (h : l.Perm m) : edgeOf r c b l = edgeOf r c b m := by
  unfold edgeOf
  rw [winY_perm h, h.length_eq]
/-- the same but for the order of runs -/
structure Same (f g : Fr) : Prop where
  R : f.R = g.R
  C : f.C = g.C
  p : f.pl = g.pl
  c : f.cl = g.cl
  t : f.t = g.t
  r : f.rl.Perm g.rl
  gg : f.gl.Perm g.gl
  k : f.kl.Perm g.kl
  h : f.hl.Perm g.hl
theorem any_perm {α : Type} {l m : List α} (h : l.Perm m) (p : α → Bool) : l.any p = m.any p := by
  cases hm : m.any p with
  | true =>
    obtain ⟨x, hx, hp⟩ := List.any_eq_true.1 hm
    exact List.any_eq_true.2 ⟨x, h.mem_iff.2 hx, hp⟩
  | false =>
    rw [List.any_eq_false] at hm ⊢
    exact fun x hx => hm x (h.mem_iff.1 hx)
section
variable {f g : Fr} (h : Same f g)
include h
theorem Same.ok : okFr f = okFr g := by
  unfold okFr wrongR
  rw [h.R, h.C, h.p, h.c, h.t, any_perm h.r, any_perm h.gg, any_perm h.k, any_perm h.h]
theorem Same.who (r c : Int) : Ytmlcjiabnmdfeaa.who f r c = Ytmlcjiabnmdfeaa.who g r c := by
  unfold Ytmlcjiabnmdfeaa.who
  rw [h.R, h.C, h.p]
theorem Same.btw (st : Bool) (F : Int → Run → List CT.Side) : ((Ytmlcjiabnmdfeaa.btw f st).flatMap fun k => k.1.flatMap (F k.2)).Perm ((Ytmlcjiabnmdfeaa.btw g st).flatMap fun k => k.1.flatMap (F k.2)) := by
  unfold Ytmlcjiabnmdfeaa.btw
  cases st
  · simp only [Bool.false_eq_true, if_false, List.flatMap_cons, List.flatMap_nil, List.append_nil]
    exact (h.r.flatMap_right _).append (h.gg.flatMap_right _)
  · simp only [if_true, List.flatMap_cons, List.flatMap_nil, List.append_nil]
    exact (h.k.flatMap_right _).append (h.h.flatMap_right _)
theorem Same.rim (st : Bool) (m : Int) (line : Nat) : (Ytmlcjiabnmdfeaa.rim f st m line).Perm (Ytmlcjiabnmdfeaa.rim g st m line) := by
  unfold Ytmlcjiabnmdfeaa.rim tableSide ovr
  rw [h.t]
  exact (h.btw (!st) (rimRun st m line)).append_right _
theorem Same.cell (p : Int) (k : Nat) : cellAsk f p k = cellAsk g p k := by
  unfold cellAsk cellSide
  rw [h.c, h.p]
theorem Same.asked (st : Bool) (n m a b : Int) : (Ytmlcjiabnmdfeaa.asked f st n m a b).Perm (Ytmlcjiabnmdfeaa.asked g st n m a b) := by
  unfold Ytmlcjiabnmdfeaa.asked
  have hl : lastOf f st = lastOf g st := by unfold lastOf; rw [h.R, h.C]
  rw [h.cell, h.cell, hl]
  refine List.Perm.append_left _ (List.Perm.append_left _ (List.Perm.append ?_ (List.Perm.append ?_ ?_)))
  · exact h.btw st (askRun st n)
  · split
    · exact h.rim _ _ _
    · exact List.Perm.refl _
  · split
    · exact h.rim _ _ _
    · exact List.Perm.refl _
theorem Same.lieAt (r c : Nat) : Ytmlcjiabnmdfeaa.lieAt f r c = Ytmlcjiabnmdfeaa.lieAt g r c := by
  unfold Ytmlcjiabnmdfeaa.lieAt
  rw [h.who, h.who, edgeOf_perm _ _ _ (h.asked _ _ _ _ _)]
theorem Same.standAt (r c : Nat) : Ytmlcjiabnmdfeaa.standAt f r c = Ytmlcjiabnmdfeaa.standAt g r c := by
  unfold Ytmlcjiabnmdfeaa.standAt
  rw [h.who, h.who, edgeOf_perm _ _ _ (h.asked _ _ _ _ _)]
theorem Same.all : allE f = allE g := by
  unfold allE lieAll standAll lieRow standRow
  rw [h.R, h.C, funext fun r => funext fun c => h.lieAt r c, funext fun r => funext fun c => h.standAt r c]
end
end Go.Proofs.Ytmlcjiabnmdfeaa
