/- The edges of a framing, in plain words; colours of lines; how much is asked for. -/
import Derived.Test.YtmlcjiabnmdfeaaQ
namespace Go.Proofs.Ytmlcjiabnmdfeaa
open Go Go.RowKit Go.Shelf CT
set_option linter.unusedVariables false

def Line.wf (l : Line) : Prop := 0 ≤ l.color ∧ l.color ≤ 4294967295
def L4.wf (q : L4) : Prop := ∀ l ∈ q.lines, l.wf
def runsWf (l : List Run) : Prop := ∀ r ∈ l, r.ls.wf
/-- colours are so -/
structure Fr.wf (f : Fr) : Prop where
  c : ∀ q ∈ f.cl, q.wf
  t : f.t.wf
  r : runsWf f.rl
  g : runsWf f.gl
  k : runsWf f.kl
  h : runsWf f.hl
theorem lineOf_wf {q : L4} (h : q.wf) (k : Nat) : (lineOf q k).wf := by
  unfold lineOf
  cases hk : q.lines[k]? with
  | none => exact ⟨by decide, by decide⟩
  | some x => exact h x (List.mem_of_getElem? hk)
theorem l4_default : (default : L4).wf := fun l hl => by
  simp [L4.lines, show (default : L4) = ⟨0, 0, 0, 0, 0, 0, 0, 0, 0, 0, 0, 0⟩ from rfl] at hl
  rw [hl]; exact ⟨by decide, by decide⟩
theorem dSide_wf {st : Bool} {l : Line} {by_ from_ : Int} {over : Bool} (h : l.wf) : (dSide st l by_ from_ over).wf := h
theorem cellAsk_wf {f : Fr} (hf : f.wf) (p : Int) (k : Nat) : ∀ x ∈ cellAsk f p k, x.wf := fun x hx => by
  unfold cellAsk at hx
  split at hx
  · cases hx
  · obtain rfl := List.mem_singleton.1 hx
    show (lineOf (f.cl[p.toNat]?.getD default) k).wf
    refine lineOf_wf ?_ k
    cases hq : f.cl[p.toNat]? with
    | none => exact l4_default
    | some q => exact hf.c q (List.mem_of_getElem? hq)
theorem btw_wf {f : Fr} (hf : f.wf) (st : Bool) : ∀ q ∈ btw f st, runsWf q.1 := fun q hq => by
  unfold btw at hq
  cases st <;> simp at hq <;> rcases hq with rfl | rfl
  · exact hf.r
  · exact hf.g
  · exact hf.k
  · exact hf.h
theorem rim_wf {f : Fr} (hf : f.wf) (st : Bool) (m : Int) (k : Nat) : ∀ x ∈ rim f st m k, x.wf := fun x hx => by
  unfold rim at hx
  rw [List.mem_append] at hx
  rcases hx with hx | hx
  · obtain ⟨q, hq, hx⟩ := List.mem_flatMap.1 hx
    obtain ⟨r, hr, hx⟩ := List.mem_flatMap.1 hx
    unfold rimRun at hx
    split at hx
    · obtain rfl := List.mem_singleton.1 hx
      exact lineOf_wf (btw_wf hf (!st) q hq r hr) k
    · cases hx
  · obtain rfl := List.mem_singleton.1 hx
    exact lineOf_wf hf.t k
theorem asked_wf {f : Fr} (hf : f.wf) (st : Bool) (n m a b : Int) : ∀ x ∈ asked f st n m a b, x.wf := fun x hx => by
  unfold asked at hx
  rw [List.mem_append, List.mem_append, List.mem_append, List.mem_append] at hx
  rcases hx with hx | hx | hx | hx | hx
  · exact cellAsk_wf hf _ _ x hx
  · exact cellAsk_wf hf _ _ x hx
  · unfold askBtw at hx
    obtain ⟨q, hq, hx⟩ := List.mem_flatMap.1 hx
    obtain ⟨r, hr, hx⟩ := List.mem_flatMap.1 hx
    unfold askRun at hx
    rw [List.mem_append] at hx
    rcases hx with hx | hx
    · split at hx
      · obtain rfl := List.mem_singleton.1 hx
        exact lineOf_wf (btw_wf hf st q hq r hr) _
      · cases hx
    · split at hx
      · obtain rfl := List.mem_singleton.1 hx
        exact lineOf_wf (btw_wf hf st q hq r hr) _
      · cases hx
  · split at hx
    · exact rim_wf hf _ _ _ x hx
    · cases hx
  · split at hx
    · exact rim_wf hf _ _ _ x hx
    · cases hx
theorem askBtw_len (f : Fr) (st : Bool) (n : Int) {W : World} (h : f.In W) : (askBtw f st n).length ≤ 40 := by
  have hr : ∀ by_ x, (askRun st n by_ x).length ≤ 2 := fun by_ x => by unfold askRun; rw [List.length_append]; split <;> split <;> simp
  have h1 : ∀ q ∈ btw f st, (q.1.flatMap (askRun st n q.2)).length ≤ 20 := fun q hq => by
    have hq10 : q.1.length ≤ 10 := by
      have := h.len
      unfold btw at hq
      cases st <;> simp at hq <;> rcases hq with rfl | rfl <;> simp <;> omega
    have := flat_le (F := askRun st n q.2) (l := q.1) fun x _ => hr q.2 x
    omega
  have h2 := flat_le h1
  have h3 : (btw f st).length = 2 := by cases st <;> rfl
  rw [h3] at h2
  exact h2
theorem asked_len (f : Fr) (st : Bool) (n m a b : Int) {W : World} (h : f.In W) : (asked f st n m a b).length ≤ 84 := by
  unfold asked
  rw [List.length_append, List.length_append, List.length_append, List.length_append]
  have h1 := cellAsk_len f a (aheadOf st)
  have h2 := cellAsk_len f b (behindOf st)
  have h3 := askBtw_len f st n h
  have h4 := rim_len f st m (behindOf st) h
  have h5 := rim_len f st m (aheadOf st) h
  have h6 : (if n = 0 then rim f st m (behindOf st) else []).length ≤ 21 := by split; exact h4; simp
  have h7 : (if n = lastOf f st then rim f st m (aheadOf st) else []).length ≤ 21 := by split; exact h5; simp
  omega
theorem who_lt (f : Fr) (r c : Int) : who f r c < f.pl.length := by
  unfold who
  split
  · omega
  · exact (whoTo_low f.pl _ _ _).2

/-- the edge above a row, at a column; none within a place -/
def lieAt (f : Fr) (r c : Nat) : List Edge := if 0 ≤ who f (r - 1) c ∧ who f (r - 1) c = who f r c then [] else [edgeOf r c true (asked f false r c (who f (r - 1) c) (who f r c))]
def standAt (f : Fr) (r c : Nat) : List Edge := if 0 ≤ who f r (c - 1) ∧ who f r (c - 1) = who f r c then [] else [edgeOf r c false (asked f true c r (who f r (c - 1)) (who f r c))]
def lieRow (f : Fr) (r k : Nat) : List Edge := (List.range k).flatMap (lieAt f r)
def standRow (f : Fr) (r k : Nat) : List Edge := (List.range k).flatMap (standAt f r)
def lieAll (f : Fr) (i : Nat) : List Edge := (List.range i).flatMap fun r => lieRow f r f.C.toNat
def standAll (f : Fr) (i : Nat) : List Edge := (List.range i).flatMap fun r => standRow f r (f.C.toNat + 1)
/-- all edges -/
def allE (f : Fr) : List Edge := lieAll f (f.R.toNat + 1) ++ standAll f f.R.toNat
theorem lieRow_succ (f : Fr) (r k : Nat) : lieRow f r (k + 1) = lieRow f r k ++ lieAt f r k := by simp [lieRow, List.range_succ, List.flatMap_append]
theorem standRow_succ (f : Fr) (r k : Nat) : standRow f r (k + 1) = standRow f r k ++ standAt f r k := by simp [standRow, List.range_succ, List.flatMap_append]
theorem lieAll_succ (f : Fr) (i : Nat) : lieAll f (i + 1) = lieAll f i ++ lieRow f i f.C.toNat := by simp [lieAll, List.range_succ, List.flatMap_append]
theorem standAll_succ (f : Fr) (i : Nat) : standAll f (i + 1) = standAll f i ++ standRow f i (f.C.toNat + 1) := by simp [standAll, List.range_succ, List.flatMap_append]
theorem lieAt_len (f : Fr) (r c : Nat) : (lieAt f r c).length ≤ 1 := by unfold lieAt; split <;> simp
theorem standAt_len (f : Fr) (r c : Nat) : (standAt f r c).length ≤ 1 := by unfold standAt; split <;> simp
theorem lieRow_len (f : Fr) (r k : Nat) : (lieRow f r k).length ≤ k := by
  have := flat_le (F := lieAt f r) (l := List.range k) fun x _ => lieAt_len f r x
  rw [List.length_range, Nat.one_mul] at this
  exact this
theorem standRow_len (f : Fr) (r k : Nat) : (standRow f r k).length ≤ k := by
  have := flat_le (F := standAt f r) (l := List.range k) fun x _ => standAt_len f r x
  rw [List.length_range, Nat.one_mul] at this
  exact this
theorem lieAll_len (f : Fr) (hC : f.C ≤ 8) (i : Nat) : (lieAll f i).length ≤ 8 * i := by
  have := flat_le (F := fun r => lieRow f r f.C.toNat) (c := 8) (l := List.range i) fun x _ => Nat.le_trans (lieRow_len f x _) (by omega)
  rw [List.length_range] at this
  exact this
theorem standAll_len (f : Fr) (hC : f.C ≤ 8) (i : Nat) : (standAll f i).length ≤ 9 * i := by
  have := flat_le (F := fun r => standRow f r (f.C.toNat + 1)) (c := 9) (l := List.range i) fun x _ => Nat.le_trans (standRow_len f x _) (by omega)
  rw [List.length_range] at this
  exact this
theorem many_sides {w : World} {A : Option Addr} {xs : List CT.Side} (h : GR.Many CT.Side.cells 6 w A xs) : CT.Sides w A xs := fun j hj => by
  obtain ⟨b, off, hA, hat, _⟩ := h j hj
  exact ⟨b, off, hA, hat 0 _ rfl, hat 1 _ rfl, hat 2 _ rfl, hat 3 _ rfl, hat 4 _ rfl, hat 5 _ rfl⟩
end Go.Proofs.Ytmlcjiabnmdfeaa
