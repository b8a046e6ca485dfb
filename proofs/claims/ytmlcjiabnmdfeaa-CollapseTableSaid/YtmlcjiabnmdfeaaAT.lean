/- The plain law of CollapseTable. -/
import Derived.Test.YtmlcjiabnmdfeaaR
namespace Go.Proofs.Ytmlcjiabnmdfeaa
open Go Go.RowKit Go.Shelf CT
set_option linter.unusedVariables false

/-- a framing of a table's lines alone -/
def tabF (n m : Int) (t : L4) : Fr := ⟨n, m, none, [], 0, none, [], 0, none, [], 0, none, [], 0, none, [], 0, none, [], 0, t⟩
theorem tabF_who (n m : Int) (t : L4) (r c : Int) : who (tabF n m t) r c = -1 := by
  unfold who
  split
  · rfl
  · rfl
theorem tabF_rim (n m : Int) (t : L4) (st : Bool) (k : Int) (line : Nat) : rim (tabF n m t) st k line = [tableSide (tabF n m t) line] := by
  unfold rim ovr btw
  cases st <;> rfl
theorem tabF_asked (n m : Int) (t : L4) (st : Bool) (a b : Int) : asked (tabF n m t) st a b (-1) (-1) =
    (if a = 0 then [tableSide (tabF n m t) (behindOf st)] else []) ++ (if a = lastOf (tabF n m t) st then [tableSide (tabF n m t) (aheadOf st)] else []) := by
  unfold asked
  rw [tabF_rim, tabF_rim]
  have h1 : ∀ k, cellAsk (tabF n m t) (-1) k = [] := fun k => by unfold cellAsk; rw [if_pos (by decide)]
  have h2 : askBtw (tabF n m t) st a = [] := by unfold askBtw btw; cases st <;> rfl
  rw [h1, h1, h2]
  simp
def wonOf (x : Edge) : CT.Side := ⟨x.style, x.width, x.color, x.by_, x.wrow, x.wcol⟩
/-- what the law wants -/
def want (n m : Int) (t : L4) (x : Edge) : CT.Side :=
  if x.lies = true ∧ x.row = 0 then ⟨t.a0, t.a1, t.a2, 5, 0, 0⟩ else if x.lies = true ∧ x.row = n then ⟨t.c0, t.c1, t.c2, 5, 0, 0⟩
  else if x.lies = false ∧ x.col = 0 then ⟨t.d0, t.d1, t.d2, 5, 0, 0⟩ else if x.lies = false ∧ x.col = m then ⟨t.b0, t.b1, t.b2, 5, 0, 0⟩ else ⟨0, 0, 0, 0, 0, 0⟩
theorem right_by {s : CT.Side} {b : Int} (h : CT.right ⟨s.style, s.width, s.color, 0, 0, 0⟩ = true) (h0 : 0 ≤ b) (h5 : b ≤ 5) : CT.right ⟨s.style, s.width, s.color, b, 0, 0⟩ = true := by
  unfold CT.right at h ⊢
  rw [show CT.rightW ⟨s.style, s.width, s.color, b, 0, 0⟩ = CT.rightW ⟨s.style, s.width, s.color, 0, 0, 0⟩ from rfl]
  simp at h ⊢
  exact ⟨⟨h.1, h.2⟩, h0, h5⟩
theorem win_one {s : CT.Side} (h : CT.right s = true) : winY [s] = s := by
  unfold winY
  have : bad [s] = false := by
    unfold bad wrongs
    simp [h]
  rw [this]
  rw [if_neg (by decide)]
  exact led_one [s]
theorem win_none : winY [] = ⟨0, 0, 0, 0, 0, 0⟩ := rfl
theorem table_right {n m : Int} {t : L4} (ht : wrongL t.lines = false) (k : Nat) : CT.right (tableSide (tabF n m t) k) = true := by
  unfold tableSide
  refine right_by (s := ⟨(lineOf t k).style, (lineOf t k).width, (lineOf t k).color, 0, 0, 0⟩) ?_ (by decide) (by decide)
  unfold lineOf
  cases hk : t.lines[k]? with
  | none => rfl
  | some l =>
    have hl := List.mem_of_getElem? hk
    unfold wrongL at ht
    rw [List.any_eq_false] at ht
    have := ht l hl
    simp at this
    exact this
theorem won_edge (r c : Int) (l : Bool) (L : List CT.Side) : wonOf (edgeOf r c l L) = winY L := rfl
/-- each edge's winner is what the law wants -/
theorem tab_want {n m : Int} {t : L4} (hn : 1 ≤ n) (hm : 1 ≤ m) (ht : wrongL t.lines = false) : ∀ x ∈ allE (tabF n m t), wonOf x = want n m t x := fun x hx => by
  unfold allE at hx
  rw [List.mem_append] at hx
  rcases hx with hx | hx
  · unfold lieAll at hx
    obtain ⟨r, hr, hx⟩ := List.mem_flatMap.1 hx
    unfold lieRow at hx
    obtain ⟨c, hc, hx⟩ := List.mem_flatMap.1 hx
    unfold lieAt at hx
    rw [tabF_who, tabF_who, if_neg (by omega)] at hx
    obtain rfl := List.mem_singleton.1 hx
    rw [won_edge, tabF_asked]
    unfold want
    simp only [edgeOf, true_and]
    by_cases h0 : (r : Int) = 0
    · rw [if_pos h0, if_pos h0, if_neg (show ¬ (r : Int) = lastOf (tabF n m t) false from fun h => by have h1 : (r : Int) = n := h; omega), List.append_nil, win_one (table_right ht _)]
      rfl
    · rw [if_neg h0, if_neg h0, List.nil_append]
      by_cases h1 : (r : Int) = n
      · rw [if_pos (show (r : Int) = lastOf (tabF n m t) false from h1), if_pos h1, win_one (table_right ht _)]
        rfl
      · rw [if_neg (show ¬ (r : Int) = lastOf (tabF n m t) false from h1), if_neg h1, win_none]
        rfl
  · unfold standAll at hx
    obtain ⟨r, hr, hx⟩ := List.mem_flatMap.1 hx
    unfold standRow at hx
    obtain ⟨c, hc, hx⟩ := List.mem_flatMap.1 hx
    unfold standAt at hx
    rw [tabF_who, tabF_who, if_neg (by omega)] at hx
    obtain rfl := List.mem_singleton.1 hx
    rw [won_edge, tabF_asked]
    unfold want
    simp only [edgeOf, true_and, Bool.false_eq_true, false_and, if_false]
    by_cases h0 : (c : Int) = 0
    · rw [if_pos h0, if_pos h0, if_neg (show ¬ (c : Int) = lastOf (tabF n m t) true from fun h => by have h1 : (c : Int) = m := h; omega), List.append_nil, win_one (table_right ht _)]
      rfl
    · rw [if_neg h0, if_neg h0, List.nil_append]
      by_cases h1 : (c : Int) = m
      · rw [if_pos (show (c : Int) = lastOf (tabF n m t) true from h1), if_pos h1, win_one (table_right ht _)]
        rfl
      · rw [if_neg (show ¬ (c : Int) = lastOf (tabF n m t) true from h1), if_neg h1, win_none]
end Go.Proofs.Ytmlcjiabnmdfeaa
