/- The walk of the law ContestMore: any sides, one side more. -/
import Derived.Test.YtffnnfdlelaonaaM3
namespace Go.Proofs.Ytffnnfdlelaonaa
open Go.RowKit Go.Shelf
set_option linter.unusedVariables false

def bad (l : List Side) : Bool := l.isEmpty || wrongs l
def winY (l : List Side) : Side := if bad l = true then default else led l l.length
def winF (l : List Side) : Int := if bad l = true then 110 else 0
/-- contest.Winner, any sides -/
theorem c15 (A : Option Addr) (l : List Side) (c : Nat) (w : World) (hx : Sides w A l) (hl : l.length ≤ 17592186044416) (hwf : ∀ x ∈ l, x.wf) :
    Calls Try.prog 15 #[.slice A l.length c] w fun e w' => e = .returned (.tuple #[.agg (winY l).arr, .int .i64 (winF l)]) ∧ Below w.heap.size w w' := by
  unfold winY winF
  cases hb : bad l with
  | true =>
    rw [if_pos rfl, if_pos rfl]
    by_cases h0 : l = []
    · subst h0; exact c15_empty A c w
    · have hw : wrongs l = true := by
        unfold bad at hb
        rw [Bool.or_eq_true] at hb
        rcases hb with h | h
        · exact absurd (List.isEmpty_iff.1 h) h0
        · exact h
      exact c15_wrong A l c w hx hl hw
  | false =>
    rw [if_neg (by simp), if_neg (by simp)]
    unfold bad at hb
    rw [Bool.or_eq_false_iff] at hb
    have hw := wrongs_iff.1 hb.2
    exact c15_right A l c w hx hl hwf hw (by intro h; rw [h] at hb; simp at hb)

theorem led_append (l m : List Side) (hl : 0 < l.length) : ∀ k, k ≤ l.length → led (l ++ m) k = led l k
  | 0, _ => by simp only [led]; rw [List.getElem?_append_left hl]
  | k + 1, hk => by
    simp only [led]
    rw [led_append l m hl k (by omega), List.getElem?_append_left (by omega)]
theorem led_more (l : List Side) (s : Side) (hl : 0 < l.length) : led (l ++ [s]) (l ++ [s]).length = if ord s (led l l.length) < 0 then s else led l l.length := by
  rw [List.length_append]
  show led (l ++ [s]) (l.length + 1) = _
  simp only [led]
  rw [led_append l [s] hl _ (Nat.le_refl _), List.getElem?_append_right (Nat.le_refl _), Nat.sub_self]
  rfl

theorem more_walk (A : Option Addr) (xs0 : List Side) (c : Nat) (s : Side) (w : World) (hx0 : Sides w A xs0) (hc : xs0.length ≤ c) (hAc : A = none → c = 0) (hl : xs0.length ≤ 17592186044416) (hwf : ∀ x ∈ xs0, x.wf) (ws : s.wf) :
    Calls Try.prog 4 #[.slice A xs0.length c, .agg s.arr] w fun r w' => r = .returned (.bool true) ∧ Below w.heap.size w w' := by
  obtain ⟨xs, hxs⟩ : ∃ xs, xs0.take 60 = xs := ⟨_, rfl⟩
  have hx := hx0.take 60
  have hm : xs.length = min xs0.length 60 := by rw [← hxs, List.length_take]; omega
  have hw : ∀ x ∈ xs, x.wf := fun x hx => hwf x (by rw [← hxs] at hx; exact List.mem_of_mem_take hx)
  rw [hxs] at hx
  have hw' : ∀ x ∈ xs ++ [s], x.wf := fun x hx => by
    rcases List.mem_append.1 hx with h | h
    · exact hw x h
    · rw [List.mem_singleton.1 h]; exact ws
  refine more_step A xs0 xs c s (winY xs) (winY (xs ++ [s])) (winF xs) (winF (xs ++ [s])) w hx hm hc hAc hl (fun W h => c15 A xs c W h (by omega) hw) (fun W g cap h => ?_) ?_
  · have := c15 (some ⟨g, 0, none⟩) (xs ++ [s]) cap W h (by simp; omega) hw'
    rw [List.length_append] at this
    exact this
  · cases hb : bad xs with
    | true => left; unfold winF; rw [hb]; rfl
    | false =>
      have he : winF xs = 0 := by unfold winF; rw [hb]; rfl
      right
      cases hb' : bad (xs ++ [s]) with
      | true => left; exact ⟨he, by unfold winF; rw [hb']; rfl⟩
      | false =>
        right
        refine ⟨he, by unfold winF; rw [hb']; rfl, ?_⟩
        have hp : 0 < xs.length := by
          unfold bad at hb
          rw [Bool.or_eq_false_iff] at hb
          cases xs with
          | nil => simp at hb
          | cons x l => simp
        have hy : winY (xs ++ [s]) = if ord s (winY xs) < 0 then s else winY xs := by
          have y1 : winY (xs ++ [s]) = led (xs ++ [s]) (xs ++ [s]).length := by unfold winY; rw [hb']; exact if_neg (by simp)
          have y2 : winY xs = led xs xs.length := by unfold winY; rw [hb]; exact if_neg (by simp)
          rw [y1, y2, led_more xs s hp]
        by_cases ho : ord s (winY xs) < 0
        · left; rw [hy, if_pos ho]
        · right
          rw [hy, if_neg ho]
          refine ⟨rfl, fun h1 => ?_⟩
          have hr := ord_ref s (winY xs)
          rw [decide_eq_false ho] at hr
          by_cases h2 : (winY xs).style = 1
          · exact h2
          · unfold refw at hr
            simp [h1, h2] at hr

end Go.Proofs.Ytffnnfdlelaonaa
