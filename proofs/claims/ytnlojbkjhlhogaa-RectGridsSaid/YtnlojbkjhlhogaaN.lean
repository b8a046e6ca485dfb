/- What rect.Tiles answers, in plain words; and its contract where something is wrong. -/
import Derived.Test.YtnlojbkjhlhogaaM
import Derived.Test.YtnlojbkjhlhogaaL
namespace Go.Proofs.Ytnlojbkjhlhogaa
open Go Go.RowKit IV
set_option linter.unusedVariables false

def xsTo (r : Rect) (l : List Rect) (k : Nat) : List Int := r.x :: (l.take k).flatMap fun a => [a.x, a.x + a.w]
def ysTo (r : Rect) (l : List Rect) (k : Nat) : List Int := r.y :: (l.take k).flatMap fun a => [a.y, a.y + a.h]
theorem xsTo_succ (r : Rect) {l : List Rect} {k : Nat} (h : k < l.length) : xsTo r l (k + 1) = xsTo r l k ++ [(l[k]?.getD default).x, (l[k]?.getD default).x + (l[k]?.getD default).w] := by
  unfold xsTo
  rw [take_next h, List.flatMap_append, List.cons_append]; simp
theorem ysTo_succ (r : Rect) {l : List Rect} {k : Nat} (h : k < l.length) : ysTo r l (k + 1) = ysTo r l k ++ [(l[k]?.getD default).y, (l[k]?.getD default).y + (l[k]?.getD default).h] := by
  unfold ysTo
  rw [take_next h, List.flatMap_append, List.cons_append]; simp
theorem xsTo_len (r : Rect) (l : List Rect) : ∀ k, k ≤ l.length → (xsTo r l k).length = 1 + 2 * k
  | 0, _ => by simp [xsTo]
  | k + 1, h => by rw [xsTo_succ r (by omega), List.length_append, xsTo_len r l k (by omega)]; simp; omega
theorem ysTo_len (r : Rect) (l : List Rect) : ∀ k, k ≤ l.length → (ysTo r l k).length = 1 + 2 * k
  | 0, _ => by simp [ysTo]
  | k + 1, h => by rw [ysTo_succ r (by omega), List.length_append, ysTo_len r l k (by omega)]; simp; omega
def xsOf (r : Rect) (l : List Rect) : List Int := xsTo r l l.length
def ysOf (r : Rect) (l : List Rect) : List Int := ysTo r l l.length
/-- the corners that a rectangle has of the places of r and l -/
def cov (r : Rect) (l : List Rect) (a : Rect) : List (Nat × Nat) := covTo a (xsOf r l) (ysOf r l) (xsOf r l).length

/-- rectangles with points tile one -/
def Tl (r : Rect) (l : List Rect) : Prop :=
  (∀ a ∈ l, meet r a = a) ∧ (∀ p ∈ pairTo l l.length, pts (meet p.1 p.2) = false) ∧ (∀ p ∈ cov r l r, ∃ a ∈ l, p ∈ cov r l a)
instance (r : Rect) (l : List Rect) : Decidable (Tl r l) := by unfold Tl; infer_instance
def okT (r : Rect) (l : List Rect) : Bool := right r && (decide (l.length ≤ 400) && !wrongs l)
def tiles (r : Rect) (l : List Rect) : Bool := okT r l && decide (Tl r (l.filter pts))
def erT (r : Rect) (l : List Rect) : Int := if okT r l = true then 0 else 20
theorem okT_iff {r : Rect} {l : List Rect} : okT r l = true ↔ right r = true ∧ l.length ≤ 400 ∧ wrongs l = false := by
  unfold okT
  simp only [Bool.and_eq_true, decide_eq_true_eq, Bool.not_eq_true']

set_option maxHeartbeats 2000000 in
theorem c19_wrong (r : Rect) (A : Option Addr) (xs : List Rect) (c : Nat) (w : World) (hx : Rects w A xs) (hl : xs.length ≤ 1000000) (ho : okT r xs = false) :
    Calls Try.prog 19 #[.agg r.arr, .slice A xs.length c] w fun e w' => e = .returned (.tuple #[.bool false, .int .i64 20]) ∧ Below w.heap.size w w' := by
  have hb0 : Below w.heap.size w (w.alloc (.cells r.arr 23)) := (Below.refl _ w).alloc (Nat.le_refl _) _
  have Hx := Lib.hid (hx.below hb0)
  have C14 := Lib.hid (fun W => c14 r W)
  have C25 := Lib.hid (fun W h => c25 A xs c W h (by omega))
  have HB0 := Lib.hid hb0
  have Ho : Hid (¬ (right r = true ∧ xs.length ≤ 400 ∧ wrongs xs = false)) := Lib.hid fun h => by rw [okT_iff.2 h] at ho; cases ho
  obtain ⟨x, y, u, v⟩ := r
  generalize right ⟨x, y, u, v⟩ = rr at *
  generalize wrongs xs = wx at *
  unfold Rect.arr at *
  dsimp only at *
  clear hx hb0 ho
  go_enter Try.func19, Try.ntmps19
  go_wp2_with (fail)
  refine wp_scope_jumps 0 (fun _ _ => False) (fun _ _ => 0) rfl ?_ (fun _ _ h => h.elim)
  go_wp2_with (fail)
  refine (C14.out _).mono ?_
  rintro e w1 ⟨rfl, hb1⟩
  have HB1 := Lib.hid (HB0.out.trans (hb1.mono HB0.out.size))
  have Hx1 := Lib.hid (Hx.out.below hb1)
  clear hb1 HB0 Hx C14
  cases rr with
  | false =>
    clear Ho
    go_wp2_with (fail)
    exact ⟨rfl, _, results_tmp2 rfl _ _ _, rfl, HB1.out⟩
  | true =>
    by_cases h4 : 400 < xs.length
    · have t4 : decide ((400 : Int) < (xs.length : Int)) = true := decide_eq_true (by omega)
      clear Ho
      go_wp2_with (fail)
      exact ⟨rfl, _, results_tmp2 rfl _ _ _, rfl, HB1.out⟩
    · have t4 : decide ((400 : Int) < (xs.length : Int)) = false := decide_eq_false (by omega)
      have hw : wx = true := by
        cases wx with
        | true => rfl
        | false => exact absurd ⟨rfl, by omega, rfl⟩ Ho.out
      subst hw
      clear Ho
      go_wp2_with (fail)
      refine (C25.out _ Hx1.out).mono ?_
      rintro e w2 ⟨rfl, hb2⟩
      have HB2 := Lib.hid (HB1.out.trans (hb2.mono HB1.out.size))
      clear hb2
      go_wp2_with (fail)
      exact ⟨rfl, _, results_tmp2 rfl _ _ _, rfl, HB2.out⟩

end Go.Proofs.Ytnlojbkjhlhogaa
