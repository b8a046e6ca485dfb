/- Contracts of the reference's at and has. -/
import Derived.Test.YtnlojbkjhlhogaaSB
namespace Go.Proofs.Ytnlojbkjhlhogaa
open Go Go.RowKit IV
set_option linter.unusedVariables false

set_option maxHeartbeats 2000000 in
theorem c39 (r : Rect) (p q : Int) (w : World) (hr : right r = true) :
    Calls Try.prog 39 #[.agg r.arr, .int .i64 p, .int .i64 q] w fun e w' => e = .returned (.bool (atR r p q)) ∧ Below w.heap.size w w' := by
  have hb := right_iff.1 hr
  have HR := Lib.hid (RRow.new w r)
  have HB := Lib.hid ((Below.refl _ w).alloc (Nat.le_refl _) (.cells r.arr 23))
  have Hd : Hid (atR r p q = (decide (r.x ≤ p) && decide (p < r.x + r.w) && (decide (r.y ≤ q) && decide (q < r.y + r.h)))) := Lib.hid rfl
  obtain ⟨x, y, u, v⟩ := r
  dsimp only at hb Hd
  have w1 : IntKind.i64.wrap (x + u) = x + u := IntWalk.i64_in _ (by omega)
  have w2 : IntKind.i64.wrap (y + v) = y + v := IntWalk.i64_in _ (by omega)
  clear hb hr
  generalize atR ⟨x, y, u, v⟩ p q = t at *
  unfold Rect.arr at *
  dsimp only at *
  have p0 : (w.alloc (.cells #[.int .i64 x, .int .i64 y, .int .i64 u, .int .i64 v] 23)).cell? ⟨w.heap.size, 0, none⟩ = some (.int .i64 x) := HR.out.cells.1
  have p1 : (w.alloc (.cells #[.int .i64 x, .int .i64 y, .int .i64 u, .int .i64 v] 23)).cell? ⟨w.heap.size, 1, none⟩ = some (.int .i64 y) := HR.out.cells.2.1
  have p2 : (w.alloc (.cells #[.int .i64 x, .int .i64 y, .int .i64 u, .int .i64 v] 23)).cell? ⟨w.heap.size, 2, none⟩ = some (.int .i64 u) := HR.out.cells.2.2.1
  have p3 : (w.alloc (.cells #[.int .i64 x, .int .i64 y, .int .i64 u, .int .i64 v] 23)).cell? ⟨w.heap.size, 3, none⟩ = some (.int .i64 v) := HR.out.cells.2.2.2
  cases h1 : decide (x ≤ p)
  · have hd := Hd.out
    rw [h1] at hd
    simp only [Bool.false_and] at hd
    subst hd
    go_enter Try.func39, Try.ntmps39
    go_wp2_with (fail)
    go_ret
    exact ⟨rfl, HB.out⟩
  cases h2 : decide (p < x + u)
  · have hd := Hd.out
    rw [h1, h2] at hd
    simp only [Bool.false_and, Bool.true_and] at hd
    subst hd
    go_enter Try.func39, Try.ntmps39
    go_wp2_with (fail)
    go_ret
    exact ⟨rfl, HB.out⟩
  cases h3 : decide (y ≤ q)
  · have hd := Hd.out
    rw [h1, h2, h3] at hd
    simp only [Bool.false_and, Bool.true_and] at hd
    subst hd
    go_enter Try.func39, Try.ntmps39
    go_wp2_with (fail)
    go_ret
    exact ⟨rfl, HB.out⟩
  cases h4 : decide (q < y + v)
  · have hd := Hd.out
    rw [h1, h2, h3, h4] at hd
    simp only [Bool.true_and] at hd
    subst hd
    go_enter Try.func39, Try.ntmps39
    go_wp2_with (fail)
    go_ret
    exact ⟨rfl, HB.out⟩
  · have hd := Hd.out
    rw [h1, h2, h3, h4] at hd
    simp only [Bool.true_and] at hd
    subst hd
    go_enter Try.func39, Try.ntmps39
    go_wp2_with (fail)
    go_ret
    exact ⟨rfl, HB.out⟩

def hasR (xs : List Rect) (p q : Int) : Bool := xs.any fun a => atR a p q
theorem hasR_at {xs : List Rect} {p q : Int} {k : Nat} (hk : k < xs.length) (h : atR (xs[k]?.getD default) p q = true) : hasR xs p q = true := by
  unfold hasR
  rw [List.any_eq_true]
  refine ⟨xs[k], List.getElem_mem hk, ?_⟩
  rw [List.getElem?_eq_getElem hk] at h
  exact h
theorem hasR_none {xs : List Rect} {p q : Int} (h : ∀ j, j < xs.length → atR (xs[j]?.getD default) p q = false) : hasR xs p q = false := by
  unfold hasR
  rw [Bool.eq_false_iff, ne_eq, List.any_eq_true]
  rintro ⟨a, ha, h1⟩
  obtain ⟨k, hk, rfl⟩ := List.getElem_of_mem ha
  have := h k hk
  rw [List.getElem?_eq_getElem hk] at this
  rw [show (some xs[k]).getD default = xs[k] from rfl] at this
  rw [this] at h1
  cases h1

set_option maxHeartbeats 2000000 in
theorem c40 (A : Option Addr) (xs : List Rect) (c : Nat) (p q : Int) (w : World) (hx : Rects w A xs) (hr : ∀ a ∈ xs, right a = true) (hl : xs.length ≤ 17592186044416) :
    Calls Try.prog 40 #[.slice A xs.length c, .int .i64 p, .int .i64 q] w fun e w' => e = .returned (.bool (hasR xs p q)) ∧ Below w.heap.size w w' := by
  have Hx := Lib.hid hx
  have Hr := Lib.hid hr
  have H1 := Lib.hid (fun k (hk : k < xs.length) => @hasR_at xs p q k hk)
  have H0 := Lib.hid (@hasR_none xs p q)
  clear hx hr
  generalize hasR xs p q = t at *
  go_enter Try.func40, Try.ntmps40
  go_wp2_with (fail)
  go_loopw [7] (fun i wr => ∃ k : Nat, k ≤ xs.length ∧ i = .int .i64 k ∧ Hid (Below w.heap.size w wr) ∧ Hid (∀ j, j < k → atR (xs[j]?.getD default) p q = false)) (fun i _ => xs.length - (intOf i).toNat)
  case atStart => exact ⟨0, Nat.zero_le _, rfl, Lib.hid (Below.refl _ _), Lib.hid fun j hj => absurd hj (Nat.not_lt_zero j)⟩
  case round =>
    obtain ⟨k, hk, rfl, HB, HP⟩ := hrel
    by_cases hlt : k < xs.length
    · have ti : decide ((k : Int) < (xs.length : Int)) = true := decide_eq_true (by omega)
      obtain ⟨r, b, off, hrk, rfl, hc⟩ := (Hx.out.below HB.out).get k hlt
      have Hk1 := Lib.hid (H1.out k hlt)
      have Hpn : Hid (atR (xs[k]?.getD default) p q = false → ∀ j, j < k + 1 → atR (xs[j]?.getD default) p q = false) := Lib.hid fun h j hj => by
        by_cases e : j = k
        · subst e; exact h
        · exact HP.out j (by omega)
      have hra := right_at Hr.out hlt
      rw [hrk.out] at Hk1 Hpn hra
      have C39 := Lib.hid (fun W => c39 r p q W hra)
      generalize atR r p q = tr at *
      obtain ⟨x, y, u, v⟩ := r
      obtain ⟨q0, q1, q2, q3⟩ := hc
      unfold Rect.arr at C39
      dsimp only at C39 q0 q1 q2 q3
      clear hrk hra
      go_wp2_with (fail)
      refine (C39.out _).mono ?_
      rintro e w2 ⟨rfl, hb⟩
      have SB := Lib.hid (HB.out.trans (hb.mono HB.out.size))
      clear hb C39 q0 q1 q2 q3
      cases tr with
      | true =>
        obtain rfl := Hk1.out rfl
        clear Hpn Hk1
        go_wp2_with (fail)
        go_ret
        exact ⟨rfl, SB.out⟩
      | false =>
        have Hpn1 := Lib.hid (Hpn.out rfl)
        clear Hpn Hk1
        go_wp2_with (fail)
        go_roundw
        case rel => exact ⟨k + 1, by omega, by go_num, SB, Hpn1⟩
        case measure => simp [intOf]; omega
    · obtain rfl : k = xs.length := by omega
      have ti : decide ((xs.length : Int) < (xs.length : Int)) = false := decide_eq_false (by omega)
      obtain rfl := H0.out HP.out
      go_wp2_with (fail)
      go_ret
      exact ⟨rfl, HB.out⟩
end Go.Proofs.Ytnlojbkjhlhogaa
