/- The contract of align.Right, and of the library's functions that it calls: for every number of rows and slice of cells. -/
import Derived.Test.YtgpcoljgpgamdaaF
namespace Go.Proofs.Ytgpcoljgpgamdaa
open Go.RowKit
set_option linter.unusedVariables false

def bads (rows : Int) (xs : List Cell) : Bool := xs.any fun c => !okCell rows c
theorem bads_of {rows : Int} {xs : List Cell} {k : Nat} (hk : k < xs.length) (h : okCell rows (xs[k]?.getD default) = false) : bads rows xs = true := by
  unfold bads
  rw [List.any_eq_true]
  refine ⟨xs[k], List.getElem_mem hk, ?_⟩
  simp [hk] at h
  simp [h]
theorem bads_none {rows : Int} {xs : List Cell} (h : ∀ j, j < xs.length → okCell rows (xs[j]?.getD default) = true) : bads rows xs = false := by
  unfold bads
  rw [List.any_eq_false]
  intro x hx
  obtain ⟨j, hj, rfl⟩ := List.getElem_of_mem hx
  have := h j hj
  simp [hj] at this
  simp [this]
theorem bads_all {rows : Int} {xs : List Cell} (h : bads rows xs = false) (j : Nat) (hj : j < xs.length) : okCell rows (xs[j]?.getD default) = true := by
  unfold bads at h
  rw [List.any_eq_false] at h
  have := h xs[j] (List.getElem_mem hj)
  simp [hj]
  simpa using this
def BadIdx (rows : Int) (xs : List Cell) (w : World) (e : Ending) (w' : World) : Prop := ∃ i : Int, e = .returned (.int .i64 i) ∧ decide (0 ≤ i) = bads rows xs ∧ Below w.heap.size w w'

set_option maxHeartbeats 1000000 in
theorem c41w (A : Option Addr) (xs : List Cell) (c : Nat) (rows : Int) (B : Nat) (w : World) (hx : Cells w A xs) (hl : xs.length ≤ 17592186044416) (h0 : 0 ≤ rows) (h1 : rows ≤ 10000) (hp : w.cell? ⟨B, 0, none⟩ = some (.int .i64 rows)) :
    Calls Try.prog 41 #[.slice A xs.length c, .func (.func 25) #[] #[.pointer (some ⟨B, 0, none⟩)]] w (BadIdx rows xs w) := by
  have Hx := Lib.hid hx
  have Hp := Lib.hid hp
  have C := Lib.hid (fun W (hB : Below w.heap.size w W) (x : Cell) => c25w x rows B W h0 h1 ((hB.cell (p := ⟨B, 0, none⟩) (World.block_lt_of_cell? w _ hp)).trans hp))
  clear hx hp
  go_enter Try.func41, Try.ntmps41
  go_wp2
  go_loopw [8] (fun i wr => ∃ k : Nat, k ≤ xs.length ∧ i = .int .i64 k ∧ Hid (∀ j, j < k → okCell rows (xs[j]?.getD default) = true) ∧ Below w.heap.size w wr) (fun i _ => xs.length - (intOf i).toNat)
  case atStart => exact ⟨0, Nat.zero_le _, rfl, fun j hj => absurd hj (Nat.not_lt_zero j), Below.refl _ _⟩
  case round =>
    obtain ⟨k, hk, rfl, hp, hB⟩ := hrel
    by_cases hlt : k < xs.length
    · obtain ⟨x, b, off, hxk, rfl, hc⟩ := (Hx.out.below hB).get k hlt
      have hC := C.out wr hB x
      have HB := Lib.hid hB
      obtain ⟨q0, q1, q2, q3, q4, q5, q6, q7, q8, q9, q10⟩ := hc
      clear hB
      cases hb : okCell rows x with
      | true =>
        rw [hb] at hC
        have Hb := Lib.hid hb
        have HC := Lib.hid hC
        clear hb hC
        have hnext : Hid (∀ j, j < k + 1 → okCell rows (xs[j]?.getD default) = true) := fun j hj => by
          by_cases e : j = k
          · subst e; rw [hxk.out]; exact Hb.out
          · exact hp.out j (by omega)
        go_wp2_with (fail)
        refine HC.out.mono ?_
        rintro e w' ⟨rfl, hb'⟩
        have HB' := Lib.hid (HB.out.trans (hb'.mono HB.out.size))
        clear hb'
        go_wp2_with (fail)
        go_roundw
        case rel => exact ⟨k + 1, by omega, by go_num, hnext, HB'.out⟩
        case measure => simp [intOf]; omega
      | false =>
        rw [hb] at hC
        have Hb := Lib.hid hb
        have HC := Lib.hid hC
        clear hb hC
        go_wp2_with (fail)
        refine HC.out.mono ?_
        rintro e w' ⟨rfl, hb'⟩
        have HB' := Lib.hid (HB.out.trans (hb'.mono HB.out.size))
        clear hb'
        go_wp2_with (fail)
        go_ret
        exact ⟨_, rfl, by rw [bads_of hlt (by rw [hxk.out]; exact Hb.out)]; simp, HB'.out⟩
    · obtain rfl : k = xs.length := by omega
      go_wp2
      go_ret
      exact ⟨_, rfl, by rw [bads_none hp.out]; decide, hB⟩

theorem c27w (A : Option Addr) (xs : List Cell) (c : Nat) (rows : Int) (B : Nat) (w : World) (hx : Cells w A xs) (hl : xs.length ≤ 17592186044416) (h0 : 0 ≤ rows) (h1 : rows ≤ 10000) (hp : w.cell? ⟨B, 0, none⟩ = some (.int .i64 rows)) :
    Calls Try.prog 27 #[.slice A xs.length c, .func (.func 25) #[] #[.pointer (some ⟨B, 0, none⟩)]] w fun e w' => e = .returned (.bool (bads rows xs)) ∧ Below w.heap.size w w' := by
  have H := Lib.hid (c41w A xs c rows B w hx hl h0 h1 hp)
  clear hx hp
  go_enter Try.func27, Try.ntmps27
  go_wp2_with (fail)
  refine H.out.mono ?_
  rintro e w' ⟨i, rfl, hi, hb⟩
  have Hi := Lib.hid hi
  have HB := Lib.hid hb
  clear hi hb
  go_wp2_with (fail)
  all_goals go_ret
  all_goals rw [← Hi.out]
  all_goals exact ⟨rfl, HB.out⟩

/-- what align.Right says -/
def rightC (rows : Int) (xs : List Cell) : Bool := inR 0 10000 rows && !bads rows xs

set_option maxHeartbeats 1000000 in
/-- align.Right -/
theorem right15 (A : Option Addr) (xs : List Cell) (c : Nat) (rows : Int) (w : World) (hx : Cells w A xs) (hl : xs.length ≤ 17592186044416) :
    Calls Try.prog 15 #[.int .i64 rows, .slice A xs.length c] w fun e w' => e = .returned (.bool (rightC rows xs)) ∧ Below w.heap.size w w' := by
  have hB1 : Below w.heap.size w (w.alloc (.cells #[.int .i64 rows] 3)) := (Below.refl _ w).alloc (Nat.le_refl _) _
  have hb1 := Boxed.new w 3 (.int .i64 rows)
  have C1 := Lib.hid (one26 0 10000 rows (by omega))
  have Hx := Lib.hid (hx.below hB1)
  have HB1 := Lib.hid hB1
  have Hb1 := Lib.hid hb1
  have q0 := hb1.cell
  clear hx hB1 hb1
  cases hr : inR 0 10000 rows with
  | true =>
    obtain ⟨a1, a2⟩ := inR_iff.1 hr
    have He : Hid (rightC rows xs = !bads rows xs) := Lib.hid (by unfold rightC; rw [hr]; rfl)
    rw [hr] at C1
    clear hr
    go_enter Try.func15, Try.ntmps15
    go_wp2_with (fail)
    refine (C1.out _ _ (by simp)).mono ?_
    rintro e w1 ⟨rfl, hb⟩
    have hb' : Below (w.alloc (.cells #[.int .i64 rows] 3)).heap.size (w.alloc (.cells #[.int .i64 rows] 3)) w1 := by rw [World.size_alloc]; exact hb
    have C2 := Lib.hid (c27w A xs c rows w.heap.size w1 (Hx.out.below hb') hl a1 a2 (boxed_below Hb1.out hb').cell)
    have HB2 := Lib.hid (HB1.out.trans (hb'.mono HB1.out.size))
    clear hb hb' q0
    go_wp2_with (fail)
    refine C2.out.mono ?_
    rintro e w2 ⟨rfl, hb⟩
    have HB3 := Lib.hid (HB2.out.trans (hb.mono HB2.out.size))
    clear hb
    go_wp2_with (fail)
    go_ret
    rw [He.out]
    exact ⟨rfl, HB3.out⟩
  | false =>
    have He : Hid (rightC rows xs = false) := Lib.hid (by unfold rightC; rw [hr]; rfl)
    rw [hr] at C1
    clear hr
    go_enter Try.func15, Try.ntmps15
    go_wp2_with (fail)
    refine (C1.out _ _ (by simp)).mono ?_
    rintro e w1 ⟨rfl, hb⟩
    have hb' : Below (w.alloc (.cells #[.int .i64 rows] 3)).heap.size (w.alloc (.cells #[.int .i64 rows] 3)) w1 := by rw [World.size_alloc]; exact hb
    have HB2 := Lib.hid (HB1.out.trans (hb'.mono HB1.out.size))
    clear hb hb' q0
    go_wp2_with (fail)
    go_ret
    rw [He.out]
    exact ⟨rfl, HB2.out⟩

end Go.Proofs.Ytgpcoljgpgamdaa
