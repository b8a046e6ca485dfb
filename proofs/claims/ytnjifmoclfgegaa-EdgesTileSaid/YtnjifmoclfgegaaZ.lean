/- Contract of edges.between. -/
import Derived.Test.YtnjifmoclfgegaaX
namespace Go.Proofs.Ytnjifmoclfgegaa
open Go.RowKit Go.Shelf
set_option linter.unusedVariables false

theorem upto_get {α : Type} [Inhabited α] (f : Nat → α) (d : α) {n k : Nat} (h : k < n) : (upto f n)[k]?.getD d = f k := by simp [upto, h]

theorem own_one (w : World) (gap : Int) (xs : List Int) : (w.alloc (.cells #[.int .i64 0] 2)).ownsRow w.heap.size 2 1 (.slice (some ⟨w.heap.size, 0, none⟩) 1 1) (0 + 1) ((upto (gx gap xs) (0 + 1)).map (Value.int .i64)) :=
  ⟨rfl, .inr ⟨w.heap.size, 1, #[.int .i64 0], rfl, Nat.le_refl _, heap_alloc_new w _, Nat.le_refl _, by unfold maxLen; omega, rfl, rfl⟩⟩

set_option maxHeartbeats 1000000 in
theorem c32 (A B : Option Addr) (xs : List Int) (c d : Nat) (gap : Int) (w : World) (hx : Ints w A xs) (hy : Ints w B (upto (st gap xs) xs.length)) (hr : right xs gap = true) :
    Calls Try.prog 32 #[.slice A xs.length c, .slice B xs.length d] w fun e w' => ∃ A' c', e = .returned (.slice A' (xs.length + 1) c') ∧ Ints w' A' (upto (gx gap xs) (xs.length + 1)) ∧ Below w.heap.size w w' ∧ ∀ ad, A' = some ad → w.heap.size ≤ ad.block := by
  have Hx := Lib.hid hx
  have Hy := Lib.hid hy
  have hlen := (right_iff.1 hr).1
  have Hxs := Lib.hid (right_iff.1 hr).2.2
  have Hst := Lib.hid (fun k (hk : k ≤ xs.length) => st_bound hr hk)
  clear hx hy hr
  obtain ⟨i0, hi, hz0, hz1, hz2⟩ := info_parts Try.info2
  go_enter Try.func32, Try.ntmps32
  go_wp2
  go_loopw [5, 11] (fun v i wr => ∃ k : Nat, k ≤ xs.length ∧ i = .int .i64 k ∧ wr.ownsRow w.heap.size 2 1 v (k + 1) ((upto (gx gap xs) (k + 1)).map (Value.int .i64)) ∧ Below w.heap.size w wr)
    (fun _ i _ => xs.length - (intOf i).toNat)
  case atStart => exact ⟨0, Nat.zero_le _, rfl, own_one w gap xs, (Below.refl _ w).alloc (Nat.le_refl _) _⟩
  case round =>
    obtain ⟨k, hk, rfl, hrow, hB⟩ := hrel
    by_cases hlt : k < xs.length
    · obtain ⟨x, b, off, hxk, rfl, hc⟩ := (Hx.out.below hB).get k hlt
      obtain ⟨y, b', off', hyk, rfl, hc'⟩ := (Hy.out.below hB).get k (by rw [upto_length]; exact hlt)
      rw [upto_get _ _ hlt] at hyk
      have hxb := Hxs.out k hlt
      have hab := Hst.out k hk
      rw [hxk.out] at hxb
      rw [hyk.out] at hab
      have Hnext : Hid (gx gap xs (k + 1) = y + x) := Lib.hid (by simp only [gx]; rw [hxk.out, hyk.out])
      have Hup := Lib.hid (upto_succ (gx gap xs) (k + 1))
      have x1 : IntKind.i64.wrap (y + x) = y + x := IntWalk.i64_in _ (by omega)
      go_wp2_with (at_builtin; go_must (refine wpList_append_own _ rfl _ _ 22 rfl w.heap.size 2 i0 (.int .i64 0) 1 8 Try.underlying22 hi hz0 hz1 hz2 rfl (by decide) _ _ _ rfl (hrow.alloc _) ⟨wr.heap.size, 0, none⟩ 1 1 [.int .i64 (y + x)] rfl rfl (cell_one_new _ _ _) (by simp [Value.oneCell']) (by unfold maxLen; omega) (by omega) (by have := hB.size; simp; omega) ?_); intro v' w1 hown1 hgrow _; have hB1 := appended_below hrow hB hgrow)
      go_roundw
      case rel => exact ⟨k + 1, by omega, by go_num, by rw [Hup.out, Hnext.out]; simpa using hown1, hB1⟩
      case measure => simp [intOf]; omega
    · obtain rfl : k = xs.length := by omega
      obtain ⟨A', c', rfl, hac, hcm, hin, hbk⟩ := ints_of_own hrow (upto_length _ _)
      have Hin := Lib.hid hin
      have Hbk := Lib.hid hbk
      clear hin hbk
      go_wp2
      go_ret
      exact ⟨A', c', rfl, Hin.out, hB, Hbk.out⟩

end Go.Proofs.Ytnjifmoclfgegaa
