/- Contract of contest.Sorted: any sides. -/
import Derived.Test.YtffnnfdlelaonaaSC
namespace Go.Proofs.Ytffnnfdlelaonaa
open Go Go.RowKit Go.Shelf
set_option linter.unusedVariables false

theorem wf_all_srt {xs : List Side} (h : ∀ x ∈ xs, x.wf) : ∀ x ∈ srt xs, x.wf := fun x hx => h x ((List.mergeSort_perm _ _).mem_iff.1 hx)

/-- slices.SortedFunc -/
theorem c29 (Bs : Nat) (A : Option Addr) (xs : List Side) (c : Nat) (w : World) (hBs : w.cell? ⟨Bs, 0, none⟩ = some (.slice A xs.length c)) (hx : MS w A xs) (hr : ∀ x ∈ xs, right x = true ∧ x.wf) (hl : xs.length ≤ 1000) (hc : xs.length ≤ c) :
    Calls Try.prog 29 #[.func (.func 37) #[] #[.pointer (some ⟨Bs, 0, none⟩)], .func (.func 26) #[] #[]] w fun e w' => (∃ A' c', e = .returned (.slice A' (srt xs).length c') ∧ MS w' A' (srt xs)) ∧ Below w.heap.size w w' := by
  have H := Lib.hid (c35 Bs A xs c w hBs hx hl hc)
  have HR := Lib.hid hr
  clear hBs hx hr
  go_enter Try.func29, Try.ntmps29
  go_wp2_with (fail)
  refine H.out.mono ?_
  rintro e w1 ⟨v, rfl, ho, hb⟩
  have Hb := Lib.hid hb
  have H36 := Lib.hid (c36 w.heap.size v xs w1 ho HR.out hl hb.size)
  clear ho hb H
  go_wp2_with (fail)
  refine H36.out.mono ?_
  rintro e w2 ⟨rfl, ⟨A2, c2, rfl, hm⟩, hb2⟩
  have Hm := Lib.hid hm
  have Hb2 := Lib.hid (Hb.out.trans hb2)
  clear hm hb2 H36
  go_wp2_with (fail)
  go_ret
  exact ⟨⟨A2, c2, rfl, Hm.out⟩, Hb2.out⟩

def srtY (xs : List Side) : List Side := if wrongs xs = true then [] else srt xs
def srtE (xs : List Side) : Int := if wrongs xs = true then 110 else 0
theorem c21 (A : Option Addr) (xs : List Side) (c : Nat) (w : World) (hx : MS w A xs) (hwf : ∀ x ∈ xs, x.wf) (hl : xs.length ≤ 1000) (hc : xs.length ≤ c) :
    Calls Try.prog 21 #[.slice A xs.length c] w fun e w' => (∃ A' c', e = .returned (.tuple #[.slice A' (srtY xs).length c', .int .i64 (srtE xs)]) ∧ MS w' A' (srtY xs)) ∧ Below w.heap.size w w' := by
  have H25 := Lib.hid (c25 A xs c w (ms_sides hx) (by omega))
  have Hx := Lib.hid hx
  have Hwf := Lib.hid hwf
  unfold srtY srtE
  cases hw : wrongs xs with
  | true =>
    rw [hw] at H25
    rw [if_pos rfl, if_pos rfl]
    clear hx hwf hw
    go_enter Try.func21, Try.ntmps21
    go_wp2_with (go_at_call 25; refine H25.out.mono ?_; rintro e w1 ⟨rfl, hb⟩; have Hb := Lib.hid hb; clear hb)
    go_ret2
    exact ⟨⟨none, 0, rfl, GR.Many.nil _ _⟩, Hb.out⟩
  | false =>
    rw [hw] at H25
    rw [if_neg (by simp), if_neg (by simp)]
    have HR : Hid (∀ x ∈ xs, right x = true ∧ x.wf) := Lib.hid fun x h => ⟨wrongs_iff.1 hw x h, Hwf.out x h⟩
    clear hx hwf hw
    go_enter Try.func21, Try.ntmps21
    go_wp2_with (fail)
    refine H25.out.mono ?_
    rintro e w1 ⟨rfl, hb⟩
    have Hb := Lib.hid hb
    have Hx1 := Lib.hid (Hx.out.below hb)
    clear hb H25
    go_wp2_with (fail)
    refine (c30 A xs.length c w1).mono ?_
    rintro e w2 ⟨rfl, rfl⟩
    have hb2 : Below w1.heap.size w1 (w1.alloc (.cells #[.slice A xs.length c] 25)) := (Below.refl _ _).alloc (Nat.le_refl _) _
    have hbs : (w1.alloc (.cells #[.slice A xs.length c] 25)).cell? ⟨w1.heap.size, 0, none⟩ = some (.slice A xs.length c) := (Boxed.new w1 25 _).cell
    have Hb2 := Lib.hid (Hb.out.trans (hb2.mono Hb.out.size))
    have H29 := Lib.hid (c29 w1.heap.size A xs c _ hbs (Hx1.out.below hb2) HR.out hl hc)
    clear hb2 hbs
    go_wp2_with (fail)
    refine H29.out.mono ?_
    rintro e w3 ⟨⟨A2, c2, rfl, hm⟩, hb3⟩
    have Hm := Lib.hid hm
    have Hb3 := Lib.hid (Hb2.out.trans (hb3.mono Hb2.out.size))
    clear hm hb3 H29
    go_wp2_with (fail)
    go_ret2
    exact ⟨⟨A2, c2, rfl, Hm.out⟩, Hb3.out⟩

end Go.Proofs.Ytffnnfdlelaonaa
