/- Contract of the law's own turned: any sides, the other way round or not: the same sides in another order. -/
import Derived.Test.YtffnnfdlelaonaaSG
namespace Go.Proofs.Ytffnnfdlelaonaa
open Go Go.RowKit Go.Shelf
set_option linter.unusedVariables false

/-- sides, from a place on, round; or the other way -/
def trn (xs : List Side) (at_ : Nat) (back : Bool) : List Side :=
  (if back then xs.reverse else xs).drop (at_ % xs.length) ++ (if back then xs.reverse else xs).take (at_ % xs.length)
theorem trn_perm (xs : List Side) (at_ : Nat) (back : Bool) : (trn xs at_ back).Perm xs := by
  unfold trn
  refine List.perm_append_comm.trans ?_
  rw [List.take_append_drop]
  cases back with
  | false => exact List.Perm.refl _
  | true => exact List.reverse_perm xs
theorem trn_len (xs : List Side) (at_ : Nat) (back : Bool) : (trn xs at_ back).length = xs.length := (trn_perm xs at_ back).length_eq
def tix (n at_ : Nat) (back : Bool) (i : Nat) : Nat := if back then n - 1 - (i + at_) % n else (i + at_) % n
theorem trn_at {xs : List Side} {at_ : Nat} {back : Bool} {i : Nat} (h : i < xs.length) : tix xs.length at_ back i < xs.length ∧ (trn xs at_ back)[i]?.getD default = xs[tix xs.length at_ back i]?.getD default := by
  have hm := Nat.mod_lt (i + at_) (show 0 < xs.length by omega)
  have hr := Nat.mod_lt at_ (show 0 < xs.length by omega)
  have hmod : (i + at_) % xs.length = if i + at_ % xs.length < xs.length then i + at_ % xs.length else i + at_ % xs.length - xs.length := by
    rw [Nat.add_mod, Nat.mod_eq_of_lt h]
    split
    · exact Nat.mod_eq_of_lt (by assumption)
    · rw [Nat.mod_eq_sub_mod (by omega), Nat.mod_eq_of_lt (by omega)]
  have hz : ∀ zs : List Side, zs.length = xs.length → (zs.drop (at_ % xs.length) ++ zs.take (at_ % xs.length))[i]? = zs[(i + at_) % xs.length]? := fun zs hz => by
    rw [hmod]
    by_cases hc : i + at_ % xs.length < xs.length
    · rw [if_pos hc, List.getElem?_append_left (by rw [List.length_drop]; omega), List.getElem?_drop, Nat.add_comm]
    · rw [if_neg hc, List.getElem?_append_right (by rw [List.length_drop]; omega), List.length_drop, List.getElem?_take_of_lt (by omega)]
      congr 1; omega
  unfold trn tix
  cases back with
  | false =>
    simp only [Bool.false_eq_true, if_false]
    exact ⟨hm, by rw [hz xs rfl]⟩
  | true =>
    simp only [if_true]
    refine ⟨by omega, ?_⟩
    rw [hz xs.reverse (List.length_reverse), List.getElem?_reverse hm]

set_option maxRecDepth 100000 in
set_option maxHeartbeats 4000000 in
theorem c24 (A : Option Addr) (xs : List Side) (c at_ : Nat) (back : Bool) (w : World) (hx : MS w A xs) (hl : xs.length ≤ 1000) (hat : at_ ≤ 1000) :
    Calls Try.prog 24 #[.slice A xs.length c, .int .i64 at_, .bool back] w fun e w' => (∃ A' c', e = .returned (.slice A' xs.length c') ∧ xs.length ≤ c' ∧ MS w' A' (trn xs at_ back)) ∧ Below w.heap.size w w' := by
  have Hx := Lib.hid (ms_sides hx)
  clear hx
  go_enter Try.func24, Try.ntmps24
  go_wp2_with (fail)
  go_loopw [7, 8] (fun o i wr => ∃ k : Nat, k ≤ xs.length ∧ i = .int .i64 k ∧ Hid (Below w.heap.size w wr) ∧ Hid (wr.ownsRow w.heap.size 30 6 o k (GR.flat Side.cells ((trn xs at_ back).take k)))) (fun _ i _ => xs.length - (intOf i).toNat)
  case atStart => exact ⟨0, Nat.zero_le _, rfl, Lib.hid (Below.refl _ _), Lib.hid (GR.own_nil _ _ _ _)⟩
  case round =>
    obtain ⟨k, hk, rfl, HB, HO⟩ := hrel
    by_cases hlt : k < xs.length
    · have tk : decide ((k : Int) < (xs.length : Int)) = true := decide_eq_true (by omega)
      have hta := trn_at (at_ := at_) (back := back) hlt
      have Hnext : Hid ((trn xs at_ back).take (k + 1) = (trn xs at_ back).take k ++ [xs[tix xs.length at_ back k]?.getD default]) := Lib.hid (by
        rw [List.take_add_one, ← hta.2, List.getElem?_eq_getElem (by rw [trn_len]; exact hlt)]; rfl)
      obtain ⟨x, b, off, hxk, rfl, hc⟩ := (Hx.out.below HB.out).get _ hta.1
      rw [hxk.out] at Hnext
      have hm := Nat.mod_lt (k + at_) (show 0 < xs.length by omega)
      have f1 : IntKind.i64.wrap ((k : Int) + (at_ : Int)) = (k : Int) + (at_ : Int) := IntWalk.i64_in _ (by omega)
      have f2 : ((k : Int) + (at_ : Int)).tmod (xs.length : Int) = (((k + at_) % xs.length : Nat) : Int) := by rw [← Int.natCast_add, Int.ofNat_tmod]
      have tz : ((xs.length : Int) = 0) = False := eq_false (by omega)
      have tz2 : (xs.length = 0) = False := eq_false (by omega)
      unfold tix at hc
      obtain ⟨m, hmm⟩ : ∃ m, (k + at_) % xs.length = m := ⟨_, rfl⟩
      rw [hmm] at hm f2 hc
      have f3 : IntKind.i64.wrap (m : Int) = (m : Int) := IntWalk.i64_in _ (by omega)
      have tm : decide ((m : Int) < (xs.length : Int)) = true := decide_eq_true (by omega)
      obtain ⟨m2, hm2⟩ : ∃ m2, xs.length - 1 - m = m2 := ⟨_, rfl⟩
      have g1 : IntKind.i64.wrap ((xs.length : Int) - 1) = (xs.length : Int) - 1 := IntWalk.i64_in _ (by omega)
      have g2 : IntKind.i64.wrap ((xs.length : Int) - 1 - (m : Int)) = (m2 : Int) := by rw [IntWalk.i64_in _ (by omega)]; omega
      have tm2 : decide ((m2 : Int) < (xs.length : Int)) = true := decide_eq_true (by omega)
      have hm2l : m2 < xs.length := by omega
      rw [hm2] at hc
      have Hmm := Lib.hid hmm
      have Hm2 := Lib.hid hm2
      clear hmm hm2
      have Hc := Lib.hid hc
      clear hc hta hxk
      obtain ⟨x0, x1, x2, x3, x4, x5⟩ := x
      cases back with
      | false =>
        obtain ⟨q0, q1, q2, q3, q4, q5⟩ := Hc.out
        simp only [Bool.false_eq_true, if_false] at q0 q1 q2 q3 q4 q5
        go_wp2_with (at_builtin; go_must (refine GR.wpList_app_one (enc := Side.cells) (k := 6) rfl side_len side_one (by decide) Try.underlying25 info30' rfl w.heap.size _ _ rfl _ k _ rfl (GR.own_turn HO.out ((Below.refl _ wr).alloc (Nat.le_refl _) _)) wr.heap.size 1 ⟨x0, x1, x2, x3, x4, x5⟩ rfl (GR.One.new (enc := Side.cells) 30 wr ⟨x0, x1, x2, x3, x4, x5⟩) (by omega) (by decide) (Nat.le_trans HB.out.size (by simp)) ?_; intro v2 W2 hown2 hb2 _; have Hown2 := Lib.hid hown2; have HB2 := Lib.hid ((HB.out.alloc HB.out.size _).trans hb2); clear hown2 hb2))
        go_roundw
        case rel => exact ⟨k + 1, by omega, by go_num, HB2, by rw [Hnext.out]; exact Hown2⟩
        case measure => simp [intOf]; omega
      | true =>
        obtain ⟨q0, q1, q2, q3, q4, q5⟩ := Hc.out
        simp only [if_true] at q0 q1 q2 q3 q4 q5
        go_wp2_with (at_builtin; go_must (refine GR.wpList_app_one (enc := Side.cells) (k := 6) rfl side_len side_one (by decide) Try.underlying25 info30' rfl w.heap.size _ _ rfl _ k _ rfl (GR.own_turn HO.out ((Below.refl _ wr).alloc (Nat.le_refl _) _)) wr.heap.size 1 ⟨x0, x1, x2, x3, x4, x5⟩ rfl (GR.One.new (enc := Side.cells) 30 wr ⟨x0, x1, x2, x3, x4, x5⟩) (by omega) (by decide) (Nat.le_trans HB.out.size (by simp)) ?_; intro v2 W2 hown2 hb2 _; have Hown2 := Lib.hid hown2; have HB2 := Lib.hid ((HB.out.alloc HB.out.size _).trans hb2); clear hown2 hb2))
        go_roundw
        case rel => exact ⟨k + 1, by omega, by go_num, HB2, by rw [Hnext.out]; exact Hown2⟩
        case measure => simp [intOf]; omega
    · obtain rfl : k = xs.length := by omega
      have tk : decide ((xs.length : Int) < (xs.length : Int)) = false := decide_eq_false (by omega)
      have ht : (trn xs at_ back).take xs.length = trn xs at_ back := List.take_of_length_le (by rw [trn_len]; exact Nat.le_refl _)
      rw [ht] at HO
      obtain ⟨A2, cap, rfl, hcap, hM, _⟩ := GR.own_many side_len HO.out (trn_len xs at_ back).symm
      have HM := Lib.hid hM
      have Hcap := Lib.hid hcap
      clear hM ht hcap
      go_wp2_with (fail)
      go_ret
      exact ⟨⟨A2, cap, rfl, Hcap.out, HM.out⟩, HB.out⟩

end Go.Proofs.Ytffnnfdlelaonaa
