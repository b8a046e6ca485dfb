/- Contract of rect.covers. -/
import Derived.Test.YtnlojbkjhlhogaaK
namespace Go.Proofs.Ytnlojbkjhlhogaa
open Go Go.RowKit IV
set_option linter.unusedVariables false

theorem own_block1 {w : World} {base e size n : Nat} {v : Value} {xs : List Value} (h : w.ownsRow base e size v n xs) {g : Nat} (hg : v.ownBlock = some g) : base ≤ g ∧ g < w.heap.size := by
  rcases h.2 with ⟨rfl, _⟩ | ⟨g', cap, cur, rfl, hb, hg', _⟩
  · simp [Value.ownBlock] at hg
  · simp only [Value.ownBlock, Option.some.injEq] at hg
    subst hg
    exact ⟨hb, (Array.getElem?_eq_some_iff.1 hg').1⟩
theorem grown_base1 {base e size n : Nat} {X W1 : World} {v : Value} {l : List Value} (hown : X.ownsRow base e size v n l) (hg : X.grownBy W1 v.ownBlock) (hb : base ≤ X.heap.size) : Below base X W1 :=
  ⟨hg.os, hg.tape, hg.output, hg.size, fun q hq => hg.block q (Nat.lt_of_lt_of_le hq hb) (fun e => by have := (own_block1 hown e.symm).1; omega)⟩

set_option maxRecDepth 100000 in
set_option maxHeartbeats 4000000 in
theorem c38 (r : Rect) (A B : Option Addr) (xs ys : List Int) (c d : Nat) (w : World) (hr : right r = true) (hx : Ints w A xs) (hy : Ints w B ys) (hlx : xs.length ≤ 1000) (hly : ys.length ≤ 1000) :
    Calls Try.prog 38 #[.agg r.arr, .slice A xs.length c, .slice B ys.length d] w fun e w' => ∃ A' c', e = .returned (.slice A' (covTo r xs ys xs.length).length c') ∧ Corners w' A' (covTo r xs ys xs.length) ∧ Below w.heap.size w w' := by
  have hb0 : Below w.heap.size w (w.alloc (.cells r.arr 23)) := (Below.refl _ w).alloc (Nat.le_refl _) _
  have Hx := Lib.hid (hx.below hb0)
  have Hy := Lib.hid (hy.below hb0)
  have HB0 := Lib.hid hb0
  have hbd := right_iff.1 hr
  obtain ⟨x, y, u, v⟩ := r
  dsimp only at hbd
  have C26 := Lib.hid (fun W => c26 ⟨x, y, u, v⟩ W (IntWalk.i64_in _ (by dsimp only; omega)) (IntWalk.i64_in _ (by dsimp only; omega)))
  obtain ⟨i0, hi, hz0, hz1, hz2⟩ := info_parts info62
  unfold Rect.arr at C26 Hx Hy HB0 ⊢
  dsimp only at C26 Hx Hy HB0 ⊢
  clear hx hy hb0 hr hbd
  go_enter Try.func38, Try.ntmps38
  go_wp2_with (fail)
  refine (C26.out _).mono ?_
  rintro e w2 ⟨rfl, hb2⟩
  have hw := two_rows w2 (.int .i64 x) (.int .i64 (x + u)) (.int .i64 y) (.int .i64 (y + v))
  have hbb := hb2.trans (hw.2.2.mono hb2.size)
  have HB2 := Lib.hid (HB0.out.trans (hbb.mono HB0.out.size))
  have Hx2 := Lib.hid (Hx.out.below hbb)
  have Hy2 := Lib.hid (Hy.out.below hbb)
  have P0 := Lib.hid hw.1
  have P1 := Lib.hid hw.2.1
  clear hb2 hbb hw HB0 Hx Hy C26
  go_wp2_with (fail)
  generalize ((w2.alloc (.cells #[.int .i64 x, .int .i64 (x + u)] 49)).alloc (.cells #[.int .i64 y, .int .i64 (y + v)] 49)) = w3 at *
  generalize w2.heap.size = b8 at *
  go_loopw [7, 21] (fun o a wr => ∃ i : Nat, i ≤ xs.length ∧ a = .int .i64 i ∧ Hid (Below w3.heap.size w3 wr) ∧ Hid (wr.ownsRow w3.heap.size 62 1 o (covTo ⟨x, y, u, v⟩ xs ys i).length ((covTo ⟨x, y, u, v⟩ xs ys i).map encC))) (fun _ a _ => xs.length - (intOf a).toNat)
  case atStart => exact ⟨0, Nat.zero_le _, rfl, Below.refl _ _, World.ownsRow_nil _ _ _ _⟩
  case round =>
    obtain ⟨i, hi', rfl, HBi, Howni⟩ := hrel
    by_cases hlt : i < xs.length
    · obtain ⟨at_, ba, oa, hat, rfl, hca⟩ := (Hx2.out.below HBi.out).get i hlt
      have ti : decide ((i : Int) < (xs.length : Int)) = true := decide_eq_true (by omega)
      go_wp2_with (fail)
      clear hca
      go_loopw [7, 28] (fun o a wr => ∃ k : Nat, k ≤ ys.length ∧ a = .int .i64 k ∧ Hid (Below w3.heap.size w3 wr) ∧ Hid (wr.ownsRow w3.heap.size 62 1 o ((covTo ⟨x, y, u, v⟩ xs ys i) ++ covRow ⟨x, y, u, v⟩ xs ys i k).length (((covTo ⟨x, y, u, v⟩ xs ys i) ++ covRow ⟨x, y, u, v⟩ xs ys i k).map encC))) (fun _ a _ => ys.length - (intOf a).toNat)
      case atStart => exact ⟨0, Nat.zero_le _, rfl, HBi, by rw [covRow, List.append_nil]; exact Howni⟩
      case round =>
        obtain ⟨k, hk, rfl, HB, Hown⟩ := hrel
        by_cases hlk : k < ys.length
        · obtain ⟨dn, bd, od, hdn, rfl, hcd⟩ := (Hy2.out.below HB.out).get k hlk
          have tkk : decide ((k : Int) < (ys.length : Int)) = true := decide_eq_true (by omega)
          have e0 := (HB.out.block b8 (Array.getElem?_eq_some_iff.1 P0.out).1).trans P0.out
          have e1 := (HB.out.block (b8 + 1) (Array.getElem?_eq_some_iff.1 P1.out).1).trans P1.out
          have m0 : wr.cell? ⟨b8, 0, none⟩ = some (.int .i64 x) := by unfold World.cell?; rw [e0]; rfl
          have m1 : wr.cell? ⟨b8, 1, none⟩ = some (.int .i64 (x + u)) := by unfold World.cell?; rw [e0]; rfl
          have m2 : wr.cell? ⟨b8 + 1, 0, none⟩ = some (.int .i64 y) := by unfold World.cell?; rw [e1]; rfl
          have m3 : wr.cell? ⟨b8 + 1, 1, none⟩ = some (.int .i64 (y + v)) := by unfold World.cell?; rw [e1]; rfl
          clear e0 e1
          by_cases k0 : x ≤ at_
          case neg =>
            have t0 : decide (x ≤ at_) = false := decide_eq_false k0
            have HL : Hid (covRow ⟨x, y, u, v⟩ xs ys i (k + 1) = covRow ⟨x, y, u, v⟩ xs ys i k) := Lib.hid (by rw [covRow, hat.out, hdn.out, if_neg (by unfold atR; dsimp only; rw [t0]; simp), List.append_nil])
            clear k0
            go_wp2_with (fail)
            go_roundw
            case rel => exact ⟨k + 1, by omega, by go_num, HB, by rw [HL.out]; exact Hown⟩
            case measure => simp [intOf]; omega
          by_cases k1 : at_ < x + u
          case neg =>
            have t0 : decide (x ≤ at_) = true := decide_eq_true k0
            have t1 : decide (at_ < x + u) = false := decide_eq_false k1
            have HL : Hid (covRow ⟨x, y, u, v⟩ xs ys i (k + 1) = covRow ⟨x, y, u, v⟩ xs ys i k) := Lib.hid (by rw [covRow, hat.out, hdn.out, if_neg (by unfold atR; dsimp only; rw [t0, t1]; simp), List.append_nil])
            clear k0 k1
            go_wp2_with (fail)
            go_roundw
            case rel => exact ⟨k + 1, by omega, by go_num, HB, by rw [HL.out]; exact Hown⟩
            case measure => simp [intOf]; omega
          by_cases k2 : y ≤ dn
          case neg =>
            have t0 : decide (x ≤ at_) = true := decide_eq_true k0
            have t1 : decide (at_ < x + u) = true := decide_eq_true k1
            have t2 : decide (y ≤ dn) = false := decide_eq_false k2
            have HL : Hid (covRow ⟨x, y, u, v⟩ xs ys i (k + 1) = covRow ⟨x, y, u, v⟩ xs ys i k) := Lib.hid (by rw [covRow, hat.out, hdn.out, if_neg (by unfold atR; dsimp only; rw [t0, t1, t2]; simp), List.append_nil])
            clear k0 k1 k2
            go_wp2_with (fail)
            go_roundw
            case rel => exact ⟨k + 1, by omega, by go_num, HB, by rw [HL.out]; exact Hown⟩
            case measure => simp [intOf]; omega
          by_cases k3 : dn < y + v
          case neg =>
            have t0 : decide (x ≤ at_) = true := decide_eq_true k0
            have t1 : decide (at_ < x + u) = true := decide_eq_true k1
            have t2 : decide (y ≤ dn) = true := decide_eq_true k2
            have t3 : decide (dn < y + v) = false := decide_eq_false k3
            have HL : Hid (covRow ⟨x, y, u, v⟩ xs ys i (k + 1) = covRow ⟨x, y, u, v⟩ xs ys i k) := Lib.hid (by rw [covRow, hat.out, hdn.out, if_neg (by unfold atR; dsimp only; rw [t0, t1, t2, t3]; simp), List.append_nil])
            clear k0 k1 k2 k3
            go_wp2_with (fail)
            go_roundw
            case rel => exact ⟨k + 1, by omega, by go_num, HB, by rw [HL.out]; exact Hown⟩
            case measure => simp [intOf]; omega
          have t0 : decide (x ≤ at_) = true := decide_eq_true k0
          have t1 : decide (at_ < x + u) = true := decide_eq_true k1
          have t2 : decide (y ≤ dn) = true := decide_eq_true k2
          have t3 : decide (dn < y + v) = true := decide_eq_true k3
          have HL : Hid (covRow ⟨x, y, u, v⟩ xs ys i (k + 1) = covRow ⟨x, y, u, v⟩ xs ys i k ++ [(i, k)]) := Lib.hid (by rw [covRow, hat.out, hdn.out, if_pos (by unfold atR; dsimp only; rw [t0, t1, t2, t3]; rfl)])
          clear k0 k1 k2 k3
          have C45 := Lib.hid (fun W => c45 i k W)
          have hrl := covRow_len ⟨x, y, u, v⟩ xs ys i k
          have hcl := covTo_len ⟨x, y, u, v⟩ xs ys i
          have hmul : i * ys.length ≤ 1000 * 1000 := Nat.mul_le_mul (by omega) hly
          have hlen : (covTo ⟨x, y, u, v⟩ xs ys i ++ covRow ⟨x, y, u, v⟩ xs ys i k).length ≤ 1001000 := by rw [List.length_append]; omega
          go_wp2_with (fail)
          refine (C45.out _).mono ?_
          rintro e w9 ⟨rfl, rfl⟩
          rw [show encC (i, k) = .complex .f64 (floatOfInt .f64 (i : Int)) (floatOfInt .f64 (k : Int)) from rfl]
          go_wp2_with (at_builtin; go_must (refine wpList_append_own_at _ rfl _ _ 60 rfl w3.heap.size 62 i0 _ 1 16 Try.underlying60 hi hz0 hz1 hz2 rfl (by decide) _ _ _ rfl (Hown.out.alloc _) ⟨wr.heap.size, 0, none⟩ 1 1 [encC (i, k)] rfl rfl (cell_newC wr (i, k)) (by intro u hu; rw [List.mem_singleton.1 hu]; exact oneC _) (Nat.le_trans (Nat.add_le_add_right hlen _) (by unfold maxLen; decide)) (Nat.le_trans (Nat.mul_le_mul_right _ (Nat.add_le_add_right hlen _)) (by decide)) (by have := HB.out.size; simp; omega) ?_); intro v' W' hown' hg' _ _; have HB6 : Hid (Below w3.heap.size w3 W') := Lib.hid ((HB.out.alloc HB.out.size _).trans (grown_base1 (Hown.out.alloc _) hg' (by have := HB.out.size; simp; omega))); have HO6 := Lib.hid hown'; clear hown' hg' Hown HB)
          go_roundw
          case rel => exact ⟨k + 1, by omega, by go_num, HB6, by rw [HL.out]; have := HO6.out; simp only [List.map_append, List.length_append, List.length_cons, List.length_nil, List.map_cons, List.map_nil, ← List.append_assoc, ← Nat.add_assoc] at this ⊢; exact this⟩
          case measure => simp [intOf]; omega
        · obtain rfl : k = ys.length := by omega
          have tkk : decide ((ys.length : Int) < (ys.length : Int)) = false := decide_eq_false (by omega)
          go_wp2_with (fail)
          go_roundw
          case rel => exact ⟨i + 1, by omega, by go_num, HB, Hown⟩
          case measure => simp [intOf]; omega
    · obtain rfl : i = xs.length := by omega
      obtain ⟨A', c', rfl, hA, _⟩ := corners_of_own Howni.out rfl
      have HA := Lib.hid hA
      have HBf := Lib.hid (HB2.out.trans (HBi.out.mono HB2.out.size))
      clear hA Howni HBi
      go_wp2_with (fail)
      go_ret
      exact ⟨A', c', rfl, HA.out, HBf.out⟩

end Go.Proofs.Ytnlojbkjhlhogaa
