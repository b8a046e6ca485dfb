/- Contract of the reference's Slots. -/
import Derived.Test.YtmlcjiabnmdfeaaRC
import Derived.Test.YtmlcjiabnmdfeaaK
namespace Go.Proofs.Ytmlcjiabnmdfeaa
open Go Go.RowKit Go.Shelf CT
set_option linter.unusedVariables false

theorem place_box (W : World) (p : Place) : Below W.heap.size W (W.alloc (.cells p.arr 43)) ∧ (W.alloc (.cells p.arr 43)).heap[W.heap.size]? = some (.cells p.arr 43 (0, 0)) := ⟨(Below.refl _ _).alloc (Nat.le_refl _) _, heap_alloc_new _ _⟩
theorem fitP_iff {p : Place} {R C : Nat} : fitP p R C = true ↔ ((0 ≤ p.row ∧ p.row ≤ R) ∧ (0 ≤ p.col ∧ p.col ≤ C) ∧ (1 ≤ p.rows ∧ p.rows ≤ R - p.row) ∧ (1 ≤ p.cols ∧ p.cols ≤ C - p.col)) := by unfold fitP; rw [decide_eq_true_eq]
theorem no_fit {ps : List Place} {R C k : Nat} {x : Place} (hk : k < ps.length) (hx : ps[k]?.getD default = x) (h : ¬ ((0 ≤ x.row ∧ x.row ≤ R) ∧ (0 ≤ x.col ∧ x.col ≤ C) ∧ (1 ≤ x.rows ∧ x.rows ≤ R - x.row) ∧ (1 ≤ x.cols ∧ x.cols ≤ C - x.col))) : okS ps R C = false := by
  refine okS_no hk ?_
  unfold okP
  rw [hx, show fitP x R C = false from by rw [Bool.eq_false_iff]; exact fun e => h (fitP_iff.1 e)]
  rfl
theorem not_free {ps : List Place} {R C k r c : Nat} (hk : k < ps.length) (hm : (r, c) ∈ slotsOf (ps[k]?.getD default)) (h : 0 ≤ whoTo ps k r c) : okS ps R C = false := by
  refine okS_no hk ?_
  unfold okP
  rw [show freeP ps k = false from by
    unfold freeP
    rw [List.all_eq_false]
    exact ⟨_, hm, by simp; exact h⟩, Bool.and_false]
theorem are_free {ps : List Place} {R C k : Nat} (hf : fitP (ps[k]?.getD default) R C = true) (h : ∀ s ∈ slotsOf (ps[k]?.getD default), whoTo ps k s.1 s.2 < 0) : okP ps R C k = true := by
  unfold okP freeP
  rw [hf, Bool.true_and, List.all_eq_true]
  exact fun s hs => decide_eq_true (h s hs)

set_option maxRecDepth 100000 in
set_option maxHeartbeats 16000000 in
/-- the reference's Slots -/
theorem c28 (A : Option Addr) (ps : List Place) (cp R C : Nat) (w : World) (hx : GR.Many Place.cells 5 w A ps) (hl : ps.length ≤ 10) (hR : R ≤ 8) (hC : C ≤ 8) :
    Calls Try.prog 28 #[.slice A ps.length cp, .int .i64 R, .int .i64 C] w (SlotsR ps R C w) := by
  have HX := Lib.hid hx
  have HRC : Hid (R ≤ 8 ∧ C ≤ 8 ∧ ps.length ≤ 10) := Lib.hid ⟨hR, hC, hl⟩
  have hm : 0 ≤ (R : Int) * (C : Int) ∧ (R : Int) * (C : Int) ≤ 64 := ⟨Int.mul_nonneg (by omega) (by omega), by have := Int.mul_le_mul (show (R : Int) ≤ 8 by omega) (show (C : Int) ≤ 8 by omega) (by omega) (by omega : (0 : Int) ≤ 8); omega⟩
  have d1 : decide ((R : Int) < 0) = false := decide_eq_false (by omega)
  have d2 : decide (65536 < (R : Int)) = false := decide_eq_false (by omega)
  have d3 : decide ((C : Int) < 0) = false := decide_eq_false (by omega)
  have d4 : decide (10000 < (C : Int)) = false := decide_eq_false (by omega)
  have f0 : IntKind.i64.wrap ((R : Int) * (C : Int)) = (R : Int) * (C : Int) := IntWalk.i64_in _ (by omega)
  have d5 : decide (1000000 < (R : Int) * (C : Int)) = false := decide_eq_false (by omega)
  clear hx hm
  obtain ⟨N, hN⟩ : ∃ N, ps.length = N := ⟨_, rfl⟩
  have HN := Lib.hid hN
  rw [hN] at HRC ⊢
  clear hN hl
  go_enter Try.func28, Try.ntmps28
  go_wp2_with (fail)
  clear d1 d2 d3 d4 d5 f0
  go_loopw [8, 9] (fun v a wr => ∃ i : Nat, i ≤ R ∧ a = .int .i64 i ∧ Hid (∃ vs, TabR wr w.heap.size v i vs (fun _ => C) (fun _ _ => -1)) ∧ Hid (Below w.heap.size w wr)) (fun _ a _ => R - (intOf a).toNat)
  case atStart => exact ⟨0, Nat.zero_le _, rfl, Lib.hid ⟨fun _ => .slice none 0 0, TabR.nil _ _ _ _ _⟩, Lib.hid (Below.refl _ _)⟩
  case round =>
    obtain ⟨i, hi, rfl, HT, HB⟩ := hrel
    obtain ⟨w1, hw1⟩ : ∃ x, x = wr := ⟨_, rfl⟩
    subst hw1
    obtain ⟨v, hv⟩ : ∃ x, x = u8 := ⟨_, rfl⟩
    subst hv
    by_cases hlt : i < R
    · have ti : decide ((i : Int) < (R : Int)) = true := decide_eq_true (by omega)
      go_wp2_with (fail)
      go_loopw [10, 11] (fun u a wq => ∃ k : Nat, k ≤ C ∧ a = .int .i64 k ∧ Hid (wq.ownsRow w1.heap.size 3 1 u k (ints (fun _ => -1) k)) ∧ Hid (Below w1.heap.size w1 wq)) (fun _ a _ => C - (intOf a).toNat)
      case atStart => exact ⟨0, Nat.zero_le _, rfl, Lib.hid (GR.own_nil _ _ _ _), Lib.hid (Below.refl _ _)⟩
      case round =>
        obtain ⟨k, hk, rfl, HO, HBq⟩ := hrel
        obtain ⟨wq, hwq⟩ : ∃ x, x = wr := ⟨_, rfl⟩
        subst hwq
        obtain ⟨u, hu⟩ : ∃ x, x = u10 := ⟨_, rfl⟩
        subst hu
        by_cases hlt2 : k < C
        · have tk : decide ((k : Int) < (C : Int)) = true := decide_eq_true (by omega)
          have hba : Below w1.heap.size w1 (wq.alloc (.cells #[.int .i64 (-1)] 3)) := HBq.out.trans ((Below.refl _ _).alloc HBq.out.size _)
          have HO5 := Lib.hid (GR.own_turn HO.out ((Below.refl _ _).alloc (Nat.le_refl _) (.cells #[.int .i64 (-1)] 3)))
          have HM := Lib.hid (Boxed.new wq 3 (.int .i64 (-1)))
          have HB5 := Lib.hid hba
          have f9 : IntKind.i64.wrap ((k : Int) + 1) = (k : Int) + 1 := IntWalk.i64_in _ (by omega)
          clear hba
          go_wp2_with (at_builtin; go_must (refine wpList_app_val rfl (T := 90) (e := 3) (bytes := 8) (by kernel_rfl) info3 rfl (by decide) w1.heap.size _ _ rfl _ k _ rfl HO5.out wq.heap.size (.int .i64 (-1)) rfl HM.out.cell rfl (by omega) HB5.out.size ?_); intro v' Wn h1 h2 h3; have H1 := Lib.hid h1; have H2 := Lib.hid (HB5.out.trans (GR.grown_below HO5.out h2 HB5.out.size)); clear h1 h2 h3)
          go_roundw
          case rel => exact ⟨k + 1, by omega, by go_num, Lib.hid (by unfold ints; rw [upto_succ]; exact H1.out), H2⟩
          case measure => simp [intOf]; omega
        · obtain rfl : k = C := by omega
          have tk : decide ((k : Int) < (k : Int)) = false := decide_eq_false (by omega)
          obtain ⟨vs, hT⟩ := HT.out
          obtain ⟨Au, cu, hu⟩ := own_slice HO.out
          subst hu
          have hba : Below wq.heap.size wq (wq.alloc (.cells #[.slice Au k cu] 90)) := (Below.refl _ _).alloc (Nat.le_refl _) _
          have HT5 := Lib.hid ((hT.turn HBq.out).turn hba)
          have HO5 := Lib.hid (GR.own_turn HO.out hba)
          have HM := Lib.hid (Boxed.new wq 90 (.slice Au k cu))
          have HB5 := Lib.hid ((HB.out.trans (HBq.out.mono HB.out.size)).trans (hba.mono (Nat.le_trans HB.out.size HBq.out.size)))
          have HV : Hid ((∀ b, v.ownBlock = some b → b < w1.heap.size) ∧ (∀ r, r < i → ∀ b, (vs r).ownBlock = some b → b < w1.heap.size) ∧ w.heap.size ≤ w1.heap.size) := Lib.hid ⟨fun b e => (GR.own_block hT.own e).2, fun r hr b e => (hT.lt hr e).2, HB.out.size⟩
          have f9 : IntKind.i64.wrap ((i : Int) + 1) = (i : Int) + 1 := IntWalk.i64_in _ (by omega)
          clear hba hT HT
          go_wp2_with (at_builtin; go_must (refine wpList_app_val rfl (T := 63) (e := 90) (bytes := 24) (by kernel_rfl) info90 rfl (by decide) w.heap.size _ _ rfl _ i _ rfl HT5.out.own wq.heap.size (.slice Au k cu) rfl HM.out.cell rfl (by omega) HB5.out.size ?_); intro v' Wn h1 h2 h3; have H1 := Lib.hid (HT5.out.push HV.out.1 HV.out.2.1 HV.out.2.2 HO5.out h1 h2 h3); have H2 := Lib.hid (HB5.out.trans (GR.grown_below HT5.out.own h2 HB5.out.size)); clear h1 h2 h3)
          go_roundw
          case rel => exact ⟨i + 1, by omega, by go_num, Lib.hid ⟨_, H1.out⟩, H2⟩
          case measure => simp [intOf]; omega
    · obtain rfl : i = R := by omega
      have ti : decide ((i : Int) < (i : Int)) = false := decide_eq_false (by omega)
      obtain ⟨vs, hT⟩ := HT.out
      have HVB : Hid (∀ r, r < i → ∀ b, (vs r).ownBlock = some b → b < w1.heap.size) := Lib.hid fun r hr b e => (hT.lt hr e).2
      have HT0 := Lib.hid hT
      clear hT HT
      go_wp2_with (fail)
      go_loopw [12] (fun a wq => ∃ k : Nat, k ≤ N ∧ a = .int .i64 k ∧ Hid (TabR wq w.heap.size v i vs (fun _ => C) (whoTo ps k)) ∧ Hid (Below w.heap.size w wq) ∧ Hid (w1.heap.size ≤ wq.heap.size) ∧ Hid (∀ j, j < k → okP ps i C j = true)) (fun a _ => N - (intOf a).toNat)
      case atStart => exact ⟨0, Nat.zero_le _, rfl, Lib.hid HT0.out, HB, Lib.hid (Nat.le_refl _), Lib.hid fun j hj => absurd hj (Nat.not_lt_zero j)⟩
      case round =>
        clear HB HT0
        obtain ⟨k, hk, rfl, HT, HB, HS, HK⟩ := hrel
        obtain ⟨wq, hwq⟩ : ∃ x, x = wr := ⟨_, rfl⟩
        subst hwq
        by_cases hlt2 : k < N
        · have tk : decide ((k : Int) < (N : Int)) = true := decide_eq_true (by omega)
          obtain ⟨x, bb, off, hxk, hA, hat, _⟩ := (HX.out.below HB.out).get k (by rw [HN.out]; exact hlt2)
          subst hA
          have HPB := Lib.hid (place_box wq x)
          have HBN := Lib.hid (HB.out.trans (HPB.out.1.mono HB.out.size))
          obtain ⟨x0, x1, x2, x3, x4⟩ := x
          have g0 : wq.cell? ⟨bb, off + k * 5, none⟩ = some (.int .i64 x0) := hat 0 _ rfl
          have g1 : wq.cell? ⟨bb, off + k * 5 + 1, none⟩ = some (.int .i64 x1) := hat 1 _ rfl
          have g2 : wq.cell? ⟨bb, off + k * 5 + 2, none⟩ = some (.int .i64 x2) := hat 2 _ rfl
          have g3 : wq.cell? ⟨bb, off + k * 5 + 3, none⟩ = some (.int .i64 x3) := hat 3 _ rfl
          have g4 : wq.cell? ⟨bb, off + k * 5 + 4, none⟩ = some (.int .i64 x4) := hat 4 _ rfl
          unfold Place.arr at *
          dsimp only at HPB HBN g0
          clear hat
          have hno := @no_fit ps i C k _ (by rw [HN.out]; exact hlt2) hxk.out
          have HNO := Lib.hid hno
          clear hno
          by_cases e0 : x3 < 1
          · have t0 : decide (x3 < 1) = true := decide_eq_true e0
            have HBAD := Lib.hid (HNO.out (by dsimp only; omega))
            clear e0
            go_wp2_with (fail)
            refine ⟨rfl, _, results_tmp2 rfl _ _ _, ?_⟩
            exact ⟨⟨fun h => (by rw [HBAD.out] at h; cases h), fun _ => rfl⟩, HBN.out⟩
          have t0 : decide (x3 < 1) = false := decide_eq_false e0
          by_cases e1 : x4 < 1
          · have t1 : decide (x4 < 1) = true := decide_eq_true e1
            have HBAD := Lib.hid (HNO.out (by dsimp only; omega))
            clear e0 e1
            go_wp2_with (fail)
            refine ⟨rfl, _, results_tmp2 rfl _ _ _, ?_⟩
            exact ⟨⟨fun h => (by rw [HBAD.out] at h; cases h), fun _ => rfl⟩, HBN.out⟩
          have t1 : decide (x4 < 1) = false := decide_eq_false e1
          by_cases e2 : x1 < 0
          · have t2 : decide (x1 < 0) = true := decide_eq_true e2
            have HBAD := Lib.hid (HNO.out (by dsimp only; omega))
            clear e0 e1 e2
            go_wp2_with (fail)
            refine ⟨rfl, _, results_tmp2 rfl _ _ _, ?_⟩
            exact ⟨⟨fun h => (by rw [HBAD.out] at h; cases h), fun _ => rfl⟩, HBN.out⟩
          have t2 : decide (x1 < 0) = false := decide_eq_false e2
          by_cases e3 : x2 < 0
          · have t3 : decide (x2 < 0) = true := decide_eq_true e3
            have HBAD := Lib.hid (HNO.out (by dsimp only; omega))
            clear e0 e1 e2 e3
            go_wp2_with (fail)
            refine ⟨rfl, _, results_tmp2 rfl _ _ _, ?_⟩
            exact ⟨⟨fun h => (by rw [HBAD.out] at h; cases h), fun _ => rfl⟩, HBN.out⟩
          have t3 : decide (x2 < 0) = false := decide_eq_false e3
          by_cases e4 : (i : Int) < x1
          · have t4 : decide ((i : Int) < x1) = true := decide_eq_true e4
            have HBAD := Lib.hid (HNO.out (by dsimp only; omega))
            clear e0 e1 e2 e3 e4
            go_wp2_with (fail)
            refine ⟨rfl, _, results_tmp2 rfl _ _ _, ?_⟩
            exact ⟨⟨fun h => (by rw [HBAD.out] at h; cases h), fun _ => rfl⟩, HBN.out⟩
          have t4 : decide ((i : Int) < x1) = false := decide_eq_false e4
          by_cases e5 : (C : Int) < x2
          · have t5 : decide ((C : Int) < x2) = true := decide_eq_true e5
            have HBAD := Lib.hid (HNO.out (by dsimp only; omega))
            clear e0 e1 e2 e3 e4 e5
            go_wp2_with (fail)
            refine ⟨rfl, _, results_tmp2 rfl _ _ _, ?_⟩
            exact ⟨⟨fun h => (by rw [HBAD.out] at h; cases h), fun _ => rfl⟩, HBN.out⟩
          have t5 : decide ((C : Int) < x2) = false := decide_eq_false e5
          have fw : IntKind.i64.wrap ((i : Int) - x1) = (i : Int) - x1 := IntWalk.i64_in _ (by have := HRC.out; omega)
          by_cases e6 : (i : Int) - x1 < x3
          · have t6 : decide ((i : Int) - x1 < x3) = true := decide_eq_true e6
            have HBAD := Lib.hid (HNO.out (by dsimp only; omega))
            clear e0 e1 e2 e3 e4 e5 e6
            go_wp2_with (fail)
            refine ⟨rfl, _, results_tmp2 rfl _ _ _, ?_⟩
            exact ⟨⟨fun h => (by rw [HBAD.out] at h; cases h), fun _ => rfl⟩, HBN.out⟩
          have t6 : decide ((i : Int) - x1 < x3) = false := decide_eq_false e6
          have fv : IntKind.i64.wrap ((C : Int) - x2) = (C : Int) - x2 := IntWalk.i64_in _ (by have := HRC.out; omega)
          by_cases e7 : (C : Int) - x2 < x4
          · have t7 : decide ((C : Int) - x2 < x4) = true := decide_eq_true e7
            have HBAD := Lib.hid (HNO.out (by dsimp only; omega))
            clear e0 e1 e2 e3 e4 e5 e6 e7
            go_wp2_with (fail)
            refine ⟨rfl, _, results_tmp2 rfl _ _ _, ?_⟩
            exact ⟨⟨fun h => (by rw [HBAD.out] at h; cases h), fun _ => rfl⟩, HBN.out⟩
          have t7 : decide ((C : Int) - x2 < x4) = false := decide_eq_false e7
          go_wp2_with (fail)
          obtain ⟨r0, rfl⟩ := Int.eq_ofNat_of_zero_le (show 0 ≤ x1 by omega)
          obtain ⟨c0, rfl⟩ := Int.eq_ofNat_of_zero_le (show 0 ≤ x2 by omega)
          obtain ⟨m, rfl⟩ := Int.eq_ofNat_of_zero_le (show 0 ≤ x3 by omega)
          obtain ⟨q, rfl⟩ := Int.eq_ofNat_of_zero_le (show 0 ≤ x4 by omega)
          obtain ⟨re, hre⟩ : ∃ re, r0 + m = re := ⟨_, rfl⟩
          obtain ⟨ce, hce⟩ : ∃ ce, c0 + q = ce := ⟨_, rfl⟩
          have fr : IntKind.i64.wrap ((r0 : Int) + (m : Int)) = (re : Int) := by rw [IntWalk.i64_in _ (by have := HRC.out; omega)]; omega
          have fc : IntKind.i64.wrap ((c0 : Int) + (q : Int)) = (ce : Int) := by rw [IntWalk.i64_in _ (by have := HRC.out; omega)]; omega
          have HE : Hid (r0 + m = re ∧ c0 + q = ce ∧ re ≤ i ∧ ce ≤ C ∧ 1 ≤ m ∧ 1 ≤ q) := Lib.hid ⟨hre, hce, by omega, by omega, by omega, by omega⟩
          have HFIT : Hid (fitP (ps[k]?.getD default) i C = true) := Lib.hid (by rw [hxk.out, fitP_iff]; dsimp only; omega)
          have HSL : Hid (slotsOf (ps[k]?.getD default) = ownTo r0 c0 q m) := Lib.hid (by rw [hxk.out]; rfl)
          have HT1 := Lib.hid (HT.out.turn HPB.out.1)
          obtain ⟨P, hP⟩ : ∃ P, wq.heap.size = P := ⟨_, rfl⟩
          obtain ⟨wp, hwp⟩ : ∃ wp, wq.alloc (.cells #[.int .i64 x0, .int .i64 r0, .int .i64 c0, .int .i64 m, .int .i64 q] 43) = wp := ⟨_, rfl⟩
          have HWP := Lib.hid hwp
          have HPP := Lib.hid hP
          have HP1 : Hid (w1.heap.size ≤ P) := Lib.hid (by rw [← hP]; exact HS.out)
          rw [hwp] at HPB HBN HT1
          have HBX := Lib.hid HPB.out.2
          rw [hP] at HBX
          clear e0 e1 e2 e3 e4 e5 e6 e7 HNO hre hce hwp HT hP HPB HB HS
          rw [HWP.out, HPP.out]
          clear HWP HPP t0 t1 t2 t3 t4 t5 t6 t7 fw fv g0 g1 g2 g3 g4
          go_loopw [14] (fun a wu => ∃ rr : Nat, (r0 ≤ rr ∧ rr ≤ re) ∧ a = .int .i64 rr ∧ Hid (TabR wu w.heap.size v i vs (fun _ => C) (markL (whoTo ps k) k (ownTo r0 c0 q (rr - r0)))) ∧ Hid (wu.heap[P]? = some (.cells #[.int .i64 x0, .int .i64 r0, .int .i64 c0, .int .i64 m, .int .i64 q] 43 (0, 0))) ∧ Hid (Below w.heap.size w wu) ∧ Hid (∀ s ∈ ownTo r0 c0 q (rr - r0), whoTo ps k s.1 s.2 < 0)) (fun a _ => re - (intOf a).toNat)
          case atStart => exact ⟨r0, ⟨Nat.le_refl _, by have := HE.out; omega⟩, rfl, Lib.hid (by rw [Nat.sub_self]; show TabR _ _ _ _ _ _ (markL (whoTo ps k) k []); rw [markL_nil]; exact HT1.out), HBX, HBN, Lib.hid (by rw [Nat.sub_self]; intro s hs; cases hs)⟩
          case round =>
            clear HT1 HBX HBN
            obtain ⟨rr, ⟨hr0, hr1⟩, rfl, HT, HBX, HB, HF⟩ := hrel
            obtain ⟨w2, hw2⟩ : ∃ x, x = wr := ⟨_, rfl⟩
            subst hw2
            have p1 : w2.cell? ⟨P, 1, none⟩ = some (.int .i64 r0) := cell_of (j := 1) HBX.out rfl
            have p2 : w2.cell? ⟨P, 2, none⟩ = some (.int .i64 c0) := cell_of (j := 2) HBX.out rfl
            have p3 : w2.cell? ⟨P, 3, none⟩ = some (.int .i64 m) := cell_of (j := 3) HBX.out rfl
            by_cases hlr : rr < re
            · have tr : decide ((rr : Int) < (re : Int)) = true := decide_eq_true (by omega)
              go_wp2_with (fail)
              clear p1 p2 p3 tr
              go_loopw [15] (fun a wu => ∃ cc : Nat, (c0 ≤ cc ∧ cc ≤ ce) ∧ a = .int .i64 cc ∧ Hid (TabR wu w.heap.size v i vs (fun _ => C) (markL (whoTo ps k) k (ownTo r0 c0 q (rr - r0) ++ ownRow r0 c0 (rr - r0) (cc - c0)))) ∧ Hid (wu.heap[P]? = some (.cells #[.int .i64 x0, .int .i64 r0, .int .i64 c0, .int .i64 m, .int .i64 q] 43 (0, 0))) ∧ Hid (Below w.heap.size w wu) ∧ Hid (∀ s ∈ ownTo r0 c0 q (rr - r0) ++ ownRow r0 c0 (rr - r0) (cc - c0), whoTo ps k s.1 s.2 < 0)) (fun a _ => ce - (intOf a).toNat)
              case atStart => exact ⟨c0, ⟨Nat.le_refl _, by have := HE.out; omega⟩, rfl, Lib.hid (by rw [Nat.sub_self]; show TabR _ _ _ _ _ _ (markL (whoTo ps k) k (_ ++ [])); rw [List.append_nil]; exact HT.out), HBX, HB, Lib.hid (by rw [Nat.sub_self]; show ∀ s ∈ _ ++ [], _; rw [List.append_nil]; exact HF.out)⟩
              case round =>
                clear HT HBX HB HF
                obtain ⟨cc, ⟨hc0, hc1⟩, rfl, HT, HBX, HB, HF⟩ := hrel
                obtain ⟨w3, hw3⟩ : ∃ x, x = wr := ⟨_, rfl⟩
                subst hw3
                have p2 : w3.cell? ⟨P, 2, none⟩ = some (.int .i64 c0) := cell_of (j := 2) HBX.out rfl
                have p4 : w3.cell? ⟨P, 4, none⟩ = some (.int .i64 q) := cell_of (j := 4) HBX.out rfl
                by_cases hlc : cc < ce
                · have tc : decide ((cc : Int) < (ce : Int)) = true := decide_eq_true (by omega)
                  have hri : rr < i := by have := HE.out; omega
                  have hcC : cc < C := by have := HE.out; omega
                  have ur : decide ((rr : Int) < (i : Int)) = true := decide_eq_true (by omega)
                  have uc : decide ((cc : Int) < (C : Int)) = true := decide_eq_true (by omega)
                  obtain ⟨g, cv, hv, hgc⟩ := HT.out.cell hri
                  obtain ⟨b, cb, hb, hb1, hb2, hbc, hbf⟩ := HT.out.at_ hri hcC
                  have hbP : b < w1.heap.size := HVB.out rr hri b (by rw [hb]; rfl)
                  subst hv
                  rw [hb] at hgc
                  have hfresh : markL (whoTo ps k) k (ownTo r0 c0 q (rr - r0) ++ ownRow r0 c0 (rr - r0) (cc - c0)) rr cc = whoTo ps k rr cc := by
                    unfold markL
                    rw [if_neg]
                    have := own_fresh (r0 := r0) (c0 := c0) (q := q) (m := m) (i := rr - r0) (k := cc - c0) (by have := HE.out; omega) (by have := HE.out; omega)
                    rwa [show r0 + (rr - r0) = rr by omega, show c0 + (cc - c0) = cc by omega] at this
                  rw [hfresh] at hbc
                  have HSET := Lib.hid (HT.out.set hri hcC hb k)
                  have HBB := Lib.hid hb
                  have HBX2 : Hid ((w3.setCell ⟨b, cc, none⟩ (.int .i64 k)).heap[P]? = some (.cells #[.int .i64 x0, .int .i64 r0, .int .i64 c0, .int .i64 m, .int .i64 q] 43 (0, 0))) := Lib.hid ((heap_set_other w3 cc _ (by have := HP1.out; omega)).trans HBX.out)
                  have HB2 : Hid (Below w.heap.size w (w3.setCell ⟨b, cc, none⟩ (.int .i64 k))) := Lib.hid (HB.out.setCell (p := ⟨b, cc, none⟩) hb1 _)
                  have HMEM : Hid ((rr, cc) ∈ slotsOf (ps[k]?.getD default)) := Lib.hid (by rw [HSL.out, ownTo_mem]; have := HE.out; dsimp only; omega)
                  have f9 : IntKind.i64.wrap ((cc : Int) + 1) = (cc : Int) + 1 := IntWalk.i64_in _ (by have := HRC.out; omega)
                  clear hb hfresh hb1 hb2
                  obtain ⟨z, hz⟩ : ∃ z, whoTo ps k rr cc = z := ⟨_, rfl⟩
                  rw [hz] at hbc
                  have HZ := Lib.hid hz
                  clear hz hbP
                  by_cases hzp : 0 ≤ z
                  · have tz : decide (0 ≤ z) = true := decide_eq_true hzp
                    have HBAD := Lib.hid (not_free (R := i) (C := C) (by rw [HN.out]; exact hlt2) HMEM.out (by rw [HZ.out]; exact hzp))
                    clear hzp
                    go_wp2_with (fail)
                    refine ⟨rfl, _, results_tmp2 rfl _ _ _, ?_⟩
                    exact ⟨⟨fun h => (by rw [HBAD.out] at h; cases h), fun _ => rfl⟩, HB.out⟩
                  · have tz : decide (0 ≤ z) = false := decide_eq_false hzp
                    have HF2 : Hid (∀ s ∈ ownTo r0 c0 q (rr - r0) ++ ownRow r0 c0 (rr - r0) (cc + 1 - c0), whoTo ps k s.1 s.2 < 0) := Lib.hid fun s hs => by
                      rw [show cc + 1 - c0 = (cc - c0) + 1 by omega, ownRow, ← List.append_assoc, List.mem_append] at hs
                      rcases hs with hs | hs
                      · exact HF.out s hs
                      · obtain rfl := List.mem_singleton.1 hs
                        dsimp only
                        rw [show r0 + (rr - r0) = rr by omega, show c0 + (cc - c0) = cc by omega, HZ.out]
                        omega
                    clear hzp
                    go_wp2_with (fail)
                    go_roundw
                    case rel =>
                      refine ⟨cc + 1, ⟨by omega, by omega⟩, by go_num, ?_, HBX2, HB2, HF2⟩
                      rw [show cc + 1 - c0 = (cc - c0) + 1 by omega, ownRow, ← List.append_assoc, markL_next, show r0 + (rr - r0) = rr by omega, show c0 + (cc - c0) = cc by omega]
                      exact HSET
                    case measure => simp [intOf]; omega
                · obtain rfl : cc = ce := by omega
                  have tc : decide ((cc : Int) < (cc : Int)) = false := decide_eq_false (by omega)
                  have f9 : IntKind.i64.wrap ((rr : Int) + 1) = (rr : Int) + 1 := IntWalk.i64_in _ (by have := HRC.out; have := HE.out; omega)
                  have heq : ownTo r0 c0 q (rr + 1 - r0) = ownTo r0 c0 q (rr - r0) ++ ownRow r0 c0 (rr - r0) (cc - c0) := by
                    rw [show rr + 1 - r0 = (rr - r0) + 1 by omega, ownTo, show cc - c0 = q by have := HE.out; omega]
                  rw [← heq] at HT HF
                  clear heq
                  go_wp2_with (fail)
                  go_roundw
                  case rel => exact ⟨rr + 1, ⟨by omega, by omega⟩, by go_num, HT, HBX, HB, HF⟩
                  case measure => simp [intOf]; omega
            · obtain rfl : rr = re := by omega
              have tr : decide ((rr : Int) < (rr : Int)) = false := decide_eq_false (by omega)
              have f9 : IntKind.i64.wrap ((k : Int) + 1) = (k : Int) + 1 := IntWalk.i64_in _ (by have := HRC.out; omega)
              have hsl : slotsOf (ps[k]?.getD default) = ownTo r0 c0 q (rr - r0) := by rw [HSL.out, show rr - r0 = m by have := HE.out; omega]
              have hmk := markL_all (ps := ps) HFIT.out
              rw [hsl] at hmk
              rw [hmk] at HT
              have HK2 : Hid (∀ j, j < k + 1 → okP ps i C j = true) := Lib.hid fun j hj => by
                by_cases e : j = k
                · subst e; exact are_free HFIT.out (by rw [hsl]; exact HF.out)
                · exact HK.out j (by omega)
              have HS2 : Hid (w1.heap.size ≤ w2.heap.size) := Lib.hid (Nat.le_of_lt (Nat.lt_of_le_of_lt HP1.out (Array.getElem?_eq_some_iff.1 HBX.out).1))
              clear hsl hmk
              go_wp2_with (fail)
              go_roundw
              case rel => exact ⟨k + 1, by omega, by go_num, HT, HB, HS2, HK2⟩
              case measure => simp [intOf]; omega
        · obtain rfl : k = N := by omega
          have tk : decide ((k : Int) < (k : Int)) = false := decide_eq_false (by omega)
          obtain ⟨Av, cv, hv⟩ := own_slice HT.out.own
          subst hv
          have HOK : Hid (okS ps i C = true) := Lib.hid (okS_yes fun j hj => HK.out j (by rw [HN.out] at hj; exact hj))
          rw [← HN.out] at HT
          go_wp2_with (fail)
          refine ⟨rfl, _, results_tmp2 rfl _ _ _, ?_⟩
          exact ⟨⟨fun _ => ⟨_, _, rfl, HT.out⟩, fun h => (by rw [HOK.out] at h; cases h)⟩, HB.out⟩
end Go.Proofs.Ytmlcjiabnmdfeaa
