/- Contract of the reference's Edges. -/
import Derived.Test.YtmlcjiabnmdfeaaRI
import Derived.Test.YtmlcjiabnmdfeaaCW
import Derived.Test.YtmlcjiabnmdfeaaU
namespace Go.Proofs.Ytmlcjiabnmdfeaa
open Go Go.RowKit Go.Shelf CT
set_option linter.unusedVariables false

/-- a list of edges, in a row of the call's own -/
structure GotE (w0 W : World) (u : Value) (l : List Edge) : Prop where
  own : W.ownsRow w0.heap.size 47 10 u l.length (GR.flat Edge.cells l)
  bl : Below w0.heap.size w0 W
theorem GotE.turn {w0 W W' : World} {u : Value} {l : List Edge} (h : GotE w0 W u l) (hb : Below W.heap.size W W') : GotE w0 W' u l := ⟨GR.own_turn h.own hb, h.bl.trans (hb.mono h.bl.size)⟩
theorem GotE.app {w0 W W1 : World} {u v' : Value} {l : List Edge} {s : Edge} (h : GotE w0 W u l) (ho : W1.ownsRow w0.heap.size 47 10 v' (l.length + 1) (GR.flat Edge.cells (l ++ [s]))) (hb : Below w0.heap.size W W1) : GotE w0 W1 v' (l ++ [s]) :=
  ⟨by rw [List.length_append]; exact ho, h.bl.trans hb⟩
theorem edge_box (W : World) (s : Edge) : Below W.heap.size W (W.alloc (.cells s.arr 47)) ∧ GR.One Edge.cells 47 (W.alloc (.cells s.arr 47)) W.heap.size s := ⟨(Below.refl _ _).alloc (Nat.le_refl _) _, GR.One.new (enc := Edge.cells) 47 W s⟩
theorem Got.sides {w0 W : World} {A : Option Addr} {n cap : Nat} {l : List CT.Side} (h : Got w0 W (.slice A n cap) l) (hn : n = l.length) : CT.Sides W A l := by
  subst hn
  obtain ⟨A2, c2, hv, -, hm, -⟩ := GR.own_many Side.len h.own rfl
  cases hv
  exact many_sides hm
theorem okFr_len {f : Fr} (h : okFr f = true) : f.cl.length = f.pl.length := (okFr_num h).2.2.2

set_option maxRecDepth 100000 in
set_option maxHeartbeats 32000000 in
/-- the reference's Edges -/
theorem c16 (f : Fr) (w : World) (hI : f.In w) (hR : f.R ≤ 8) (hC : f.C ≤ 8) (hok : okFr f = true) : Calls Try.prog 16 #[.agg f.arr] w fun e w' => ∃ v, e = .returned v ∧ GotE w w' v (allE f) := by
  have hnum := okFr_num hok
  have hba : Below w.heap.size w (w.alloc (.cells f.arr 30)) := (Below.refl _ _).alloc (Nat.le_refl _) _
  have HA0 := Lib.hid (Fr.At.new f w)
  have HI0 := Lib.hid (hI.turn hba)
  have HB0 := Lib.hid hba
  have H28 := Lib.hid (fun W hx => c28z f.pa f.pl f.pc f.R f.C W hx hI.len.1 hR hC)
  have HZ := Lib.hid hnum.1
  have H0 : Hid ((0 ≤ f.R ∧ 0 ≤ f.C) ∧ f.R ≤ 8 ∧ f.C ≤ 8) := Lib.hid ⟨⟨hnum.2.1, hnum.2.2.1⟩, hR, hC⟩
  have HL := Lib.hid (okFr_len hok)
  have HIn := Lib.hid hI
  obtain ⟨R, hRn⟩ : ∃ R, f.R.toNat = R := ⟨_, rfl⟩
  obtain ⟨C, hCn⟩ : ∃ C, f.C.toNat = C := ⟨_, rfl⟩
  obtain ⟨R1, hR1⟩ : ∃ x, R + 1 = x := ⟨_, rfl⟩
  obtain ⟨C1, hC1⟩ : ∃ x, C + 1 = x := ⟨_, rfl⟩
  have HRn : Hid (f.R = (R : Int) ∧ R ≤ 8 ∧ f.R.toNat = R ∧ R + 1 = R1) := Lib.hid ⟨by omega, by omega, hRn, hR1⟩
  have HCn : Hid (f.C = (C : Int) ∧ C ≤ 8 ∧ f.C.toNat = C ∧ C + 1 = C1) := Lib.hid ⟨by omega, by omega, hCn, hC1⟩
  have HALL : Hid (allE f = lieAll f R1 ++ standAll f R) := Lib.hid (by unfold allE; rw [hRn, hR1])
  obtain ⟨AL, hAL⟩ : ∃ x, allE f = x := ⟨_, rfl⟩
  rw [hAL] at HALL ⊢
  clear hba hI hR hC hok hnum hRn hCn hAL hR1 hC1
  go_enter Try.func16, Try.ntmps16
  obtain ⟨p0, p1, p2, p3, p4, p5, p6, p7⟩ := HA0.out.eight
  go_wp2_with (fail)
  refine (H28.out _ HI0.out.p).mono ?_
  rintro e w1 ⟨h1, -, hb⟩
  obtain ⟨v, vs, rfl, hT⟩ := h1 HZ.out
  obtain ⟨Av, cv, hv⟩ := own_slice hT.own
  subst hv
  have HA1 := Lib.hid (HA0.out.turn hb)
  have HI1 := Lib.hid (HI0.out.turn hb)
  have HB1 := Lib.hid (HB0.out.trans (hb.mono HB0.out.size))
  have HT1 := Lib.hid hT
  obtain ⟨bT, hbT⟩ : ∃ x, (w.alloc (.cells f.arr 30)).heap.size = x := ⟨_, rfl⟩
  rw [hbT] at HT1
  obtain ⟨n0, hn0⟩ : ∃ x, f.R.toNat = x := ⟨_, rfl⟩
  have HA33 : Hid (∀ W r c, Below w1.heap.size w1 W → Calls Try.prog 33 #[.slice Av f.R.toNat cv, .int .i64 r, .int .i64 c] W fun e W' => e = .returned (.int .i64 (who f r c)) ∧ W = W') := Lib.hid fun W r c hW => c33 f bT _ vs r c W (HT1.out.turn hW) H0.out
  have HA34 : Hid (∀ W (r c : Int), (0 ≤ r ∧ r ≤ 8) → (0 ≤ c ∧ c ≤ 8) → Below w1.heap.size w1 W → Calls Try.prog 34 #[.agg f.arr, .slice Av f.R.toNat cv, .int .i64 r, .int .i64 c] W fun e w' => ∃ u, e = .returned u ∧ Got W w' u (asked f false r c (who f (r - 1) c) (who f r c))) := Lib.hid fun W r c h1 h2 hW => c34 f bT _ vs r c W (HI1.out.turn hW) (HT1.out.turn hW) H0.out HL.out h1 h2
  have HA36 : Hid (∀ W (r c : Int), (0 ≤ r ∧ r ≤ 8) → (0 ≤ c ∧ c ≤ 8) → Below w1.heap.size w1 W → Calls Try.prog 36 #[.agg f.arr, .slice Av f.R.toNat cv, .int .i64 r, .int .i64 c] W fun e w' => ∃ u, e = .returned u ∧ Got W w' u (asked f true c r (who f r (c - 1)) (who f r c))) := Lib.hid fun W r c h1 h2 hW => c36 f bT _ vs r c W (HI1.out.turn hW) (HT1.out.turn hW) H0.out HL.out h1 h2
  have HAL1 : Hid (∀ st n m a b, (asked f st n m a b).length ≤ 84) := Lib.hid fun st n m a b => asked_len f st n m a b HIn.out
  rw [hn0] at HA33 HA34 HA36
  rw [hn0]
  clear hT hb h1 hbT hn0 p0 p1 p2 p3 p4 p5 p6 p7 H28 HI0 HA0 HB0 HZ
  have HG0 : Hid (GotE w1 w1 (.slice none 0 0) (lieAll f 0)) := Lib.hid ⟨GR.own_nil _ _ _ _, Below.refl _ _⟩
  go_wp2_with (fail)
  go_loopw [5, 6] (fun u a wr => ∃ i : Nat, i ≤ R1 ∧ a = .int .i64 i ∧ Hid (GotE w1 wr u (lieAll f i))) (fun _ a _ => R1 - (intOf a).toNat)
  case atStart => exact ⟨0, Nat.zero_le _, rfl, HG0⟩
  case round =>
    clear HG0
    obtain ⟨i, hi, rfl, HG⟩ := hrel
    obtain ⟨w2, hw2⟩ : ∃ x, x = wr := ⟨_, rfl⟩
    subst hw2
    obtain ⟨u, hu⟩ : ∃ x, x = u5 := ⟨_, rfl⟩
    subst hu
    have p0 : w2.cell? ⟨w.heap.size, 0, none⟩ = some (.int .i64 (R : Int)) := by rw [← HRn.out.1]; exact (HA1.out.turn HG.out.bl).eight.1
    have p1 : w2.cell? ⟨w.heap.size, 1, none⟩ = some (.int .i64 (C : Int)) := by rw [← HCn.out.1]; exact (HA1.out.turn HG.out.bl).eight.2.1
    by_cases hlt : i < R1
    · have ti : decide ((i : Int) ≤ (R : Int)) = true := decide_eq_true (by have := HRn.out; have := HCn.out; omega)
      have tn : decide (i ≤ R) = true := decide_eq_true (by have := HRn.out; have := HCn.out; omega)
      go_wp2_with (fail)
      clear p0 p1 ti tn
      go_loopw [5, 7] (fun u a wr => ∃ k : Nat, k ≤ C ∧ a = .int .i64 k ∧ Hid (GotE w1 wr u ((lieAll f i) ++ lieRow f i k))) (fun _ a _ => C - (intOf a).toNat)
      case atStart => exact ⟨0, Nat.zero_le _, rfl, Lib.hid (by show GotE w1 _ _ (_ ++ []); rw [List.append_nil]; exact HG.out)⟩
      case round =>
        clear HG
        obtain ⟨k, hk, rfl, HG⟩ := hrel
        obtain ⟨w3, hw3⟩ : ∃ x, x = wr := ⟨_, rfl⟩
        subst hw3
        obtain ⟨uq, huq⟩ : ∃ x, x = u5 := ⟨_, rfl⟩
        subst huq
        have p0 : w3.cell? ⟨w.heap.size, 0, none⟩ = some (.int .i64 (R : Int)) := by rw [← HRn.out.1]; exact (HA1.out.turn HG.out.bl).eight.1
        have p1 : w3.cell? ⟨w.heap.size, 1, none⟩ = some (.int .i64 (C : Int)) := by rw [← HCn.out.1]; exact (HA1.out.turn HG.out.bl).eight.2.1
        by_cases hlk : k < C
        · have tk : decide ((k : Int) < (C : Int)) = true := decide_eq_true (by have := HRn.out; have := HCn.out; omega)
          have tn : decide (k ≤ C) = true := decide_eq_true (by have := HRn.out; have := HCn.out; omega)
          have f1 : IntKind.i64.wrap ((i : Int) - 1) = (i : Int) - 1 := IntWalk.i64_in _ (by have := HRn.out; have := HCn.out; omega)
          have f9 : IntKind.i64.wrap ((k : Int) + 1) = (k : Int) + 1 := IntWalk.i64_in _ (by have := HCn.out; omega)
          have HWA := Lib.hid (HA33.out w3 ((i : Int) - 1) k HG.out.bl)
          have HWB := Lib.hid (HA33.out w3 i k HG.out.bl)
          have H34 := Lib.hid fun W hW => HA34.out W i k (by have := HRn.out; omega) (by have := HCn.out; omega) hW
          have HAT : Hid (lieAt f i k = if 0 ≤ (who f (i - 1) k) ∧ (who f (i - 1) k) = who f i k then [] else [edgeOf i k true (asked f false i k (who f (i - 1) k) (who f i k))]) := Lib.hid rfl
          have HLN := Lib.hid (HAL1.out false i k (who f (i - 1) k) (who f i k))
          have HWF : Hid (∀ x ∈ asked f false i k (who f (i - 1) k) (who f i k), True) := Lib.hid fun _ _ => trivial
          obtain ⟨wa, hwa⟩ : ∃ x, (who f (i - 1) k) = x := ⟨_, rfl⟩
          obtain ⟨wb, hwb⟩ : ∃ x, who f i k = x := ⟨_, rfl⟩
          rw [hwa] at HWA H34 HAT HLN
          rw [hwb] at HWB H34 HAT HLN
          obtain ⟨AS, hAS⟩ : ∃ x, asked f false i k wa wb = x := ⟨_, rfl⟩
          rw [hAS] at H34 HAT HLN
          clear hwa hwb hAS HWF
          go_wp2_with (fail)
          refine HWA.out.mono ?_
          rintro e _ ⟨rfl, rfl⟩
          by_cases c1 : 0 ≤ wa
          · have t1 : decide (0 ≤ wa) = true := decide_eq_true c1
            go_wp2_with (fail)
            refine HWA.out.mono ?_
            rintro e _ ⟨rfl, rfl⟩
            go_wp2_with (fail)
            refine HWB.out.mono ?_
            rintro e _ ⟨rfl, rfl⟩
            by_cases c2 : wa = wb
            · have t2 : (wa == wb) = true := beq_iff_eq.2 c2
              have hat := HAT.out
              rw [if_pos ⟨c1, c2⟩] at hat
              have HAT := Lib.hid hat
              clear hat c1 c2 p0 p1
              go_wp2_with (fail)
              go_roundw
              case rel => exact ⟨k + 1, by omega, by go_num, Lib.hid (by rw [lieRow_succ, ← List.append_assoc]; rw [HAT.out, List.append_nil]; exact HG.out)⟩
              case measure => simp [intOf]; omega
            · have t2 : (wa == wb) = false := beq_eq_false_iff_ne.2 c2
              have hat := HAT.out
              rw [if_neg (fun h => c2 h.2)] at hat
              have HAT := Lib.hid hat
              clear hat c1 c2
              go_wp2_with (refine at_dst 56 rfl ?_; refine wpList_load (cs := f.arr) _ rfl rfl rfl (HA1.out.turn HG.out.bl).at_ Try.underlying30 rfl (size30 f) ?_)
              refine (H34.out w3 HG.out.bl).mono ?_
              rintro e w4 ⟨ua, rfl, hg⟩
              obtain ⟨Aa, ca, hua⟩ := own_slice hg.own
              subst hua
              have HG4 := Lib.hid (HG.out.turn hg.bl)
              have HS4 := Lib.hid (hg.sides rfl)
              obtain ⟨na, hna⟩ : ∃ x, AS.length = x := ⟨_, rfl⟩
              have H35 := Lib.hid (CT.c35 Aa AS ca w4 HS4.out (by have := HLN.out; omega))
              rw [hna] at H35
              rw [hna]
              have HNA := Lib.hid hna
              clear hg hna p0 p1
              go_wp2_with (fail)
              refine H35.out.mono ?_
              rintro e w5 ⟨rfl, hb5⟩
              have HG5 := Lib.hid (HG4.out.turn hb5)
              obtain ⟨y, hy⟩ : ∃ y, winY AS = y := ⟨_, rfl⟩
              have HY := Lib.hid hy
              rw [hy]
              obtain ⟨s0, s1, s2, s3, s4, s5⟩ := y
              unfold CT.Side.arr
              dsimp only
              obtain ⟨wF, hwF⟩ : ∃ x, winF AS = x := ⟨_, rfl⟩
              rw [hwF]
              have hbx := side_box w5 ⟨s0, s1, s2, s3, s4, s5⟩
              have HG6 := Lib.hid (HG5.out.turn hbx.1)
              have he6 := edge_box (w5.alloc (.cells (⟨s0, s1, s2, s3, s4, s5⟩ : CT.Side).arr 45)) ⟨i, k, true, s0, s1, s2, s3, s4, s5, na⟩
              rw [show (w5.alloc (.cells (⟨s0, s1, s2, s3, s4, s5⟩ : CT.Side).arr 45)).heap.size = w5.heap.size + 1 from alloc_size rfl _] at he6
              have HE6 := Lib.hid he6
              have HG7 := Lib.hid (HG6.out.turn (by have h := HE6.out.1; rwa [← (alloc_size rfl _ : (w5.alloc (.cells (⟨s0, s1, s2, s3, s4, s5⟩ : CT.Side).arr 45)).heap.size = w5.heap.size + 1)] at h))
              have HAT2 : Hid (lieAt f i k = [⟨i, k, true, s0, s1, s2, s3, s4, s5, na⟩]) := Lib.hid (by rw [HAT.out]; unfold edgeOf; rw [HY.out, HNA.out])
              have HLE : Hid (((lieAll f i) ++ lieRow f i k).length ≤ 999999) := Lib.hid (by rw [List.length_append]; have := lieAll_len f H0.out.2.2 i; have := lieRow_len f i k; have := HRn.out; have := HCn.out; omega)
              unfold CT.Side.arr Edge.arr at *
              dsimp only at HG6 HE6 HG7
              clear hb5 hy hwF hbx he6 H35 HS4 HG4 HY HAT
              go_wp2_with (refine at_dst 74 rfl ?_; go_must ((refine GR.wpList_app_one rfl Edge.len Edge.one (by decide) (T := 34) (e := 47) (bytes := 80) (by kernel_rfl) info47 rfl w1.heap.size _ _ rfl _ _ _ rfl HG7.out.own (w5.heap.size + 1) 1 _ rfl HE6.out.2 HLE.out (by decide) HG7.out.bl.size ?_); intro u8 w8 h1 h2 h3; have HG8 := Lib.hid (HG7.out.app h1 h2); clear h1 h2 h3))
              go_roundw
              case rel => exact ⟨k + 1, by omega, by go_num, Lib.hid (by rw [lieRow_succ, ← List.append_assoc]; rw [HAT2.out]; exact HG8.out)⟩
              case measure => simp [intOf]; omega
          · have t1 : decide (0 ≤ wa) = false := decide_eq_false c1
            have hat := HAT.out
            rw [if_neg (fun h => c1 h.1)] at hat
            have HAT := Lib.hid hat
            clear hat c1
            go_wp2_with (refine at_dst 56 rfl ?_; refine wpList_load (cs := f.arr) _ rfl rfl rfl (HA1.out.turn HG.out.bl).at_ Try.underlying30 rfl (size30 f) ?_)
            refine (H34.out w3 HG.out.bl).mono ?_
            rintro e w4 ⟨ua, rfl, hg⟩
            obtain ⟨Aa, ca, hua⟩ := own_slice hg.own
            subst hua
            have HG4 := Lib.hid (HG.out.turn hg.bl)
            have HS4 := Lib.hid (hg.sides rfl)
            obtain ⟨na, hna⟩ : ∃ x, AS.length = x := ⟨_, rfl⟩
            have H35 := Lib.hid (CT.c35 Aa AS ca w4 HS4.out (by have := HLN.out; omega))
            rw [hna] at H35
            rw [hna]
            have HNA := Lib.hid hna
            clear hg hna p0 p1
            go_wp2_with (fail)
            refine H35.out.mono ?_
            rintro e w5 ⟨rfl, hb5⟩
            have HG5 := Lib.hid (HG4.out.turn hb5)
            obtain ⟨y, hy⟩ : ∃ y, winY AS = y := ⟨_, rfl⟩
            have HY := Lib.hid hy
            rw [hy]
            obtain ⟨s0, s1, s2, s3, s4, s5⟩ := y
            unfold CT.Side.arr
            dsimp only
            obtain ⟨wF, hwF⟩ : ∃ x, winF AS = x := ⟨_, rfl⟩
            rw [hwF]
            have hbx := side_box w5 ⟨s0, s1, s2, s3, s4, s5⟩
            have HG6 := Lib.hid (HG5.out.turn hbx.1)
            have he6 := edge_box (w5.alloc (.cells (⟨s0, s1, s2, s3, s4, s5⟩ : CT.Side).arr 45)) ⟨i, k, true, s0, s1, s2, s3, s4, s5, na⟩
            rw [show (w5.alloc (.cells (⟨s0, s1, s2, s3, s4, s5⟩ : CT.Side).arr 45)).heap.size = w5.heap.size + 1 from alloc_size rfl _] at he6
            have HE6 := Lib.hid he6
            have HG7 := Lib.hid (HG6.out.turn (by have h := HE6.out.1; rwa [← (alloc_size rfl _ : (w5.alloc (.cells (⟨s0, s1, s2, s3, s4, s5⟩ : CT.Side).arr 45)).heap.size = w5.heap.size + 1)] at h))
            have HAT2 : Hid (lieAt f i k = [⟨i, k, true, s0, s1, s2, s3, s4, s5, na⟩]) := Lib.hid (by rw [HAT.out]; unfold edgeOf; rw [HY.out, HNA.out])
            have HLE : Hid (((lieAll f i) ++ lieRow f i k).length ≤ 999999) := Lib.hid (by rw [List.length_append]; have := lieAll_len f H0.out.2.2 i; have := lieRow_len f i k; have := HRn.out; have := HCn.out; omega)
            unfold CT.Side.arr Edge.arr at *
            dsimp only at HG6 HE6 HG7
            clear hb5 hy hwF hbx he6 H35 HS4 HG4 HY HAT
            go_wp2_with (refine at_dst 74 rfl ?_; go_must ((refine GR.wpList_app_one rfl Edge.len Edge.one (by decide) (T := 34) (e := 47) (bytes := 80) (by kernel_rfl) info47 rfl w1.heap.size _ _ rfl _ _ _ rfl HG7.out.own (w5.heap.size + 1) 1 _ rfl HE6.out.2 HLE.out (by decide) HG7.out.bl.size ?_); intro u8 w8 h1 h2 h3; have HG8 := Lib.hid (HG7.out.app h1 h2); clear h1 h2 h3))
            go_roundw
            case rel => exact ⟨k + 1, by omega, by go_num, Lib.hid (by rw [lieRow_succ, ← List.append_assoc]; rw [HAT2.out]; exact HG8.out)⟩
            case measure => simp [intOf]; omega
        · obtain rfl : k = C := by omega
          have tk : decide ((k : Int) < (k : Int)) = false := decide_eq_false (by have := HRn.out; have := HCn.out; omega)
          have f9 : IntKind.i64.wrap ((i : Int) + 1) = (i : Int) + 1 := IntWalk.i64_in _ (by have := HRn.out; omega)
          go_wp2_with (fail)
          go_roundw
          case rel => exact ⟨i + 1, by omega, by go_num, Lib.hid (by rw [lieAll_succ, HCn.out.2.2.1]; exact HG.out)⟩
          case measure => simp [intOf]; omega
    · obtain rfl : i = R1 := by omega
      have ti : decide ((i : Int) ≤ (R : Int)) = false := decide_eq_false (by have := HRn.out; have := HCn.out; omega)
      obtain ⟨R1, hR1⟩ : ∃ x, x = i := ⟨_, rfl⟩
      subst hR1
      have HG0 : Hid (GotE w1 w2 u (lieAll f R1 ++ standAll f 0)) := Lib.hid (by show GotE _ _ _ (_ ++ []); rw [List.append_nil]; exact HG.out)
      have tn : decide (R1 ≤ R) = false := decide_eq_false (by have := HRn.out; omega)
      clear HG
      go_wp2_with (fail)
      clear p0 p1 ti tn
      go_loopw [5, 11] (fun u a wr => ∃ i : Nat, i ≤ R ∧ a = .int .i64 i ∧ Hid (GotE w1 wr u (lieAll f R1 ++ standAll f i))) (fun _ a _ => R - (intOf a).toNat)
      case atStart => exact ⟨0, Nat.zero_le _, rfl, HG0⟩
      case round =>
        clear HG0
        obtain ⟨i, hi, rfl, HG⟩ := hrel
        obtain ⟨w2, hw2⟩ : ∃ x, x = wr := ⟨_, rfl⟩
        subst hw2
        obtain ⟨u, hu⟩ : ∃ x, x = u5 := ⟨_, rfl⟩
        subst hu
        have p0 : w2.cell? ⟨w.heap.size, 0, none⟩ = some (.int .i64 (R : Int)) := by rw [← HRn.out.1]; exact (HA1.out.turn HG.out.bl).eight.1
        have p1 : w2.cell? ⟨w.heap.size, 1, none⟩ = some (.int .i64 (C : Int)) := by rw [← HCn.out.1]; exact (HA1.out.turn HG.out.bl).eight.2.1
        by_cases hlt : i < R
        · have ti : decide ((i : Int) < (R : Int)) = true := decide_eq_true (by have := HRn.out; have := HCn.out; omega)
          have tn : decide (i ≤ R) = true := decide_eq_true (by have := HRn.out; have := HCn.out; omega)
          go_wp2_with (fail)
          clear p0 p1 ti tn
          go_loopw [5, 12] (fun u a wr => ∃ k : Nat, k ≤ C1 ∧ a = .int .i64 k ∧ Hid (GotE w1 wr u ((lieAll f R1 ++ standAll f i) ++ standRow f i k))) (fun _ a _ => C1 - (intOf a).toNat)
          case atStart => exact ⟨0, Nat.zero_le _, rfl, Lib.hid (by show GotE w1 _ _ (_ ++ []); rw [List.append_nil]; exact HG.out)⟩
          case round =>
            clear HG
            obtain ⟨k, hk, rfl, HG⟩ := hrel
            obtain ⟨w3, hw3⟩ : ∃ x, x = wr := ⟨_, rfl⟩
            subst hw3
            obtain ⟨uq, huq⟩ : ∃ x, x = u5 := ⟨_, rfl⟩
            subst huq
            have p0 : w3.cell? ⟨w.heap.size, 0, none⟩ = some (.int .i64 (R : Int)) := by rw [← HRn.out.1]; exact (HA1.out.turn HG.out.bl).eight.1
            have p1 : w3.cell? ⟨w.heap.size, 1, none⟩ = some (.int .i64 (C : Int)) := by rw [← HCn.out.1]; exact (HA1.out.turn HG.out.bl).eight.2.1
            by_cases hlk : k < C1
            · have tk : decide ((k : Int) ≤ (C : Int)) = true := decide_eq_true (by have := HRn.out; have := HCn.out; omega)
              have tn : decide (k ≤ C) = true := decide_eq_true (by have := HRn.out; have := HCn.out; omega)
              have f1 : IntKind.i64.wrap ((k : Int) - 1) = (k : Int) - 1 := IntWalk.i64_in _ (by have := HRn.out; have := HCn.out; omega)
              have f9 : IntKind.i64.wrap ((k : Int) + 1) = (k : Int) + 1 := IntWalk.i64_in _ (by have := HCn.out; omega)
              have HWA := Lib.hid (HA33.out w3 i ((k : Int) - 1) HG.out.bl)
              have HWB := Lib.hid (HA33.out w3 i k HG.out.bl)
              have H34 := Lib.hid fun W hW => HA36.out W i k (by have := HRn.out; omega) (by have := HCn.out; omega) hW
              have HAT : Hid (standAt f i k = if 0 ≤ (who f i (k - 1)) ∧ (who f i (k - 1)) = who f i k then [] else [edgeOf i k false (asked f true k i (who f i (k - 1)) (who f i k))]) := Lib.hid rfl
              have HLN := Lib.hid (HAL1.out true k i (who f i (k - 1)) (who f i k))
              have HWF : Hid (∀ x ∈ asked f true k i (who f i (k - 1)) (who f i k), True) := Lib.hid fun _ _ => trivial
              obtain ⟨wa, hwa⟩ : ∃ x, (who f i (k - 1)) = x := ⟨_, rfl⟩
              obtain ⟨wb, hwb⟩ : ∃ x, who f i k = x := ⟨_, rfl⟩
              rw [hwa] at HWA H34 HAT HLN
              rw [hwb] at HWB H34 HAT HLN
              obtain ⟨AS, hAS⟩ : ∃ x, asked f true k i wa wb = x := ⟨_, rfl⟩
              rw [hAS] at H34 HAT HLN
              clear hwa hwb hAS HWF
              go_wp2_with (fail)
              refine HWA.out.mono ?_
              rintro e _ ⟨rfl, rfl⟩
              by_cases c1 : 0 ≤ wa
              · have t1 : decide (0 ≤ wa) = true := decide_eq_true c1
                go_wp2_with (fail)
                refine HWA.out.mono ?_
                rintro e _ ⟨rfl, rfl⟩
                go_wp2_with (fail)
                refine HWB.out.mono ?_
                rintro e _ ⟨rfl, rfl⟩
                by_cases c2 : wa = wb
                · have t2 : (wa == wb) = true := beq_iff_eq.2 c2
                  have hat := HAT.out
                  rw [if_pos ⟨c1, c2⟩] at hat
                  have HAT := Lib.hid hat
                  clear hat c1 c2 p0 p1
                  go_wp2_with (fail)
                  go_roundw
                  case rel => exact ⟨k + 1, by omega, by go_num, Lib.hid (by rw [standRow_succ, ← List.append_assoc]; rw [HAT.out, List.append_nil]; exact HG.out)⟩
                  case measure => simp [intOf]; omega
                · have t2 : (wa == wb) = false := beq_eq_false_iff_ne.2 c2
                  have hat := HAT.out
                  rw [if_neg (fun h => c2 h.2)] at hat
                  have HAT := Lib.hid hat
                  clear hat c1 c2
                  go_wp2_with (refine at_dst 105 rfl ?_; refine wpList_load (cs := f.arr) _ rfl rfl rfl (HA1.out.turn HG.out.bl).at_ Try.underlying30 rfl (size30 f) ?_)
                  refine (H34.out w3 HG.out.bl).mono ?_
                  rintro e w4 ⟨ua, rfl, hg⟩
                  obtain ⟨Aa, ca, hua⟩ := own_slice hg.own
                  subst hua
                  have HG4 := Lib.hid (HG.out.turn hg.bl)
                  have HS4 := Lib.hid (hg.sides rfl)
                  obtain ⟨na, hna⟩ : ∃ x, AS.length = x := ⟨_, rfl⟩
                  have H35 := Lib.hid (CT.c35 Aa AS ca w4 HS4.out (by have := HLN.out; omega))
                  rw [hna] at H35
                  rw [hna]
                  have HNA := Lib.hid hna
                  clear hg hna p0 p1
                  go_wp2_with (fail)
                  refine H35.out.mono ?_
                  rintro e w5 ⟨rfl, hb5⟩
                  have HG5 := Lib.hid (HG4.out.turn hb5)
                  obtain ⟨y, hy⟩ : ∃ y, winY AS = y := ⟨_, rfl⟩
                  have HY := Lib.hid hy
                  rw [hy]
                  obtain ⟨s0, s1, s2, s3, s4, s5⟩ := y
                  unfold CT.Side.arr
                  dsimp only
                  obtain ⟨wF, hwF⟩ : ∃ x, winF AS = x := ⟨_, rfl⟩
                  rw [hwF]
                  have hbx := side_box w5 ⟨s0, s1, s2, s3, s4, s5⟩
                  have HG6 := Lib.hid (HG5.out.turn hbx.1)
                  have he6 := edge_box (w5.alloc (.cells (⟨s0, s1, s2, s3, s4, s5⟩ : CT.Side).arr 45)) ⟨i, k, false, s0, s1, s2, s3, s4, s5, na⟩
                  rw [show (w5.alloc (.cells (⟨s0, s1, s2, s3, s4, s5⟩ : CT.Side).arr 45)).heap.size = w5.heap.size + 1 from alloc_size rfl _] at he6
                  have HE6 := Lib.hid he6
                  have HG7 := Lib.hid (HG6.out.turn (by have h := HE6.out.1; rwa [← (alloc_size rfl _ : (w5.alloc (.cells (⟨s0, s1, s2, s3, s4, s5⟩ : CT.Side).arr 45)).heap.size = w5.heap.size + 1)] at h))
                  have HAT2 : Hid (standAt f i k = [⟨i, k, false, s0, s1, s2, s3, s4, s5, na⟩]) := Lib.hid (by rw [HAT.out]; unfold edgeOf; rw [HY.out, HNA.out])
                  have HLE : Hid (((lieAll f R1 ++ standAll f i) ++ standRow f i k).length ≤ 999999) := Lib.hid (by rw [List.length_append, List.length_append]; have := lieAll_len f H0.out.2.2 R1; have := standAll_len f H0.out.2.2 i; have := standRow_len f i k; have := HRn.out; have := HCn.out; omega)
                  unfold CT.Side.arr Edge.arr at *
                  dsimp only at HG6 HE6 HG7
                  clear hb5 hy hwF hbx he6 H35 HS4 HG4 HY HAT
                  go_wp2_with (refine at_dst 123 rfl ?_; go_must ((refine GR.wpList_app_one rfl Edge.len Edge.one (by decide) (T := 34) (e := 47) (bytes := 80) (by kernel_rfl) info47 rfl w1.heap.size _ _ rfl _ _ _ rfl HG7.out.own (w5.heap.size + 1) 1 _ rfl HE6.out.2 HLE.out (by decide) HG7.out.bl.size ?_); intro u8 w8 h1 h2 h3; have HG8 := Lib.hid (HG7.out.app h1 h2); clear h1 h2 h3))
                  go_roundw
                  case rel => exact ⟨k + 1, by omega, by go_num, Lib.hid (by rw [standRow_succ, ← List.append_assoc]; rw [HAT2.out]; exact HG8.out)⟩
                  case measure => simp [intOf]; omega
              · have t1 : decide (0 ≤ wa) = false := decide_eq_false c1
                have hat := HAT.out
                rw [if_neg (fun h => c1 h.1)] at hat
                have HAT := Lib.hid hat
                clear hat c1
                go_wp2_with (refine at_dst 105 rfl ?_; refine wpList_load (cs := f.arr) _ rfl rfl rfl (HA1.out.turn HG.out.bl).at_ Try.underlying30 rfl (size30 f) ?_)
                refine (H34.out w3 HG.out.bl).mono ?_
                rintro e w4 ⟨ua, rfl, hg⟩
                obtain ⟨Aa, ca, hua⟩ := own_slice hg.own
                subst hua
                have HG4 := Lib.hid (HG.out.turn hg.bl)
                have HS4 := Lib.hid (hg.sides rfl)
                obtain ⟨na, hna⟩ : ∃ x, AS.length = x := ⟨_, rfl⟩
                have H35 := Lib.hid (CT.c35 Aa AS ca w4 HS4.out (by have := HLN.out; omega))
                rw [hna] at H35
                rw [hna]
                have HNA := Lib.hid hna
                clear hg hna p0 p1
                go_wp2_with (fail)
                refine H35.out.mono ?_
                rintro e w5 ⟨rfl, hb5⟩
                have HG5 := Lib.hid (HG4.out.turn hb5)
                obtain ⟨y, hy⟩ : ∃ y, winY AS = y := ⟨_, rfl⟩
                have HY := Lib.hid hy
                rw [hy]
                obtain ⟨s0, s1, s2, s3, s4, s5⟩ := y
                unfold CT.Side.arr
                dsimp only
                obtain ⟨wF, hwF⟩ : ∃ x, winF AS = x := ⟨_, rfl⟩
                rw [hwF]
                have hbx := side_box w5 ⟨s0, s1, s2, s3, s4, s5⟩
                have HG6 := Lib.hid (HG5.out.turn hbx.1)
                have he6 := edge_box (w5.alloc (.cells (⟨s0, s1, s2, s3, s4, s5⟩ : CT.Side).arr 45)) ⟨i, k, false, s0, s1, s2, s3, s4, s5, na⟩
                rw [show (w5.alloc (.cells (⟨s0, s1, s2, s3, s4, s5⟩ : CT.Side).arr 45)).heap.size = w5.heap.size + 1 from alloc_size rfl _] at he6
                have HE6 := Lib.hid he6
                have HG7 := Lib.hid (HG6.out.turn (by have h := HE6.out.1; rwa [← (alloc_size rfl _ : (w5.alloc (.cells (⟨s0, s1, s2, s3, s4, s5⟩ : CT.Side).arr 45)).heap.size = w5.heap.size + 1)] at h))
                have HAT2 : Hid (standAt f i k = [⟨i, k, false, s0, s1, s2, s3, s4, s5, na⟩]) := Lib.hid (by rw [HAT.out]; unfold edgeOf; rw [HY.out, HNA.out])
                have HLE : Hid (((lieAll f R1 ++ standAll f i) ++ standRow f i k).length ≤ 999999) := Lib.hid (by rw [List.length_append, List.length_append]; have := lieAll_len f H0.out.2.2 R1; have := standAll_len f H0.out.2.2 i; have := standRow_len f i k; have := HRn.out; have := HCn.out; omega)
                unfold CT.Side.arr Edge.arr at *
                dsimp only at HG6 HE6 HG7
                clear hb5 hy hwF hbx he6 H35 HS4 HG4 HY HAT
                go_wp2_with (refine at_dst 123 rfl ?_; go_must ((refine GR.wpList_app_one rfl Edge.len Edge.one (by decide) (T := 34) (e := 47) (bytes := 80) (by kernel_rfl) info47 rfl w1.heap.size _ _ rfl _ _ _ rfl HG7.out.own (w5.heap.size + 1) 1 _ rfl HE6.out.2 HLE.out (by decide) HG7.out.bl.size ?_); intro u8 w8 h1 h2 h3; have HG8 := Lib.hid (HG7.out.app h1 h2); clear h1 h2 h3))
                go_roundw
                case rel => exact ⟨k + 1, by omega, by go_num, Lib.hid (by rw [standRow_succ, ← List.append_assoc]; rw [HAT2.out]; exact HG8.out)⟩
                case measure => simp [intOf]; omega
            · obtain rfl : k = C1 := by omega
              have tk : decide ((k : Int) ≤ (C : Int)) = false := decide_eq_false (by have := HRn.out; have := HCn.out; omega)
              have tn : decide (k ≤ C) = false := decide_eq_false (by have := HCn.out; omega)
              have f9 : IntKind.i64.wrap ((i : Int) + 1) = (i : Int) + 1 := IntWalk.i64_in _ (by have := HRn.out; omega)
              go_wp2_with (fail)
              go_roundw
              case rel => exact ⟨i + 1, by omega, by go_num, Lib.hid (by rw [standAll_succ, HCn.out.2.2.1, HCn.out.2.2.2, ← List.append_assoc]; exact HG.out)⟩
              case measure => simp [intOf]; omega
        · obtain rfl : i = R := by omega
          have ti : decide ((i : Int) < (i : Int)) = false := decide_eq_false (by have := HRn.out; have := HCn.out; omega)
          go_wp2_with (fail)
          go_ret
          exact ⟨_, rfl, by rw [HALL.out]; exact ⟨GR.own_base HG.out.own HB1.out.size, HB1.out.trans (HG.out.bl.mono HB1.out.size)⟩⟩
end Go.Proofs.Ytmlcjiabnmdfeaa
