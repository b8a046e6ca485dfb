/- The walk of CollapseAll. -/
import Derived.Test.YtmlcjiabnmdfeaaBF
namespace Go.Proofs.Ytmlcjiabnmdfeaa
open Go Go.RowKit Go.Shelf CT
set_option linter.unusedVariables false

set_option maxRecDepth 100000 in
set_option maxHeartbeats 32000000 in
theorem all_walk (f : Fr) (w : World) (fa : f.Arg w) (fw : f.wf) : Calls Try.prog 5 #[.agg f.arr] w fun e w' => e = .returned (.bool true) ∧ Below w.heap.size w w' := by
  have hb0 : Below w.heap.size w (w.alloc (.cells f.arr 30)) := (Below.refl _ _).alloc (Nat.le_refl _) _
  have HA0 := Lib.hid (heap_alloc_new w (.cells f.arr 30))
  have HB0 := Lib.hid hb0
  have Hroom := Lib.hid fa.room
  have HI := Lib.hid (cutF_in fa)
  have Hwf := Lib.hid (cutF_wf fw)
  obtain ⟨c, hc⟩ : ∃ c, cutF f = c := ⟨_, rfl⟩
  have HRC : Hid (c.R = f.R ∧ c.C = f.C) := Lib.hid (by rw [← hc]; exact ⟨rfl, rfl⟩)
  rw [hc] at HI Hwf
  have H11 := Lib.hid (fun W => c11 f W Hroom.out)
  rw [hc] at H11
  clear hb0 fa fw hc
  go_enter Try.func5, Try.ntmps5
  go_wp2_with (fail)
  refine (c10 _).mono ?_
  rintro e w1 ⟨rfl, hb⟩
  have HA1 := Lib.hid ((hb.block _ (Array.getElem?_eq_some_iff.1 HA0.out).1).trans HA0.out)
  have HB1 := Lib.hid (HB0.out.trans (hb.mono HB0.out.size))
  clear hb HA0 HB0
  go_wp2_with (refine at_dst 16 rfl ?_; refine wpList_load (cs := f.arr) _ rfl rfl rfl HA1.out Try.underlying30 rfl (size30 f) ?_)
  refine (H11.out _).mono ?_
  rintro e w2 ⟨rfl, hb⟩
  have HA2 := Lib.hid ((hb.block _ (Array.getElem?_eq_some_iff.1 HA1.out).1).trans HA1.out)
  have HB2 := Lib.hid (HB1.out.trans (hb.mono HB1.out.size))
  obtain ⟨w3, hw3⟩ : ∃ w3, w2.setRow w.heap.size c.arr = w3 := ⟨_, rfl⟩
  have hA3 : w3.heap[w.heap.size]? = some (.cells c.arr 30 (0, 0)) := by rw [← hw3]; exact setRow_heap _ _ _ _ _ _ HA2.out
  have hB3 : Below w.heap.size w w3 := by rw [← hw3]; exact HB2.out.trans (CT.below_setRow HB2.out.size (Nat.le_refl _))
  have HW3 := Lib.hid hw3
  have HA3 := Lib.hid hA3
  have HB3 := Lib.hid hB3
  clear hb HA1 HB1 hw3 hA3 hB3
  obtain ⟨rc, hrc⟩ : ∃ b, (decide (f.R ≤ 8) && decide (f.C ≤ 8)) = b := ⟨_, rfl⟩
  rw [hrc]
  have HR := Lib.hid hrc
  clear hrc
  cases rc with
  | false =>
    go_wp2_with (refine at_store 30 rfl ?_; refine wpList_store (B := w.heap.size) (old := f.arr) (cs := c.arr) rfl rfl rfl rfl HA2.out (size30 _) rfl (fr_one _) ?_; rw [HW3.out])
    go_ret
    exact ⟨rfl, HB3.out⟩
  | true =>
    have HRC8 : Hid (c.R ≤ 8 ∧ c.C ≤ 8) := Lib.hid (by have h := HR.out; simp at h; rw [HRC.out.1, HRC.out.2]; exact h)
    go_wp2_with (first | (refine at_store 30 rfl ?_; refine wpList_store (B := w.heap.size) (old := f.arr) (cs := c.arr) rfl rfl rfl rfl HA2.out (size30 _) rfl (fr_one _) ?_; rw [HW3.out]) | (refine at_dst 24 rfl ?_; refine wpList_load (cs := c.arr) _ rfl rfl rfl HA3.out Try.underlying30 rfl (size30 c) ?_))
    refine (c12 c _ (HI.out.turn HB3.out) HRC8.out.1 HRC8.out.2 Hwf.out).mono ?_
    rintro e w4 ⟨h1, h2, hb⟩
    have HA4 := Lib.hid ((hb.block _ (Array.getElem?_eq_some_iff.1 HA3.out).1).trans HA3.out)
    have HB4 := Lib.hid (HB3.out.trans (hb.mono HB3.out.size))
    clear hb HW3 HA2 HB2 HA3 HB3
    cases hok : okFr c with
    | false =>
      obtain rfl := h2 hok
      clear h1 h2 hok
      go_wp2_with (fail)
      go_ret
      exact ⟨rfl, HB4.out⟩
    | true =>
      obtain ⟨v, rfl, ho⟩ := h1 hok
      obtain ⟨A, cap, rfl, _, hm, _⟩ := GR.own_many Edge.len ho rfl
      have HM := Lib.hid hm
      have HOK := Lib.hid hok
      obtain ⟨N, hN⟩ : ∃ N, (allE c).length = N := ⟨_, rfl⟩
      have hN2 : N ≤ 1000 := by rw [← hN]; exact allE_len' c HRC8.out.2 HRC8.out.1
      have HN := Lib.hid hN
      have HCT := Lib.hid (count_int hok HRC8.out.1 HRC8.out.2)
      rw [hN] at HCT ⊢
      obtain ⟨_, hR0, hC0, _⟩ := okFr_num hok
      have hR8 := HRC8.out.1
      have hC8 := HRC8.out.2
      have HRC0 : Hid (0 ≤ c.R ∧ 0 ≤ c.C) := Lib.hid ⟨hR0, hC0⟩
      have m1 := mul8 (a := c.R) (b := c.C + 1) hR0 hR8 (by omega) (by omega)
      have m2 := mul8 (a := c.C) (b := c.R + 1) hC0 hC8 (by omega) (by omega)
      have f1 : IntKind.i64.wrap (c.C + 1) = c.C + 1 := IntWalk.i64_in _ (by omega)
      have f2 : IntKind.i64.wrap (c.R + 1) = c.R + 1 := IntWalk.i64_in _ (by omega)
      have f3 : IntKind.i64.wrap (c.R * (c.C + 1)) = c.R * (c.C + 1) := IntWalk.i64_in _ (by omega)
      have f4 : IntKind.i64.wrap (c.C * (c.R + 1)) = c.C * (c.R + 1) := IntWalk.i64_in _ (by omega)
      have f5 : IntKind.i64.wrap (c.R * (c.C + 1) + c.C * (c.R + 1)) = c.R * (c.C + 1) + c.C * (c.R + 1) := IntWalk.i64_in _ (by omega)
      have HN0 : Hid (0 ≤ c.R * (c.C + 1) + c.C * (c.R + 1) ∧ c.R * (c.C + 1) + c.C * (c.R + 1) ≤ 144) := Lib.hid ⟨by omega, by omega⟩
      have p0 : _ = some (Value.int .i64 c.R) := cell_of (j := 0) HA4.out rfl
      have p1 : _ = some (Value.int .i64 c.C) := cell_of (j := 1) HA4.out rfl
      obtain ⟨NP, hNP⟩ : ∃ n, c.pl.length = n := ⟨_, rfl⟩
      have HNP := Lib.hid hNP
      have hNP10 : NP ≤ 10 := by have := HI.out.len.1; omega
      rw [hNP] at HCT
      have HLB := Lib.hid (lossTo_bound fun k hk => by
        have h := place_in hok HRC8.out.1 HRC8.out.2 hk
        have := HRC8.out
        exact ⟨⟨h.1.2.1, by omega⟩, h.2.2.1, by omega⟩)
      have HPL := Lib.hid fun k hk => place_in hok HRC8.out.1 HRC8.out.2 (k := k) hk
      have HNoP := Lib.hid (no_places hok HRC8.out.1 HRC8.out.2)
      clear h1 h2 hok ho hm hN hR0 hC0 hR8 hC8 m1 m2 hNP
      have p2 : _ = some (Value.slice c.pa c.pl.length c.pc) := cell_of (j := 2) HA4.out rfl
      rw [HNP.out] at p2
      by_cases z1 : c.R = 0
      · have t1 : (c.R == 0) = true := by rw [z1]; rfl
        have HZ : Hid (NP = 0) := Lib.hid (HNP.out.symm.trans (HNoP.out (.inl z1)))
        clear z1
        go_wp2_with (fail)
        clear p0 p1 p2 f1 f2 f3 f4 f5 t1
        go_loopw [7, 8] (fun u a wr => ∃ i : Nat, i ≤ N ∧ u = .int .i64 i ∧ a = .int .i64 i ∧ Hid (Below w4.heap.size w4 wr)) (fun _ a _ => N - (intOf a).toNat)
        case atStart => exact ⟨0, by omega, rfl, rfl, Lib.hid (Below.refl _ _)⟩
        case round =>
          obtain ⟨i, hi, rfl, rfl, HBi⟩ := hrel
          by_cases hlt : i < N
          · have ti : decide ((i : Int) < (N : Int)) = true := decide_eq_true (by omega)
            have f9 : IntKind.i64.wrap ((i : Int) + 1) = (i : Int) + 1 := IntWalk.i64_in _ (by omega)
            go_wp2_with (fail)
            go_roundw
            case rel => exact ⟨i + 1, by omega, by go_num, by go_num, HBi⟩
            case measure => simp [intOf]; omega
          · obtain rfl : i = N := by omega
            have ti : decide ((i : Int) < (i : Int)) = false := decide_eq_false (by omega)
            go_wp2_with (fail)
            clear ti hlt hi
            go_loopw [7, 9] (fun u a wr => u = .int .i64 i ∧ a = .int .i64 0 ∧ Hid (Below w4.heap.size w4 wr)) (fun _ _ _ => 0)
            case atStart => exact ⟨rfl, rfl, HBi⟩
            case round =>
              clear HBi
              obtain ⟨rfl, rfl, HBi⟩ := hrel
              have p2 : _ = some (Value.slice c.pa c.pl.length c.pc) := cell_of (j := 2) ((HBi.out.block _ (Array.getElem?_eq_some_iff.1 HA4.out).1).trans HA4.out) rfl
              rw [HNP.out, HZ.out] at p2
              go_wp2_with (fail)
              clear p2
              go_loopw [11] (fun a wr => ∃ q : Nat, q ≤ 1001 ∧ a = .int .i64 ((q : Int) + 1) ∧ Hid (Below w4.heap.size w4 wr)) (fun a _ => i - (intOf a).toNat)
              case atStart => exact ⟨0, by omega, rfl, HBi⟩
              case round =>
                clear HBi
                obtain ⟨q, hi, rfl, HBi⟩ := hrel
                by_cases hlt : (q : Int) + 1 < (i : Int)
                · have ti : decide ((q : Int) + 1 < (i : Int)) = true := decide_eq_true hlt
                  have hlt' : q + 1 < (allE c).length := by rw [HN.out]; omega
                  obtain ⟨x, bx, ox, hx, hAx, hatx, _⟩ := (HM.out.below HBi.out).get q (by omega)
                  subst hAx
                  have hah := allE_next c hlt'
                  rw [hx.out] at hah
                  have hbx : Below wr.heap.size wr (wr.alloc (.cells x.arr 47)) := (Below.refl _ _).alloc (Nat.le_refl _) _
                  obtain ⟨wa, hwa⟩ : ∃ wa, wr.alloc (.cells x.arr 47) = wa := ⟨_, rfl⟩
                  have hBa : Below w4.heap.size w4 wa := by rw [← hwa]; exact HBi.out.trans (hbx.mono HBi.out.size)
                  obtain ⟨y, by', oy, hy, hAy, haty, _⟩ := (HM.out.below hBa).get (q + 1) hlt'
                  cases hAy
                  rw [hy.out] at hah
                  have hby : Below wa.heap.size wa (wa.alloc (.cells y.arr 47)) := (Below.refl _ _).alloc (Nat.le_refl _) _
                  obtain ⟨wb, hwb⟩ : ∃ wb, wa.alloc (.cells y.arr 47) = wb := ⟨_, rfl⟩
                  have hBb : Below w4.heap.size w4 wb := by rw [← hwb]; exact hBa.trans (hby.mono hBa.size)
                  have hXa0 : wa.heap[wr.heap.size]? = some (.cells x.arr 47 (0, 0)) := by rw [← hwa]; exact heap_alloc_new _ _
                  have hXa : wb.heap[wr.heap.size]? = some (.cells x.arr 47 (0, 0)) := by rw [← hwb]; exact (hby.block _ (Array.getElem?_eq_some_iff.1 hXa0).1).trans hXa0
                  have hXb : wb.heap[wa.heap.size]? = some (.cells y.arr 47 (0, 0)) := by rw [← hwb]; exact heap_alloc_new _ _
                  have HXa := Lib.hid hXa
                  have HXb := Lib.hid hXb
                  have HBb := Lib.hid hBb
                  have HWA := Lib.hid hwa
                  have HWB := Lib.hid hwb
                  have f1 : IntKind.i64.wrap ((q : Int) + 1 - 1) = (q : Int) := by rw [Int.add_sub_cancel]; exact IntWalk.i64_in _ (by omega)
                  have f2 : IntKind.i64.wrap ((q : Int) + 1 + 1) = (q : Int) + 1 + 1 := IntWalk.i64_in _ (by omega)
                  have u1 : (q : Int) < (i : Int) := by omega
                  have u2 : q < i := by omega
                  have u3 : q + 1 < i := by omega
                  clear hbx hwa hBa hby hwb hBb hXa0 hXa hXb hx hy hlt'
                  obtain ⟨a0, a1, a2, a3, a4, a5, a6, a7, a8, a9⟩ := x
                  obtain ⟨b0, b1, b2, b3, b4, b5, b6, b7, b8, b9⟩ := y
                  unfold ahead at hah
                  unfold Edge.arr at HXa HXb HWA HWB
                  dsimp only at hah HXa HXb HWA HWB
                  have g0 : wr.cell? ⟨bx, ox + q * 10, none⟩ = some (.int .i64 a0) := hatx 0 _ rfl
                  have g1 : wr.cell? ⟨bx, ox + q * 10 + 1, none⟩ = some (.int .i64 a1) := hatx 1 _ rfl
                  have g2 : wr.cell? ⟨bx, ox + q * 10 + 2, none⟩ = some (.bool a2) := hatx 2 _ rfl
                  have g3 : wr.cell? ⟨bx, ox + q * 10 + 3, none⟩ = some (.int .i64 a3) := hatx 3 _ rfl
                  have g4 : wr.cell? ⟨bx, ox + q * 10 + 4, none⟩ = some (.int .i64 a4) := hatx 4 _ rfl
                  have g5 : wr.cell? ⟨bx, ox + q * 10 + 5, none⟩ = some (.int .u32 a5) := hatx 5 _ rfl
                  have g6 : wr.cell? ⟨bx, ox + q * 10 + 6, none⟩ = some (.int .i64 a6) := hatx 6 _ rfl
                  have g7 : wr.cell? ⟨bx, ox + q * 10 + 7, none⟩ = some (.int .i64 a7) := hatx 7 _ rfl
                  have g8 : wr.cell? ⟨bx, ox + q * 10 + 8, none⟩ = some (.int .i64 a8) := hatx 8 _ rfl
                  have g9 : wr.cell? ⟨bx, ox + q * 10 + 9, none⟩ = some (.int .i64 a9) := hatx 9 _ rfl
                  have Q0 : Hid (wa.cell? ⟨bx, ox + (q + 1) * 10, none⟩ = some (Value.int .i64 b0)) := Lib.hid (haty 0 _ rfl)
                  have Q1 : Hid (wa.cell? ⟨bx, ox + (q + 1) * 10 + 1, none⟩ = some (Value.int .i64 b1)) := Lib.hid (haty 1 _ rfl)
                  have Q2 : Hid (wa.cell? ⟨bx, ox + (q + 1) * 10 + 2, none⟩ = some (Value.bool b2)) := Lib.hid (haty 2 _ rfl)
                  have Q3 : Hid (wa.cell? ⟨bx, ox + (q + 1) * 10 + 3, none⟩ = some (Value.int .i64 b3)) := Lib.hid (haty 3 _ rfl)
                  have Q4 : Hid (wa.cell? ⟨bx, ox + (q + 1) * 10 + 4, none⟩ = some (Value.int .i64 b4)) := Lib.hid (haty 4 _ rfl)
                  have Q5 : Hid (wa.cell? ⟨bx, ox + (q + 1) * 10 + 5, none⟩ = some (Value.int .u32 b5)) := Lib.hid (haty 5 _ rfl)
                  have Q6 : Hid (wa.cell? ⟨bx, ox + (q + 1) * 10 + 6, none⟩ = some (Value.int .i64 b6)) := Lib.hid (haty 6 _ rfl)
                  have Q7 : Hid (wa.cell? ⟨bx, ox + (q + 1) * 10 + 7, none⟩ = some (Value.int .i64 b7)) := Lib.hid (haty 7 _ rfl)
                  have Q8 : Hid (wa.cell? ⟨bx, ox + (q + 1) * 10 + 8, none⟩ = some (Value.int .i64 b8)) := Lib.hid (haty 8 _ rfl)
                  have Q9 : Hid (wa.cell? ⟨bx, ox + (q + 1) * 10 + 9, none⟩ = some (Value.int .i64 b9)) := Lib.hid (haty 9 _ rfl)
                  clear hatx haty
                  have Hah := Lib.hid hah
                  clear hah
                  go_wp2_with (first | (refine at_dst 100 rfl ?_; rw [HWA.out]; clear g0 g1 g2 g3 g4 g5 g6 g7 g8 g9; have q0 := Q0.out; have q1 := Q1.out; have q2 := Q2.out; have q3 := Q3.out; have q4 := Q4.out; have q5 := Q5.out; have q6 := Q6.out; have q7 := Q7.out; have q8 := Q8.out; have q9 := Q9.out) | (refine at_dst 102 rfl ?_; rw [HWB.out]; clear q0 q1 q2 q3 q4 q5 q6 q7 q8 q9; refine Hid.out ?_))
                  refine Lib.hid ?_
                  have hah := Hah.out
                  cases a2 with
                  | true =>
                    cases b2 with
                    | true =>
                      rcases hah with ⟨h1, h2⟩ | ⟨_, hlt2 | ⟨heq, hlt2⟩⟩
                      · cases h1 <;> cases h2
                      · have t1 : decide (b0 < a0) = false := decide_eq_false (by omega)
                        have t2 : (b0 == a0) = false := by rw [beq_eq_false_iff_ne]; omega
                        clear hlt2
                        have j0 : _ = some (Value.int .i64 a0) := cell_of (j := 0) HXa.out rfl
                        have j1 : _ = some (Value.int .i64 a1) := cell_of (j := 1) HXa.out rfl
                        have j2 : _ = some (Value.bool true) := cell_of (j := 2) HXa.out rfl
                        have k0 : _ = some (Value.int .i64 b0) := cell_of (j := 0) HXb.out rfl
                        have k1 : _ = some (Value.int .i64 b1) := cell_of (j := 1) HXb.out rfl
                        have k2 : _ = some (Value.bool true) := cell_of (j := 2) HXb.out rfl
                        go_wp2_with (fail)
                        go_roundw
                        case rel => exact ⟨q + 1, by omega, by go_num, HBb⟩
                        case measure => simp [intOf]; omega
                      · have t1 : decide (b0 < a0) = false := decide_eq_false (by omega)
                        have t2 : (b0 == a0) = true := by rw [beq_iff_eq]; omega
                        have t3 : decide (b1 ≤ a1) = false := decide_eq_false (by omega)
                        clear hlt2 heq
                        have j0 : _ = some (Value.int .i64 a0) := cell_of (j := 0) HXa.out rfl
                        have j1 : _ = some (Value.int .i64 a1) := cell_of (j := 1) HXa.out rfl
                        have j2 : _ = some (Value.bool true) := cell_of (j := 2) HXa.out rfl
                        have k0 : _ = some (Value.int .i64 b0) := cell_of (j := 0) HXb.out rfl
                        have k1 : _ = some (Value.int .i64 b1) := cell_of (j := 1) HXb.out rfl
                        have k2 : _ = some (Value.bool true) := cell_of (j := 2) HXb.out rfl
                        go_wp2_with (fail)
                        go_roundw
                        case rel => exact ⟨q + 1, by omega, by go_num, HBb⟩
                        case measure => simp [intOf]; omega
                    | false =>
                      clear hah
                      have j0 : _ = some (Value.int .i64 a0) := cell_of (j := 0) HXa.out rfl
                      have j1 : _ = some (Value.int .i64 a1) := cell_of (j := 1) HXa.out rfl
                      have j2 : _ = some (Value.bool true) := cell_of (j := 2) HXa.out rfl
                      have k0 : _ = some (Value.int .i64 b0) := cell_of (j := 0) HXb.out rfl
                      have k1 : _ = some (Value.int .i64 b1) := cell_of (j := 1) HXb.out rfl
                      have k2 : _ = some (Value.bool false) := cell_of (j := 2) HXb.out rfl
                      go_wp2_with (fail)
                      go_roundw
                      case rel => exact ⟨q + 1, by omega, by go_num, HBb⟩
                      case measure => simp [intOf]; omega
                  | false =>
                    cases b2 with
                    | true => rcases hah with ⟨h1, _⟩ | ⟨h1, _⟩ <;> cases h1
                    | false =>
                      rcases hah with ⟨h1, h2⟩ | ⟨_, hlt2 | ⟨heq, hlt2⟩⟩
                      · cases h1 <;> cases h2
                      · have t1 : decide (b0 < a0) = false := decide_eq_false (by omega)
                        have t2 : (b0 == a0) = false := by rw [beq_eq_false_iff_ne]; omega
                        clear hlt2
                        have j0 : _ = some (Value.int .i64 a0) := cell_of (j := 0) HXa.out rfl
                        have j1 : _ = some (Value.int .i64 a1) := cell_of (j := 1) HXa.out rfl
                        have j2 : _ = some (Value.bool false) := cell_of (j := 2) HXa.out rfl
                        have k0 : _ = some (Value.int .i64 b0) := cell_of (j := 0) HXb.out rfl
                        have k1 : _ = some (Value.int .i64 b1) := cell_of (j := 1) HXb.out rfl
                        have k2 : _ = some (Value.bool false) := cell_of (j := 2) HXb.out rfl
                        go_wp2_with (fail)
                        go_roundw
                        case rel => exact ⟨q + 1, by omega, by go_num, HBb⟩
                        case measure => simp [intOf]; omega
                      · have t1 : decide (b0 < a0) = false := decide_eq_false (by omega)
                        have t2 : (b0 == a0) = true := by rw [beq_iff_eq]; omega
                        have t3 : decide (b1 ≤ a1) = false := decide_eq_false (by omega)
                        clear hlt2 heq
                        have j0 : _ = some (Value.int .i64 a0) := cell_of (j := 0) HXa.out rfl
                        have j1 : _ = some (Value.int .i64 a1) := cell_of (j := 1) HXa.out rfl
                        have j2 : _ = some (Value.bool false) := cell_of (j := 2) HXa.out rfl
                        have k0 : _ = some (Value.int .i64 b0) := cell_of (j := 0) HXb.out rfl
                        have k1 : _ = some (Value.int .i64 b1) := cell_of (j := 1) HXb.out rfl
                        have k2 : _ = some (Value.bool false) := cell_of (j := 2) HXb.out rfl
                        go_wp2_with (fail)
                        go_roundw
                        case rel => exact ⟨q + 1, by omega, by go_num, HBb⟩
                        case measure => simp [intOf]; omega
                · have ti : decide ((q : Int) + 1 < (i : Int)) = false := decide_eq_false hlt
                  have tN : ((i : Int) == (i : Int)) = true := beq_self_eq_true _
                  go_wp2_with (fail)
                  go_ret
                  exact ⟨rfl, HB4.out.trans (HBi.out.mono HB4.out.size)⟩
      · have t1 : (c.R == 0) = false := by rw [beq_eq_false_iff_ne]; exact z1
        by_cases z2 : c.C = 0
        · have t2 : (c.C == 0) = true := by rw [z2]; rfl
          have HZ : Hid (NP = 0) := Lib.hid (HNP.out.symm.trans (HNoP.out (.inr z2)))
          clear z1 z2
          go_wp2_with (fail)
          clear p0 p1 p2 f1 f2 f3 f4 f5 t1 t2
          go_loopw [7, 8] (fun u a wr => ∃ i : Nat, i ≤ N ∧ u = .int .i64 i ∧ a = .int .i64 i ∧ Hid (Below w4.heap.size w4 wr)) (fun _ a _ => N - (intOf a).toNat)
          case atStart => exact ⟨0, by omega, rfl, rfl, Lib.hid (Below.refl _ _)⟩
          case round =>
            obtain ⟨i, hi, rfl, rfl, HBi⟩ := hrel
            by_cases hlt : i < N
            · have ti : decide ((i : Int) < (N : Int)) = true := decide_eq_true (by omega)
              have f9 : IntKind.i64.wrap ((i : Int) + 1) = (i : Int) + 1 := IntWalk.i64_in _ (by omega)
              go_wp2_with (fail)
              go_roundw
              case rel => exact ⟨i + 1, by omega, by go_num, by go_num, HBi⟩
              case measure => simp [intOf]; omega
            · obtain rfl : i = N := by omega
              have ti : decide ((i : Int) < (i : Int)) = false := decide_eq_false (by omega)
              go_wp2_with (fail)
              clear ti hlt hi
              go_loopw [7, 9] (fun u a wr => u = .int .i64 i ∧ a = .int .i64 0 ∧ Hid (Below w4.heap.size w4 wr)) (fun _ _ _ => 0)
              case atStart => exact ⟨rfl, rfl, HBi⟩
              case round =>
                clear HBi
                obtain ⟨rfl, rfl, HBi⟩ := hrel
                have p2 : _ = some (Value.slice c.pa c.pl.length c.pc) := cell_of (j := 2) ((HBi.out.block _ (Array.getElem?_eq_some_iff.1 HA4.out).1).trans HA4.out) rfl
                rw [HNP.out, HZ.out] at p2
                go_wp2_with (fail)
                clear p2
                go_loopw [11] (fun a wr => ∃ q : Nat, q ≤ 1001 ∧ a = .int .i64 ((q : Int) + 1) ∧ Hid (Below w4.heap.size w4 wr)) (fun a _ => i - (intOf a).toNat)
                case atStart => exact ⟨0, by omega, rfl, HBi⟩
                case round =>
                  clear HBi
                  obtain ⟨q, hi, rfl, HBi⟩ := hrel
                  by_cases hlt : (q : Int) + 1 < (i : Int)
                  · have ti : decide ((q : Int) + 1 < (i : Int)) = true := decide_eq_true hlt
                    have hlt' : q + 1 < (allE c).length := by rw [HN.out]; omega
                    obtain ⟨x, bx, ox, hx, hAx, hatx, _⟩ := (HM.out.below HBi.out).get q (by omega)
                    subst hAx
                    have hah := allE_next c hlt'
                    rw [hx.out] at hah
                    have hbx : Below wr.heap.size wr (wr.alloc (.cells x.arr 47)) := (Below.refl _ _).alloc (Nat.le_refl _) _
                    obtain ⟨wa, hwa⟩ : ∃ wa, wr.alloc (.cells x.arr 47) = wa := ⟨_, rfl⟩
                    have hBa : Below w4.heap.size w4 wa := by rw [← hwa]; exact HBi.out.trans (hbx.mono HBi.out.size)
                    obtain ⟨y, by', oy, hy, hAy, haty, _⟩ := (HM.out.below hBa).get (q + 1) hlt'
                    cases hAy
                    rw [hy.out] at hah
                    have hby : Below wa.heap.size wa (wa.alloc (.cells y.arr 47)) := (Below.refl _ _).alloc (Nat.le_refl _) _
                    obtain ⟨wb, hwb⟩ : ∃ wb, wa.alloc (.cells y.arr 47) = wb := ⟨_, rfl⟩
                    have hBb : Below w4.heap.size w4 wb := by rw [← hwb]; exact hBa.trans (hby.mono hBa.size)
                    have hXa0 : wa.heap[wr.heap.size]? = some (.cells x.arr 47 (0, 0)) := by rw [← hwa]; exact heap_alloc_new _ _
                    have hXa : wb.heap[wr.heap.size]? = some (.cells x.arr 47 (0, 0)) := by rw [← hwb]; exact (hby.block _ (Array.getElem?_eq_some_iff.1 hXa0).1).trans hXa0
                    have hXb : wb.heap[wa.heap.size]? = some (.cells y.arr 47 (0, 0)) := by rw [← hwb]; exact heap_alloc_new _ _
                    have HXa := Lib.hid hXa
                    have HXb := Lib.hid hXb
                    have HBb := Lib.hid hBb
                    have HWA := Lib.hid hwa
                    have HWB := Lib.hid hwb
                    have f1 : IntKind.i64.wrap ((q : Int) + 1 - 1) = (q : Int) := by rw [Int.add_sub_cancel]; exact IntWalk.i64_in _ (by omega)
                    have f2 : IntKind.i64.wrap ((q : Int) + 1 + 1) = (q : Int) + 1 + 1 := IntWalk.i64_in _ (by omega)
                    have u1 : (q : Int) < (i : Int) := by omega
                    have u2 : q < i := by omega
                    have u3 : q + 1 < i := by omega
                    clear hbx hwa hBa hby hwb hBb hXa0 hXa hXb hx hy hlt'
                    obtain ⟨a0, a1, a2, a3, a4, a5, a6, a7, a8, a9⟩ := x
                    obtain ⟨b0, b1, b2, b3, b4, b5, b6, b7, b8, b9⟩ := y
                    unfold ahead at hah
                    unfold Edge.arr at HXa HXb HWA HWB
                    dsimp only at hah HXa HXb HWA HWB
                    have g0 : wr.cell? ⟨bx, ox + q * 10, none⟩ = some (.int .i64 a0) := hatx 0 _ rfl
                    have g1 : wr.cell? ⟨bx, ox + q * 10 + 1, none⟩ = some (.int .i64 a1) := hatx 1 _ rfl
                    have g2 : wr.cell? ⟨bx, ox + q * 10 + 2, none⟩ = some (.bool a2) := hatx 2 _ rfl
                    have g3 : wr.cell? ⟨bx, ox + q * 10 + 3, none⟩ = some (.int .i64 a3) := hatx 3 _ rfl
                    have g4 : wr.cell? ⟨bx, ox + q * 10 + 4, none⟩ = some (.int .i64 a4) := hatx 4 _ rfl
                    have g5 : wr.cell? ⟨bx, ox + q * 10 + 5, none⟩ = some (.int .u32 a5) := hatx 5 _ rfl
                    have g6 : wr.cell? ⟨bx, ox + q * 10 + 6, none⟩ = some (.int .i64 a6) := hatx 6 _ rfl
                    have g7 : wr.cell? ⟨bx, ox + q * 10 + 7, none⟩ = some (.int .i64 a7) := hatx 7 _ rfl
                    have g8 : wr.cell? ⟨bx, ox + q * 10 + 8, none⟩ = some (.int .i64 a8) := hatx 8 _ rfl
                    have g9 : wr.cell? ⟨bx, ox + q * 10 + 9, none⟩ = some (.int .i64 a9) := hatx 9 _ rfl
                    have Q0 : Hid (wa.cell? ⟨bx, ox + (q + 1) * 10, none⟩ = some (Value.int .i64 b0)) := Lib.hid (haty 0 _ rfl)
                    have Q1 : Hid (wa.cell? ⟨bx, ox + (q + 1) * 10 + 1, none⟩ = some (Value.int .i64 b1)) := Lib.hid (haty 1 _ rfl)
                    have Q2 : Hid (wa.cell? ⟨bx, ox + (q + 1) * 10 + 2, none⟩ = some (Value.bool b2)) := Lib.hid (haty 2 _ rfl)
                    have Q3 : Hid (wa.cell? ⟨bx, ox + (q + 1) * 10 + 3, none⟩ = some (Value.int .i64 b3)) := Lib.hid (haty 3 _ rfl)
                    have Q4 : Hid (wa.cell? ⟨bx, ox + (q + 1) * 10 + 4, none⟩ = some (Value.int .i64 b4)) := Lib.hid (haty 4 _ rfl)
                    have Q5 : Hid (wa.cell? ⟨bx, ox + (q + 1) * 10 + 5, none⟩ = some (Value.int .u32 b5)) := Lib.hid (haty 5 _ rfl)
                    have Q6 : Hid (wa.cell? ⟨bx, ox + (q + 1) * 10 + 6, none⟩ = some (Value.int .i64 b6)) := Lib.hid (haty 6 _ rfl)
                    have Q7 : Hid (wa.cell? ⟨bx, ox + (q + 1) * 10 + 7, none⟩ = some (Value.int .i64 b7)) := Lib.hid (haty 7 _ rfl)
                    have Q8 : Hid (wa.cell? ⟨bx, ox + (q + 1) * 10 + 8, none⟩ = some (Value.int .i64 b8)) := Lib.hid (haty 8 _ rfl)
                    have Q9 : Hid (wa.cell? ⟨bx, ox + (q + 1) * 10 + 9, none⟩ = some (Value.int .i64 b9)) := Lib.hid (haty 9 _ rfl)
                    clear hatx haty
                    have Hah := Lib.hid hah
                    clear hah
                    go_wp2_with (first | (refine at_dst 100 rfl ?_; rw [HWA.out]; clear g0 g1 g2 g3 g4 g5 g6 g7 g8 g9; have q0 := Q0.out; have q1 := Q1.out; have q2 := Q2.out; have q3 := Q3.out; have q4 := Q4.out; have q5 := Q5.out; have q6 := Q6.out; have q7 := Q7.out; have q8 := Q8.out; have q9 := Q9.out) | (refine at_dst 102 rfl ?_; rw [HWB.out]; clear q0 q1 q2 q3 q4 q5 q6 q7 q8 q9; refine Hid.out ?_))
                    refine Lib.hid ?_
                    have hah := Hah.out
                    cases a2 with
                    | true =>
                      cases b2 with
                      | true =>
                        rcases hah with ⟨h1, h2⟩ | ⟨_, hlt2 | ⟨heq, hlt2⟩⟩
                        · cases h1 <;> cases h2
                        · have t1 : decide (b0 < a0) = false := decide_eq_false (by omega)
                          have t2 : (b0 == a0) = false := by rw [beq_eq_false_iff_ne]; omega
                          clear hlt2
                          have j0 : _ = some (Value.int .i64 a0) := cell_of (j := 0) HXa.out rfl
                          have j1 : _ = some (Value.int .i64 a1) := cell_of (j := 1) HXa.out rfl
                          have j2 : _ = some (Value.bool true) := cell_of (j := 2) HXa.out rfl
                          have k0 : _ = some (Value.int .i64 b0) := cell_of (j := 0) HXb.out rfl
                          have k1 : _ = some (Value.int .i64 b1) := cell_of (j := 1) HXb.out rfl
                          have k2 : _ = some (Value.bool true) := cell_of (j := 2) HXb.out rfl
                          go_wp2_with (fail)
                          go_roundw
                          case rel => exact ⟨q + 1, by omega, by go_num, HBb⟩
                          case measure => simp [intOf]; omega
                        · have t1 : decide (b0 < a0) = false := decide_eq_false (by omega)
                          have t2 : (b0 == a0) = true := by rw [beq_iff_eq]; omega
                          have t3 : decide (b1 ≤ a1) = false := decide_eq_false (by omega)
                          clear hlt2 heq
                          have j0 : _ = some (Value.int .i64 a0) := cell_of (j := 0) HXa.out rfl
                          have j1 : _ = some (Value.int .i64 a1) := cell_of (j := 1) HXa.out rfl
                          have j2 : _ = some (Value.bool true) := cell_of (j := 2) HXa.out rfl
                          have k0 : _ = some (Value.int .i64 b0) := cell_of (j := 0) HXb.out rfl
                          have k1 : _ = some (Value.int .i64 b1) := cell_of (j := 1) HXb.out rfl
                          have k2 : _ = some (Value.bool true) := cell_of (j := 2) HXb.out rfl
                          go_wp2_with (fail)
                          go_roundw
                          case rel => exact ⟨q + 1, by omega, by go_num, HBb⟩
                          case measure => simp [intOf]; omega
                      | false =>
                        clear hah
                        have j0 : _ = some (Value.int .i64 a0) := cell_of (j := 0) HXa.out rfl
                        have j1 : _ = some (Value.int .i64 a1) := cell_of (j := 1) HXa.out rfl
                        have j2 : _ = some (Value.bool true) := cell_of (j := 2) HXa.out rfl
                        have k0 : _ = some (Value.int .i64 b0) := cell_of (j := 0) HXb.out rfl
                        have k1 : _ = some (Value.int .i64 b1) := cell_of (j := 1) HXb.out rfl
                        have k2 : _ = some (Value.bool false) := cell_of (j := 2) HXb.out rfl
                        go_wp2_with (fail)
                        go_roundw
                        case rel => exact ⟨q + 1, by omega, by go_num, HBb⟩
                        case measure => simp [intOf]; omega
                    | false =>
                      cases b2 with
                      | true => rcases hah with ⟨h1, _⟩ | ⟨h1, _⟩ <;> cases h1
                      | false =>
                        rcases hah with ⟨h1, h2⟩ | ⟨_, hlt2 | ⟨heq, hlt2⟩⟩
                        · cases h1 <;> cases h2
                        · have t1 : decide (b0 < a0) = false := decide_eq_false (by omega)
                          have t2 : (b0 == a0) = false := by rw [beq_eq_false_iff_ne]; omega
                          clear hlt2
                          have j0 : _ = some (Value.int .i64 a0) := cell_of (j := 0) HXa.out rfl
                          have j1 : _ = some (Value.int .i64 a1) := cell_of (j := 1) HXa.out rfl
                          have j2 : _ = some (Value.bool false) := cell_of (j := 2) HXa.out rfl
                          have k0 : _ = some (Value.int .i64 b0) := cell_of (j := 0) HXb.out rfl
                          have k1 : _ = some (Value.int .i64 b1) := cell_of (j := 1) HXb.out rfl
                          have k2 : _ = some (Value.bool false) := cell_of (j := 2) HXb.out rfl
                          go_wp2_with (fail)
                          go_roundw
                          case rel => exact ⟨q + 1, by omega, by go_num, HBb⟩
                          case measure => simp [intOf]; omega
                        · have t1 : decide (b0 < a0) = false := decide_eq_false (by omega)
                          have t2 : (b0 == a0) = true := by rw [beq_iff_eq]; omega
                          have t3 : decide (b1 ≤ a1) = false := decide_eq_false (by omega)
                          clear hlt2 heq
                          have j0 : _ = some (Value.int .i64 a0) := cell_of (j := 0) HXa.out rfl
                          have j1 : _ = some (Value.int .i64 a1) := cell_of (j := 1) HXa.out rfl
                          have j2 : _ = some (Value.bool false) := cell_of (j := 2) HXa.out rfl
                          have k0 : _ = some (Value.int .i64 b0) := cell_of (j := 0) HXb.out rfl
                          have k1 : _ = some (Value.int .i64 b1) := cell_of (j := 1) HXb.out rfl
                          have k2 : _ = some (Value.bool false) := cell_of (j := 2) HXb.out rfl
                          go_wp2_with (fail)
                          go_roundw
                          case rel => exact ⟨q + 1, by omega, by go_num, HBb⟩
                          case measure => simp [intOf]; omega
                  · have ti : decide ((q : Int) + 1 < (i : Int)) = false := decide_eq_false hlt
                    have tN : ((i : Int) == (i : Int)) = true := beq_self_eq_true _
                    go_wp2_with (fail)
                    go_ret
                    exact ⟨rfl, HB4.out.trans (HBi.out.mono HB4.out.size)⟩
        · have t2 : (c.C == 0) = false := by rw [beq_eq_false_iff_ne]; exact z2
          clear z1 z2
          go_wp2_with (fail)
          clear p0 p1 p2 f1 f2 f3 f4 f5 t1 t2
          go_loopw [7, 9] (fun u a wr => ∃ j : Nat, j ≤ NP ∧ u = .int .i64 (c.R * (c.C + 1) + c.C * (c.R + 1) - lossTo c j) ∧ a = .int .i64 j ∧ Hid (Below w4.heap.size w4 wr)) (fun _ a _ => NP - (intOf a).toNat)
          case atStart => exact ⟨0, by omega, by simp [lossTo], rfl, Lib.hid (Below.refl _ _)⟩
          case round =>
            obtain ⟨j, hj, rfl, rfl, HBi⟩ := hrel
            have p2 : _ = some (Value.slice c.pa c.pl.length c.pc) := cell_of (j := 2) ((HBi.out.block _ (Array.getElem?_eq_some_iff.1 HA4.out).1).trans HA4.out) rfl
            rw [HNP.out] at p2
            by_cases hlt : j < NP
            · have ti : decide ((j : Int) < (NP : Int)) = true := decide_eq_true (by omega)
              have hjl : j < c.pl.length := by rw [HNP.out]; exact hlt
              obtain ⟨p, bb, off, hpk, hAd, hat, _⟩ := (HI.out.p.below (HB4.out.trans (HBi.out.mono HB4.out.size))).get j hjl
              rw [hAd] at p2
              have hin := HPL.out j hjl
              have hls := lossTo_succ c hjl
              have hlb := HLB.out j (by omega)
              have hlb2 := HLB.out (j + 1) (by omega)
              rw [hpk.out] at hin hls
              have h8 := HRC8.out
              have h0 := HN0.out
              obtain ⟨p0, p1, p2', p3, p4⟩ := p
              unfold loss at hls
              dsimp only at hin hls
              have m1 := mul8 (a := p3) (b := p4 - 1) (by omega) (by omega) (by omega) (by omega)
              have m2 := mul8 (a := p4) (b := p3 - 1) (by omega) (by omega) (by omega) (by omega)
              obtain ⟨n0, hn0⟩ : ∃ n, c.R * (c.C + 1) + c.C * (c.R + 1) = n := ⟨_, rfl⟩
              rw [hn0] at h0
              have f1 : IntKind.i64.wrap (p4 - 1) = p4 - 1 := IntWalk.i64_in _ (by omega)
              have f2 : IntKind.i64.wrap (p3 - 1) = p3 - 1 := IntWalk.i64_in _ (by omega)
              have f3 : IntKind.i64.wrap (p3 * (p4 - 1)) = p3 * (p4 - 1) := IntWalk.i64_in _ (by omega)
              have f4 : IntKind.i64.wrap (p4 * (p3 - 1)) = p4 * (p3 - 1) := IntWalk.i64_in _ (by omega)
              have f5 : IntKind.i64.wrap (n0 - lossTo c j - p3 * (p4 - 1)) = n0 - lossTo c j - p3 * (p4 - 1) := IntWalk.i64_in _ (by omega)
              have f6 : IntKind.i64.wrap (n0 - lossTo c j - p3 * (p4 - 1) - p4 * (p3 - 1)) = n0 - lossTo c j - p3 * (p4 - 1) - p4 * (p3 - 1) := IntWalk.i64_in _ (by omega)
              have f9 : IntKind.i64.wrap ((j : Int) + 1) = (j : Int) + 1 := IntWalk.i64_in _ (by omega)
              have Hls := Lib.hid hls
              rw [hn0]
              have Hn0 := Lib.hid hn0
              have hba : Below wr.heap.size wr (wr.alloc (.cells #[.int .i64 p0, .int .i64 p1, .int .i64 p2', .int .i64 p3, .int .i64 p4] 43)) := (Below.refl _ _).alloc (Nat.le_refl _) _
              have HB5 := Lib.hid (HBi.out.trans (hba.mono HBi.out.size))
              have g0 : wr.cell? ⟨bb, off + j * 5, none⟩ = some (.int .i64 p0) := hat 0 _ rfl
              have g1 : wr.cell? ⟨bb, off + j * 5 + 1, none⟩ = some (.int .i64 p1) := hat 1 _ rfl
              have g2 : wr.cell? ⟨bb, off + j * 5 + 2, none⟩ = some (.int .i64 p2') := hat 2 _ rfl
              have g3 : wr.cell? ⟨bb, off + j * 5 + 3, none⟩ = some (.int .i64 p3) := hat 3 _ rfl
              have g4 : wr.cell? ⟨bb, off + j * 5 + 4, none⟩ = some (.int .i64 p4) := hat 4 _ rfl
              clear hat hba hls hn0 m1 m2 h0 h8 hlb hlb2 hin hpk hAd
              go_wp2_with (fail)
              go_roundw
              case rel => exact ⟨j + 1, by omega, by rw [Hls.out]; congr 1; omega, by go_num, HB5⟩
              case measure => simp [intOf]; omega
            · obtain rfl : j = NP := by omega
              have ti : decide ((j : Int) < (j : Int)) = false := decide_eq_false (by omega)
              rw [← HCT.out]
              go_wp2_with (fail)
              clear p2 ti
              go_loopw [11] (fun a wr => ∃ q : Nat, q ≤ 1001 ∧ a = .int .i64 ((q : Int) + 1) ∧ Hid (Below w4.heap.size w4 wr)) (fun a _ => N - (intOf a).toNat)
              case atStart => exact ⟨0, by omega, rfl, HBi⟩
              case round =>
                clear HBi
                obtain ⟨q, hi, rfl, HBi⟩ := hrel
                by_cases hlt : (q : Int) + 1 < (N : Int)
                · have ti : decide ((q : Int) + 1 < (N : Int)) = true := decide_eq_true hlt
                  have hlt' : q + 1 < (allE c).length := by rw [HN.out]; omega
                  obtain ⟨x, bx, ox, hx, hAx, hatx, _⟩ := (HM.out.below HBi.out).get q (by omega)
                  subst hAx
                  have hah := allE_next c hlt'
                  rw [hx.out] at hah
                  have hbx : Below wr.heap.size wr (wr.alloc (.cells x.arr 47)) := (Below.refl _ _).alloc (Nat.le_refl _) _
                  obtain ⟨wa, hwa⟩ : ∃ wa, wr.alloc (.cells x.arr 47) = wa := ⟨_, rfl⟩
                  have hBa : Below w4.heap.size w4 wa := by rw [← hwa]; exact HBi.out.trans (hbx.mono HBi.out.size)
                  obtain ⟨y, by', oy, hy, hAy, haty, _⟩ := (HM.out.below hBa).get (q + 1) hlt'
                  cases hAy
                  rw [hy.out] at hah
                  have hby : Below wa.heap.size wa (wa.alloc (.cells y.arr 47)) := (Below.refl _ _).alloc (Nat.le_refl _) _
                  obtain ⟨wb, hwb⟩ : ∃ wb, wa.alloc (.cells y.arr 47) = wb := ⟨_, rfl⟩
                  have hBb : Below w4.heap.size w4 wb := by rw [← hwb]; exact hBa.trans (hby.mono hBa.size)
                  have hXa0 : wa.heap[wr.heap.size]? = some (.cells x.arr 47 (0, 0)) := by rw [← hwa]; exact heap_alloc_new _ _
                  have hXa : wb.heap[wr.heap.size]? = some (.cells x.arr 47 (0, 0)) := by rw [← hwb]; exact (hby.block _ (Array.getElem?_eq_some_iff.1 hXa0).1).trans hXa0
                  have hXb : wb.heap[wa.heap.size]? = some (.cells y.arr 47 (0, 0)) := by rw [← hwb]; exact heap_alloc_new _ _
                  have HXa := Lib.hid hXa
                  have HXb := Lib.hid hXb
                  have HBb := Lib.hid hBb
                  have HWA := Lib.hid hwa
                  have HWB := Lib.hid hwb
                  have f1 : IntKind.i64.wrap ((q : Int) + 1 - 1) = (q : Int) := by rw [Int.add_sub_cancel]; exact IntWalk.i64_in _ (by omega)
                  have f2 : IntKind.i64.wrap ((q : Int) + 1 + 1) = (q : Int) + 1 + 1 := IntWalk.i64_in _ (by omega)
                  have u1 : (q : Int) < (N : Int) := by omega
                  have u2 : q < N := by omega
                  have u3 : q + 1 < N := by omega
                  clear hbx hwa hBa hby hwb hBb hXa0 hXa hXb hx hy hlt'
                  obtain ⟨a0, a1, a2, a3, a4, a5, a6, a7, a8, a9⟩ := x
                  obtain ⟨b0, b1, b2, b3, b4, b5, b6, b7, b8, b9⟩ := y
                  unfold ahead at hah
                  unfold Edge.arr at HXa HXb HWA HWB
                  dsimp only at hah HXa HXb HWA HWB
                  have g0 : wr.cell? ⟨bx, ox + q * 10, none⟩ = some (.int .i64 a0) := hatx 0 _ rfl
                  have g1 : wr.cell? ⟨bx, ox + q * 10 + 1, none⟩ = some (.int .i64 a1) := hatx 1 _ rfl
                  have g2 : wr.cell? ⟨bx, ox + q * 10 + 2, none⟩ = some (.bool a2) := hatx 2 _ rfl
                  have g3 : wr.cell? ⟨bx, ox + q * 10 + 3, none⟩ = some (.int .i64 a3) := hatx 3 _ rfl
                  have g4 : wr.cell? ⟨bx, ox + q * 10 + 4, none⟩ = some (.int .i64 a4) := hatx 4 _ rfl
                  have g5 : wr.cell? ⟨bx, ox + q * 10 + 5, none⟩ = some (.int .u32 a5) := hatx 5 _ rfl
                  have g6 : wr.cell? ⟨bx, ox + q * 10 + 6, none⟩ = some (.int .i64 a6) := hatx 6 _ rfl
                  have g7 : wr.cell? ⟨bx, ox + q * 10 + 7, none⟩ = some (.int .i64 a7) := hatx 7 _ rfl
                  have g8 : wr.cell? ⟨bx, ox + q * 10 + 8, none⟩ = some (.int .i64 a8) := hatx 8 _ rfl
                  have g9 : wr.cell? ⟨bx, ox + q * 10 + 9, none⟩ = some (.int .i64 a9) := hatx 9 _ rfl
                  have Q0 : Hid (wa.cell? ⟨bx, ox + (q + 1) * 10, none⟩ = some (Value.int .i64 b0)) := Lib.hid (haty 0 _ rfl)
                  have Q1 : Hid (wa.cell? ⟨bx, ox + (q + 1) * 10 + 1, none⟩ = some (Value.int .i64 b1)) := Lib.hid (haty 1 _ rfl)
                  have Q2 : Hid (wa.cell? ⟨bx, ox + (q + 1) * 10 + 2, none⟩ = some (Value.bool b2)) := Lib.hid (haty 2 _ rfl)
                  have Q3 : Hid (wa.cell? ⟨bx, ox + (q + 1) * 10 + 3, none⟩ = some (Value.int .i64 b3)) := Lib.hid (haty 3 _ rfl)
                  have Q4 : Hid (wa.cell? ⟨bx, ox + (q + 1) * 10 + 4, none⟩ = some (Value.int .i64 b4)) := Lib.hid (haty 4 _ rfl)
                  have Q5 : Hid (wa.cell? ⟨bx, ox + (q + 1) * 10 + 5, none⟩ = some (Value.int .u32 b5)) := Lib.hid (haty 5 _ rfl)
                  have Q6 : Hid (wa.cell? ⟨bx, ox + (q + 1) * 10 + 6, none⟩ = some (Value.int .i64 b6)) := Lib.hid (haty 6 _ rfl)
                  have Q7 : Hid (wa.cell? ⟨bx, ox + (q + 1) * 10 + 7, none⟩ = some (Value.int .i64 b7)) := Lib.hid (haty 7 _ rfl)
                  have Q8 : Hid (wa.cell? ⟨bx, ox + (q + 1) * 10 + 8, none⟩ = some (Value.int .i64 b8)) := Lib.hid (haty 8 _ rfl)
                  have Q9 : Hid (wa.cell? ⟨bx, ox + (q + 1) * 10 + 9, none⟩ = some (Value.int .i64 b9)) := Lib.hid (haty 9 _ rfl)
                  clear hatx haty
                  have Hah := Lib.hid hah
                  clear hah
                  go_wp2_with (first | (refine at_dst 100 rfl ?_; rw [HWA.out]; clear g0 g1 g2 g3 g4 g5 g6 g7 g8 g9; have q0 := Q0.out; have q1 := Q1.out; have q2 := Q2.out; have q3 := Q3.out; have q4 := Q4.out; have q5 := Q5.out; have q6 := Q6.out; have q7 := Q7.out; have q8 := Q8.out; have q9 := Q9.out) | (refine at_dst 102 rfl ?_; rw [HWB.out]; clear q0 q1 q2 q3 q4 q5 q6 q7 q8 q9; refine Hid.out ?_))
                  refine Lib.hid ?_
                  have hah := Hah.out
                  cases a2 with
                  | true =>
                    cases b2 with
                    | true =>
                      rcases hah with ⟨h1, h2⟩ | ⟨_, hlt2 | ⟨heq, hlt2⟩⟩
                      · cases h1 <;> cases h2
                      · have t1 : decide (b0 < a0) = false := decide_eq_false (by omega)
                        have t2 : (b0 == a0) = false := by rw [beq_eq_false_iff_ne]; omega
                        clear hlt2
                        have j0 : _ = some (Value.int .i64 a0) := cell_of (j := 0) HXa.out rfl
                        have j1 : _ = some (Value.int .i64 a1) := cell_of (j := 1) HXa.out rfl
                        have j2 : _ = some (Value.bool true) := cell_of (j := 2) HXa.out rfl
                        have k0 : _ = some (Value.int .i64 b0) := cell_of (j := 0) HXb.out rfl
                        have k1 : _ = some (Value.int .i64 b1) := cell_of (j := 1) HXb.out rfl
                        have k2 : _ = some (Value.bool true) := cell_of (j := 2) HXb.out rfl
                        go_wp2_with (fail)
                        go_roundw
                        case rel => exact ⟨q + 1, by omega, by go_num, HBb⟩
                        case measure => simp [intOf]; omega
                      · have t1 : decide (b0 < a0) = false := decide_eq_false (by omega)
                        have t2 : (b0 == a0) = true := by rw [beq_iff_eq]; omega
                        have t3 : decide (b1 ≤ a1) = false := decide_eq_false (by omega)
                        clear hlt2 heq
                        have j0 : _ = some (Value.int .i64 a0) := cell_of (j := 0) HXa.out rfl
                        have j1 : _ = some (Value.int .i64 a1) := cell_of (j := 1) HXa.out rfl
                        have j2 : _ = some (Value.bool true) := cell_of (j := 2) HXa.out rfl
                        have k0 : _ = some (Value.int .i64 b0) := cell_of (j := 0) HXb.out rfl
                        have k1 : _ = some (Value.int .i64 b1) := cell_of (j := 1) HXb.out rfl
                        have k2 : _ = some (Value.bool true) := cell_of (j := 2) HXb.out rfl
                        go_wp2_with (fail)
                        go_roundw
                        case rel => exact ⟨q + 1, by omega, by go_num, HBb⟩
                        case measure => simp [intOf]; omega
                    | false =>
                      clear hah
                      have j0 : _ = some (Value.int .i64 a0) := cell_of (j := 0) HXa.out rfl
                      have j1 : _ = some (Value.int .i64 a1) := cell_of (j := 1) HXa.out rfl
                      have j2 : _ = some (Value.bool true) := cell_of (j := 2) HXa.out rfl
                      have k0 : _ = some (Value.int .i64 b0) := cell_of (j := 0) HXb.out rfl
                      have k1 : _ = some (Value.int .i64 b1) := cell_of (j := 1) HXb.out rfl
                      have k2 : _ = some (Value.bool false) := cell_of (j := 2) HXb.out rfl
                      go_wp2_with (fail)
                      go_roundw
                      case rel => exact ⟨q + 1, by omega, by go_num, HBb⟩
                      case measure => simp [intOf]; omega
                  | false =>
                    cases b2 with
                    | true => rcases hah with ⟨h1, _⟩ | ⟨h1, _⟩ <;> cases h1
                    | false =>
                      rcases hah with ⟨h1, h2⟩ | ⟨_, hlt2 | ⟨heq, hlt2⟩⟩
                      · cases h1 <;> cases h2
                      · have t1 : decide (b0 < a0) = false := decide_eq_false (by omega)
                        have t2 : (b0 == a0) = false := by rw [beq_eq_false_iff_ne]; omega
                        clear hlt2
                        have j0 : _ = some (Value.int .i64 a0) := cell_of (j := 0) HXa.out rfl
                        have j1 : _ = some (Value.int .i64 a1) := cell_of (j := 1) HXa.out rfl
                        have j2 : _ = some (Value.bool false) := cell_of (j := 2) HXa.out rfl
                        have k0 : _ = some (Value.int .i64 b0) := cell_of (j := 0) HXb.out rfl
                        have k1 : _ = some (Value.int .i64 b1) := cell_of (j := 1) HXb.out rfl
                        have k2 : _ = some (Value.bool false) := cell_of (j := 2) HXb.out rfl
                        go_wp2_with (fail)
                        go_roundw
                        case rel => exact ⟨q + 1, by omega, by go_num, HBb⟩
                        case measure => simp [intOf]; omega
                      · have t1 : decide (b0 < a0) = false := decide_eq_false (by omega)
                        have t2 : (b0 == a0) = true := by rw [beq_iff_eq]; omega
                        have t3 : decide (b1 ≤ a1) = false := decide_eq_false (by omega)
                        clear hlt2 heq
                        have j0 : _ = some (Value.int .i64 a0) := cell_of (j := 0) HXa.out rfl
                        have j1 : _ = some (Value.int .i64 a1) := cell_of (j := 1) HXa.out rfl
                        have j2 : _ = some (Value.bool false) := cell_of (j := 2) HXa.out rfl
                        have k0 : _ = some (Value.int .i64 b0) := cell_of (j := 0) HXb.out rfl
                        have k1 : _ = some (Value.int .i64 b1) := cell_of (j := 1) HXb.out rfl
                        have k2 : _ = some (Value.bool false) := cell_of (j := 2) HXb.out rfl
                        go_wp2_with (fail)
                        go_roundw
                        case rel => exact ⟨q + 1, by omega, by go_num, HBb⟩
                        case measure => simp [intOf]; omega
                · have ti : decide ((q : Int) + 1 < (N : Int)) = false := decide_eq_false hlt
                  have tN : ((N : Int) == (N : Int)) = true := beq_self_eq_true _
                  go_wp2_with (fail)
                  go_ret
                  exact ⟨rfl, HB4.out.trans (HBi.out.mono HB4.out.size)⟩
end Go.Proofs.Ytmlcjiabnmdfeaa
