/- The walk of CollapseTable. -/
import Derived.Test.YtmlcjiabnmdfeaaAT
import Derived.Test.YtmlcjiabnmdfeaaAC
namespace Go.Proofs.Ytmlcjiabnmdfeaa
open Go Go.RowKit Go.Shelf CT
set_option linter.unusedVariables false

theorem build30t (n m : Int) (t : L4) (W : World) : (Instr.build 30 #[(0, .int .i64 n), (1, .int .i64 m), (8, .agg t.arr)]).run Try.prog W = .ok (.agg (tabF n m t).arr) W := by
  kernel_rfl
theorem exec_build3 {P : Program} {o : Oper} {w : World} {ρ : Operand → Value} {t i0 i1 i2 : Nat} {x0 x1 x2 : Operand} {v0 v1 v2 : Value} {cs : Array Value} (ho : o.op = .build t #[(i0, x0), (i1, x1), (i2, x2)]) (h0 : ρ x0 = v0) (h1 : ρ x1 = v1) (h2 : ρ x2 = v2)
    (hb : (Instr.build t #[(i0, v0), (i1, v1), (i2, v2)]).run P w = .ok (.agg cs) w) : (execOp ρ o).run P w = .ok (.value (.agg cs)) w := by
  subst h0 h1 h2
  unfold execOp
  simp only [ho, List.map_toArray, List.map_cons, List.map_nil, Sem.run_bind, Sem.run_pure, Result.andThen_ok, hb]
theorem tabF_in (n m : Int) (t : L4) (W : World) : (tabF n m t).In W := ⟨GR.Many.nil _ _, GR.Many.nil _ _, GR.Many.nil _ _, GR.Many.nil _ _, GR.Many.nil _ _, GR.Many.nil _ _, by simp [tabF]⟩
theorem tabF_wf {n m : Int} {t : L4} (h : t.wf) : (tabF n m t).wf := ⟨fun q hq => (by cases hq), h, fun r hr => (by cases hr), fun r hr => (by cases hr), fun r hr => (by cases hr), fun r hr => (by cases hr)⟩
theorem size28 (t : L4) : (Try.prog.info? 28).map (·.size) = some t.arr.size := by
  have h : (Try.prog.info? 28).map (·.size) = some 12 := by kernel_rfl
  exact h
theorem wpList_load_if {P : Program} {ops : Array Oper} {Q : Exit → Act → World → Prop} {o : Oper} {rest : List Oper} {a : Act} {w : World} {x : Operand} {ty t B : Nat} {cs : Array Value} {fr : Nat × Nat} (d : TypeDesc) (hgd : Region.wanted o (yielded ops a.tmps) = true) (ho : o.op = .load ty x) (hx : a.eval x = .pointer (some ⟨B, 0, none⟩)) (hg : w.heap[B]? = some (.cells cs t fr))
    (hu : P.underlying ty = some d) (hd : (match d with | .struct _ | .array _ _ => true | _ => false) = true) (hi : (P.info? ty).map (·.size) = some cs.size)
    (h : wpList P ops Q rest (a.put o.dst (.agg cs)) w) : wpList P ops Q (o :: rest) a w :=
  wpList_step fun K hK => by
    simp only [hgd, if_true]
    unfold Oper.wp
    rw [exec_load d ho hx hg hu hd hi]
    exact hK _ _ h
theorem alloc_setRow {W : World} {n : Nat} (h : W.heap.size = n) (o : Array Value) (c : Array Value) (t : TypeId) : (W.alloc (.cells o t)).setRow n c = W.alloc (.cells c t) := by
  rw [← h]; exact World.setRow_alloc_new ..

theorem size45 (a b c d e f : Value) : (Try.prog.info? 45).map (·.size) = some (#[a, b, c, d, e, f] : Array Value).size := by
  have h : (Try.prog.info? 45).map (·.size) = some 6 := by kernel_rfl
  exact h
theorem two_below {w3 wr : World} (h : w3.heap.size ≤ wr.heap.size) (a b : Obj) : Below w3.heap.size wr ((wr.alloc a).alloc b) := ((Below.refl _ wr).alloc h _).alloc (by simp; omega) _
theorem okFr_tab {n m : Int} {t : L4} (h : okFr (tabF n m t) = true) : wrongL t.lines = false := by
  unfold okFr at h
  rw [Bool.and_eq_true, Bool.and_eq_true, Bool.and_eq_true] at h
  simpa [tabF] using h.2.2.1
theorem allE_len (f : Fr) (hC : f.C ≤ 8) (hR : f.R ≤ 8) : (allE f).length ≤ 1000 := by
  unfold allE
  rw [List.length_append]
  have := lieAll_len f hC (f.R.toNat + 1)
  have := standAll_len f hC f.R.toNat
  omega

set_option maxRecDepth 100000 in
set_option maxHeartbeats 16000000 in
theorem table_walk (n m : Int) (t : L4) (w : World) (ht : t.wf) : Calls Try.prog 6 #[.int .i64 n, .int .i64 m, .agg t.arr] w fun e w' => e = .returned (.bool true) ∧ Below w.heap.size w w' := by
  have hb0 : Below w.heap.size w (w.alloc (.cells t.arr 28)) := (Below.refl _ _).alloc (Nat.le_refl _) _
  have HT0 := Lib.hid (heap_alloc_new w (.cells t.arr 28))
  have HB0 := Lib.hid hb0
  have Ht := Lib.hid ht
  clear hb0 ht
  go_enter Try.func6, Try.ntmps6
  go_wp2_with (fail)
  refine (c10 _).mono ?_
  rintro e w1 ⟨rfl, hb⟩
  have HT1 := Lib.hid ((hb.block _ (Array.getElem?_eq_some_iff.1 HT0.out).1).trans HT0.out)
  have HB1 := Lib.hid (HB0.out.trans (hb.mono HB0.out.size))
  clear hb HT0 HB0
  by_cases c1 : n < 1
  · have d1 : decide (n < 1) = true := decide_eq_true c1
    clear c1
    go_wp2_with (fail)
    go_ret
    exact ⟨rfl, HB1.out⟩
  by_cases c2 : 8 < n
  · have d1 : decide (n < 1) = false := decide_eq_false c1
    have d2 : decide (8 < n) = true := decide_eq_true c2
    clear c1 c2
    go_wp2_with (fail)
    go_ret
    exact ⟨rfl, HB1.out⟩
  by_cases c3 : m < 1
  · have d1 : decide (n < 1) = false := decide_eq_false c1
    have d2 : decide (8 < n) = false := decide_eq_false c2
    have d3 : decide (m < 1) = true := decide_eq_true c3
    clear c1 c2 c3
    go_wp2_with (fail)
    go_ret
    exact ⟨rfl, HB1.out⟩
  by_cases c4 : 8 < m
  · have d1 : decide (n < 1) = false := decide_eq_false c1
    have d2 : decide (8 < n) = false := decide_eq_false c2
    have d3 : decide (m < 1) = false := decide_eq_false c3
    have d4 : decide (8 < m) = true := decide_eq_true c4
    clear c1 c2 c3 c4
    go_wp2_with (fail)
    go_ret
    exact ⟨rfl, HB1.out⟩
  have d1 : decide (n < 1) = false := decide_eq_false c1
  have d2 : decide (8 < n) = false := decide_eq_false c2
  have d3 : decide (m < 1) = false := decide_eq_false c3
  have d4 : decide (8 < m) = false := decide_eq_false c4
  have hn1 : 1 ≤ n := by omega
  have hm1 : 1 ≤ m := by omega
  have hn8 : n ≤ 8 := by omega
  have hm8 : m ≤ 8 := by omega
  have HNM : Hid (1 ≤ n ∧ 1 ≤ m ∧ n ≤ 8 ∧ m ≤ 8) := Lib.hid ⟨hn1, hm1, hn8, hm8⟩
  clear c1 c2 c3 c4 hn1 hm1 hn8 hm8
  have hba : Below w1.heap.size w1 (w1.alloc (.cells (tabF n m t).arr 30)) := (Below.refl _ _).alloc (Nat.le_refl _) _
  have HA := Lib.hid (Fr.At.new (tabF n m t) w1)
  have HB2 := Lib.hid (HB1.out.trans (hba.mono HB1.out.size))
  have HT2 := Lib.hid ((hba.block _ (Array.getElem?_eq_some_iff.1 HT1.out).1).trans HT1.out)
  clear hba
  go_wp2_with (first | (refine at_dst 32 rfl ?_; refine wpList_load (cs := t.arr) _ rfl rfl rfl HT1.out Try.underlying28 rfl (size28 t) ?_) | (refine at_dst 33 rfl ?_; refine wpList_run rfl (exec_build3 rfl rfl rfl rfl (build30t n m t _)) ?_) | (refine at_store 30 rfl ?_; refine wpList_store (B := w1.heap.size) (old := zeroF.arr) (cs := (tabF n m t).arr) rfl rfl rfl rfl (heap_alloc_new w1 (.cells zeroF.arr 30)) (size30 _) rfl (fr_one _) ?_; rw [alloc_setRow rfl]) | (refine at_dst 35 rfl ?_; refine wpList_load (cs := (tabF n m t).arr) _ rfl rfl rfl HA.out.at_ Try.underlying30 rfl (size30 _) ?_))
  refine (c12 (tabF n m t) _ (tabF_in n m t _) HNM.out.2.2.1 HNM.out.2.2.2 (tabF_wf Ht.out)).mono ?_
  rintro e w3 ⟨h1, h2, hb⟩
  have HT3 := Lib.hid ((hb.block _ (Array.getElem?_eq_some_iff.1 HT2.out).1).trans HT2.out)
  have HA3 := Lib.hid (HA.out.turn hb)
  have HB3 := Lib.hid (HB2.out.trans (hb.mono HB2.out.size))
  clear hb d1 d2 d3 d4
  cases hok : okFr (tabF n m t) with
  | false =>
    obtain rfl := h2 hok
    have HOK := Lib.hid hok
    clear h1 h2 hok
    have H14 := Lib.hid (c14 (tabF n m t) w3 (tabF_in n m t _) HNM.out.2.2.1 HNM.out.2.2.2)
    go_wp2_with (refine at_dst 43 rfl ?_; refine wpList_load_if (cs := (tabF n m t).arr) _ rfl rfl rfl HA3.out.at_ Try.underlying30 rfl (size30 _) ?_)
    refine H14.out.mono ?_
    rintro e w4 ⟨rfl, hb⟩
    have HB4 := Lib.hid (HB3.out.trans (hb.mono HB3.out.size))
    rw [HOK.out]
    clear hb
    go_wp2_with (fail)
    go_ret
    exact ⟨rfl, HB4.out⟩
  | true =>
    obtain ⟨v, rfl, ho⟩ := h1 hok
    have HW := Lib.hid (tab_want HNM.out.1 HNM.out.2.1 (okFr_tab hok))
    clear h1 h2 hok
    obtain ⟨A, cap, rfl, _, hm, _⟩ := GR.own_many Edge.len ho rfl
    have HM := Lib.hid hm
    obtain ⟨N, hN⟩ : ∃ N, (allE (tabF n m t)).length = N := ⟨_, rfl⟩
    have hN2 : N ≤ 1000 := by rw [← hN]; exact allE_len _ HNM.out.2.2.2 HNM.out.2.2.1
    have HN := Lib.hid hN
    rw [hN]
    clear ho hm hN
    go_wp2_with (fail)
    go_loopw [11] (fun a wr => ∃ i : Nat, i ≤ N ∧ a = .int .i64 i ∧ Hid (Below w3.heap.size w3 wr)) (fun a _ => N - (intOf a).toNat)
    case atStart => exact ⟨0, by omega, rfl, Lib.hid (Below.refl _ _)⟩
    case round =>
      obtain ⟨i, hi, rfl, HBi⟩ := hrel
      by_cases hlt : i < N
      · have ti : decide ((i : Int) < (N : Int)) = true := decide_eq_true (by omega)
        obtain ⟨x, bb, off, hxk, hAd, hat, _⟩ := (HM.out.below HBi.out).get i (by rw [HN.out]; exact hlt)
        subst hAd
        have hmem : x ∈ allE (tabF n m t) := by
          have hlt' : i < (allE (tabF n m t)).length := by rw [HN.out]; exact hlt
          have h1 := hxk.out
          rw [List.getElem?_eq_getElem hlt'] at h1
          exact h1 ▸ List.getElem_mem hlt'
        have hw := HW.out x hmem
        have htt := (HBi.out.block _ (Array.getElem?_eq_some_iff.1 HT3.out).1).trans HT3.out
        have hab : Below wr.heap.size wr ((wr.alloc (.cells x.arr 47)).alloc (.cells #[.int .i64 0, .int .i64 0, .int .u32 0, .int .i64 0, .int .i64 0, .int .i64 0] 45)) := ((Below.refl _ wr).alloc (Nat.le_refl _) _).alloc (by simp) _
        have HT4 := Lib.hid ((hab.block _ (Array.getElem?_eq_some_iff.1 htt).1).trans htt)
        have f9 : IntKind.i64.wrap ((i : Int) + 1) = (i : Int) + 1 := IntWalk.i64_in _ (by omega)
        obtain ⟨wb, hwb⟩ : ∃ wb, (wr.alloc (.cells x.arr 47)).alloc (.cells #[.int .i64 0, .int .i64 0, .int .u32 0, .int .i64 0, .int .i64 0, .int .i64 0] 45) = wb := ⟨_, rfl⟩
        have s1 : (wr.alloc (.cells x.arr 47)).heap.size = wr.heap.size + 1 := alloc_size rfl _
        have hXb : wb.heap[wr.heap.size]? = some (.cells x.arr 47 (0, 0)) := by rw [← hwb]; exact alloc_keep s1 (alloc_here rfl _ _) _
        have hSb : wb.heap[wr.heap.size + 1]? = some (.cells #[.int .i64 0, .int .i64 0, .int .u32 0, .int .i64 0, .int .i64 0, .int .i64 0] 45 (0, 0)) := by rw [← hwb]; exact alloc_here s1 _ _
        have hBb : Below w3.heap.size w3 wb := by rw [← hwb]; exact HBi.out.trans (two_below HBi.out.size _ _)
        rw [hwb] at HT4
        have HWB := Lib.hid hwb
        have HXb := Lib.hid hXb
        have HSb := Lib.hid hSb
        have HBb := Lib.hid hBb
        clear hab htt hmem hxk hwb s1 hXb hSb hBb
        obtain ⟨e0, e1, e2, e3, e4, e5, e6, e7, e8, e9⟩ := x
        have g0 : wr.cell? ⟨bb, off + i * 10, none⟩ = some (.int .i64 e0) := hat 0 _ rfl
        have g1 : wr.cell? ⟨bb, off + i * 10 + 1, none⟩ = some (.int .i64 e1) := hat 1 _ rfl
        have g2 : wr.cell? ⟨bb, off + i * 10 + 2, none⟩ = some (.bool e2) := hat 2 _ rfl
        have g3 : wr.cell? ⟨bb, off + i * 10 + 3, none⟩ = some (.int .i64 e3) := hat 3 _ rfl
        have g4 : wr.cell? ⟨bb, off + i * 10 + 4, none⟩ = some (.int .i64 e4) := hat 4 _ rfl
        have g5 : wr.cell? ⟨bb, off + i * 10 + 5, none⟩ = some (.int .u32 e5) := hat 5 _ rfl
        have g6 : wr.cell? ⟨bb, off + i * 10 + 6, none⟩ = some (.int .i64 e6) := hat 6 _ rfl
        have g7 : wr.cell? ⟨bb, off + i * 10 + 7, none⟩ = some (.int .i64 e7) := hat 7 _ rfl
        have g8 : wr.cell? ⟨bb, off + i * 10 + 8, none⟩ = some (.int .i64 e8) := hat 8 _ rfl
        have g9 : wr.cell? ⟨bb, off + i * 10 + 9, none⟩ = some (.int .i64 e9) := hat 9 _ rfl
        unfold Edge.arr at *
        dsimp only at HWB HXb
        unfold wonOf want at hw
        dsimp only at hw
        clear hat
        have K0 : Hid (_ = some (Value.int .i64 t.a0)) := Lib.hid (cell_of (j := 0) HT4.out rfl)
        have K1 : Hid (_ = some (Value.int .i64 t.a1)) := Lib.hid (cell_of (j := 1) HT4.out rfl)
        have K2 : Hid (_ = some (Value.int .u32 t.a2)) := Lib.hid (cell_of (j := 2) HT4.out rfl)
        have K3 : Hid (_ = some (Value.int .i64 t.b0)) := Lib.hid (cell_of (j := 3) HT4.out rfl)
        have K4 : Hid (_ = some (Value.int .i64 t.b1)) := Lib.hid (cell_of (j := 4) HT4.out rfl)
        have K5 : Hid (_ = some (Value.int .u32 t.b2)) := Lib.hid (cell_of (j := 5) HT4.out rfl)
        have K6 : Hid (_ = some (Value.int .i64 t.c0)) := Lib.hid (cell_of (j := 6) HT4.out rfl)
        have K7 : Hid (_ = some (Value.int .i64 t.c1)) := Lib.hid (cell_of (j := 7) HT4.out rfl)
        have K8 : Hid (_ = some (Value.int .u32 t.c2)) := Lib.hid (cell_of (j := 8) HT4.out rfl)
        have K9 : Hid (_ = some (Value.int .i64 t.d0)) := Lib.hid (cell_of (j := 9) HT4.out rfl)
        have K10 : Hid (_ = some (Value.int .i64 t.d1)) := Lib.hid (cell_of (j := 10) HT4.out rfl)
        have K11 : Hid (_ = some (Value.int .u32 t.d2)) := Lib.hid (cell_of (j := 11) HT4.out rfl)
        clear HT4
        have J0 : Hid (_ = some (Value.int .i64 e0)) := Lib.hid (cell_of (j := 0) HXb.out rfl)
        have J1 : Hid (_ = some (Value.int .i64 e1)) := Lib.hid (cell_of (j := 1) HXb.out rfl)
        have J2 : Hid (_ = some (Value.bool e2)) := Lib.hid (cell_of (j := 2) HXb.out rfl)
        go_wp2_with (refine at_dst 58 rfl ?_; rw [HWB.out]; clear g0 g1 g2 g3 g4 g5 g6 g7 g8 g9; refine Hid.out ?_)
        refine Lib.hid ?_
        have j0 := J0.out
        have j1 := J1.out
        have j2 := J2.out
        cases e2 with
        | true =>
          by_cases c1 : e0 = 0
          · have q1 : (e0 == 0) = true := by rw [c1]; rfl
            rw [if_pos ⟨rfl, c1⟩] at hw
            simp only [CT.Side.mk.injEq] at hw
            obtain ⟨rfl, rfl, rfl, rfl, rfl, rfl⟩ := hw
            clear c1
            obtain ⟨ws, hws⟩ : ∃ ws, wb.setRow (wr.heap.size + 1) #[.int .i64 t.a0, .int .i64 t.a1, .int .u32 t.a2, .int .i64 5, .int .i64 0, .int .i64 0] = ws := ⟨_, rfl⟩
            have hXs := (setRow_other wb (wr.heap.size + 1) wr.heap.size #[.int .i64 t.a0, .int .i64 t.a1, .int .u32 t.a2, .int .i64 5, .int .i64 0, .int .i64 0] (by omega)).trans HXb.out
            rw [hws] at hXs
            have hSs : ws.heap[wr.heap.size + 1]? = some (.cells #[.int .i64 t.a0, .int .i64 t.a1, .int .u32 t.a2, .int .i64 5, .int .i64 0, .int .i64 0] 45 (0, 0)) := by rw [← hws]; exact setRow_heap _ _ _ _ _ _ HSb.out
            have HBs : Hid (Below w3.heap.size w3 ws) := Lib.hid (by rw [← hws]; exact HBb.out.trans (CT.below_setRow HBb.out.size (Nat.le_trans HBi.out.size (Nat.le_succ _))))
            have HWS := Lib.hid hws
            clear hws
            have M0 : Hid (_ = some (Value.int .i64 t.a0)) := Lib.hid (cell_of (j := 3) hXs rfl)
            have M1 : Hid (_ = some (Value.int .i64 t.a1)) := Lib.hid (cell_of (j := 4) hXs rfl)
            have M2 : Hid (_ = some (Value.int .u32 t.a2)) := Lib.hid (cell_of (j := 5) hXs rfl)
            have M3 : Hid (_ = some (Value.int .i64 5)) := Lib.hid (cell_of (j := 6) hXs rfl)
            have M4 : Hid (_ = some (Value.int .i64 0)) := Lib.hid (cell_of (j := 7) hXs rfl)
            have M5 : Hid (_ = some (Value.int .i64 0)) := Lib.hid (cell_of (j := 8) hXs rfl)
            have U0 : Hid (_ = some (Value.int .i64 t.a0)) := Lib.hid (cell_of (j := 0) hSs rfl)
            have U1 : Hid (_ = some (Value.int .i64 t.a1)) := Lib.hid (cell_of (j := 1) hSs rfl)
            have U2 : Hid (_ = some (Value.int .u32 t.a2)) := Lib.hid (cell_of (j := 2) hSs rfl)
            have U3 : Hid (_ = some (Value.int .i64 5)) := Lib.hid (cell_of (j := 3) hSs rfl)
            have U4 : Hid (_ = some (Value.int .i64 0)) := Lib.hid (cell_of (j := 4) hSs rfl)
            have U5 : Hid (_ = some (Value.int .i64 0)) := Lib.hid (cell_of (j := 5) hSs rfl)
            clear hXs hSs
            go_wp2_with (first | fail | (refine at_dst 65 rfl ?_; clear j0 j1 j2; have k0 := K0.out; have k1 := K1.out; have k2 := K2.out) | (refine at_store 45 rfl ?_; refine wpList_store (B := wr.heap.size + 1) (old := #[.int .i64 0, .int .i64 0, .int .u32 0, .int .i64 0, .int .i64 0, .int .i64 0]) (cs := #[.int .i64 t.a0, .int .i64 t.a1, .int .u32 t.a2, .int .i64 5, .int .i64 0, .int .i64 0]) rfl rfl rfl rfl HSb.out (size45 _ _ _ _ _ _) rfl (by simp [Value.oneCell']) ?_; rw [HWS.out]; clear k0 k1 k2; have m0 := M0.out; have m1 := M1.out; have m2 := M2.out; have m3 := M3.out; have m4 := M4.out; have m5 := M5.out; have u0 := U0.out; have u1 := U1.out; have u2 := U2.out; have u3 := U3.out; have u4 := U4.out; have u5 := U5.out))
            go_roundw
            case rel => exact ⟨i + 1, by omega, by go_num, HBs⟩
            case measure => simp [intOf]; omega
          · have q1 : (e0 == 0) = false := by rw [beq_eq_false_iff_ne]; exact c1
            by_cases c2 : e0 = n
            · have q2 : (e0 == n) = true := by rw [c2]; exact beq_self_eq_true _
              rw [if_neg (fun h => c1 h.2), if_pos ⟨rfl, c2⟩] at hw
              simp only [CT.Side.mk.injEq] at hw
              obtain ⟨rfl, rfl, rfl, rfl, rfl, rfl⟩ := hw
              clear c1 c2
              obtain ⟨ws, hws⟩ : ∃ ws, wb.setRow (wr.heap.size + 1) #[.int .i64 t.c0, .int .i64 t.c1, .int .u32 t.c2, .int .i64 5, .int .i64 0, .int .i64 0] = ws := ⟨_, rfl⟩
              have hXs := (setRow_other wb (wr.heap.size + 1) wr.heap.size #[.int .i64 t.c0, .int .i64 t.c1, .int .u32 t.c2, .int .i64 5, .int .i64 0, .int .i64 0] (by omega)).trans HXb.out
              rw [hws] at hXs
              have hSs : ws.heap[wr.heap.size + 1]? = some (.cells #[.int .i64 t.c0, .int .i64 t.c1, .int .u32 t.c2, .int .i64 5, .int .i64 0, .int .i64 0] 45 (0, 0)) := by rw [← hws]; exact setRow_heap _ _ _ _ _ _ HSb.out
              have HBs : Hid (Below w3.heap.size w3 ws) := Lib.hid (by rw [← hws]; exact HBb.out.trans (CT.below_setRow HBb.out.size (Nat.le_trans HBi.out.size (Nat.le_succ _))))
              have HWS := Lib.hid hws
              clear hws
              have M0 : Hid (_ = some (Value.int .i64 t.c0)) := Lib.hid (cell_of (j := 3) hXs rfl)
              have M1 : Hid (_ = some (Value.int .i64 t.c1)) := Lib.hid (cell_of (j := 4) hXs rfl)
              have M2 : Hid (_ = some (Value.int .u32 t.c2)) := Lib.hid (cell_of (j := 5) hXs rfl)
              have M3 : Hid (_ = some (Value.int .i64 5)) := Lib.hid (cell_of (j := 6) hXs rfl)
              have M4 : Hid (_ = some (Value.int .i64 0)) := Lib.hid (cell_of (j := 7) hXs rfl)
              have M5 : Hid (_ = some (Value.int .i64 0)) := Lib.hid (cell_of (j := 8) hXs rfl)
              have U0 : Hid (_ = some (Value.int .i64 t.c0)) := Lib.hid (cell_of (j := 0) hSs rfl)
              have U1 : Hid (_ = some (Value.int .i64 t.c1)) := Lib.hid (cell_of (j := 1) hSs rfl)
              have U2 : Hid (_ = some (Value.int .u32 t.c2)) := Lib.hid (cell_of (j := 2) hSs rfl)
              have U3 : Hid (_ = some (Value.int .i64 5)) := Lib.hid (cell_of (j := 3) hSs rfl)
              have U4 : Hid (_ = some (Value.int .i64 0)) := Lib.hid (cell_of (j := 4) hSs rfl)
              have U5 : Hid (_ = some (Value.int .i64 0)) := Lib.hid (cell_of (j := 5) hSs rfl)
              clear hXs hSs
              go_wp2_with (first | fail | (refine at_dst 76 rfl ?_; clear j0 j1 j2; have k0 := K6.out; have k1 := K7.out; have k2 := K8.out) | (refine at_store 45 rfl ?_; refine wpList_store (B := wr.heap.size + 1) (old := #[.int .i64 0, .int .i64 0, .int .u32 0, .int .i64 0, .int .i64 0, .int .i64 0]) (cs := #[.int .i64 t.c0, .int .i64 t.c1, .int .u32 t.c2, .int .i64 5, .int .i64 0, .int .i64 0]) rfl rfl rfl rfl HSb.out (size45 _ _ _ _ _ _) rfl (by simp [Value.oneCell']) ?_; rw [HWS.out]; clear k0 k1 k2; have m0 := M0.out; have m1 := M1.out; have m2 := M2.out; have m3 := M3.out; have m4 := M4.out; have m5 := M5.out; have u0 := U0.out; have u1 := U1.out; have u2 := U2.out; have u3 := U3.out; have u4 := U4.out; have u5 := U5.out))
              go_roundw
              case rel => exact ⟨i + 1, by omega, by go_num, HBs⟩
              case measure => simp [intOf]; omega
            · have q2 : (e0 == n) = false := by rw [beq_eq_false_iff_ne]; exact c2
              rw [if_neg (fun h => c1 h.2), if_neg (fun h => c2 h.2), if_neg (fun h => by have h1 := h.1; cases h1), if_neg (fun h => by have h1 := h.1; cases h1)] at hw
              simp only [CT.Side.mk.injEq] at hw
              obtain ⟨rfl, rfl, rfl, rfl, rfl, rfl⟩ := hw
              clear c1 c2
              have M0 : Hid (_ = some (Value.int .i64 0)) := Lib.hid (cell_of (j := 3) HXb.out rfl)
              have M1 : Hid (_ = some (Value.int .i64 0)) := Lib.hid (cell_of (j := 4) HXb.out rfl)
              have M2 : Hid (_ = some (Value.int .u32 0)) := Lib.hid (cell_of (j := 5) HXb.out rfl)
              have M3 : Hid (_ = some (Value.int .i64 0)) := Lib.hid (cell_of (j := 6) HXb.out rfl)
              have M4 : Hid (_ = some (Value.int .i64 0)) := Lib.hid (cell_of (j := 7) HXb.out rfl)
              have M5 : Hid (_ = some (Value.int .i64 0)) := Lib.hid (cell_of (j := 8) HXb.out rfl)
              have U0 : Hid (_ = some (Value.int .i64 0)) := Lib.hid (cell_of (j := 0) HSb.out rfl)
              have U1 : Hid (_ = some (Value.int .i64 0)) := Lib.hid (cell_of (j := 1) HSb.out rfl)
              have U2 : Hid (_ = some (Value.int .u32 0)) := Lib.hid (cell_of (j := 2) HSb.out rfl)
              have U3 : Hid (_ = some (Value.int .i64 0)) := Lib.hid (cell_of (j := 3) HSb.out rfl)
              have U4 : Hid (_ = some (Value.int .i64 0)) := Lib.hid (cell_of (j := 4) HSb.out rfl)
              have U5 : Hid (_ = some (Value.int .i64 0)) := Lib.hid (cell_of (j := 5) HSb.out rfl)
              go_wp2_with (first | fail | (refine at_dst 102 rfl ?_; clear j0 j1 j2; have m0 := M0.out; have m1 := M1.out; have m2 := M2.out; have m3 := M3.out; have m4 := M4.out; have m5 := M5.out; have u0 := U0.out; have u1 := U1.out; have u2 := U2.out; have u3 := U3.out; have u4 := U4.out; have u5 := U5.out))
              go_roundw
              case rel => exact ⟨i + 1, by omega, by go_num, HBb⟩
              case measure => simp [intOf]; omega
        | false =>
          by_cases c1 : e1 = 0
          · have q1 : (e1 == 0) = true := by rw [c1]; rfl
            rw [if_neg (fun h => by have h1 := h.1; cases h1), if_neg (fun h => by have h1 := h.1; cases h1), if_pos ⟨rfl, c1⟩] at hw
            simp only [CT.Side.mk.injEq] at hw
            obtain ⟨rfl, rfl, rfl, rfl, rfl, rfl⟩ := hw
            clear c1
            obtain ⟨ws, hws⟩ : ∃ ws, wb.setRow (wr.heap.size + 1) #[.int .i64 t.d0, .int .i64 t.d1, .int .u32 t.d2, .int .i64 5, .int .i64 0, .int .i64 0] = ws := ⟨_, rfl⟩
            have hXs := (setRow_other wb (wr.heap.size + 1) wr.heap.size #[.int .i64 t.d0, .int .i64 t.d1, .int .u32 t.d2, .int .i64 5, .int .i64 0, .int .i64 0] (by omega)).trans HXb.out
            rw [hws] at hXs
            have hSs : ws.heap[wr.heap.size + 1]? = some (.cells #[.int .i64 t.d0, .int .i64 t.d1, .int .u32 t.d2, .int .i64 5, .int .i64 0, .int .i64 0] 45 (0, 0)) := by rw [← hws]; exact setRow_heap _ _ _ _ _ _ HSb.out
            have HBs : Hid (Below w3.heap.size w3 ws) := Lib.hid (by rw [← hws]; exact HBb.out.trans (CT.below_setRow HBb.out.size (Nat.le_trans HBi.out.size (Nat.le_succ _))))
            have HWS := Lib.hid hws
            clear hws
            have M0 : Hid (_ = some (Value.int .i64 t.d0)) := Lib.hid (cell_of (j := 3) hXs rfl)
            have M1 : Hid (_ = some (Value.int .i64 t.d1)) := Lib.hid (cell_of (j := 4) hXs rfl)
            have M2 : Hid (_ = some (Value.int .u32 t.d2)) := Lib.hid (cell_of (j := 5) hXs rfl)
            have M3 : Hid (_ = some (Value.int .i64 5)) := Lib.hid (cell_of (j := 6) hXs rfl)
            have M4 : Hid (_ = some (Value.int .i64 0)) := Lib.hid (cell_of (j := 7) hXs rfl)
            have M5 : Hid (_ = some (Value.int .i64 0)) := Lib.hid (cell_of (j := 8) hXs rfl)
            have U0 : Hid (_ = some (Value.int .i64 t.d0)) := Lib.hid (cell_of (j := 0) hSs rfl)
            have U1 : Hid (_ = some (Value.int .i64 t.d1)) := Lib.hid (cell_of (j := 1) hSs rfl)
            have U2 : Hid (_ = some (Value.int .u32 t.d2)) := Lib.hid (cell_of (j := 2) hSs rfl)
            have U3 : Hid (_ = some (Value.int .i64 5)) := Lib.hid (cell_of (j := 3) hSs rfl)
            have U4 : Hid (_ = some (Value.int .i64 0)) := Lib.hid (cell_of (j := 4) hSs rfl)
            have U5 : Hid (_ = some (Value.int .i64 0)) := Lib.hid (cell_of (j := 5) hSs rfl)
            clear hXs hSs
            go_wp2_with (first | fail | (refine at_dst 87 rfl ?_; clear j0 j1 j2; have k0 := K9.out; have k1 := K10.out; have k2 := K11.out) | (refine at_store 45 rfl ?_; refine wpList_store (B := wr.heap.size + 1) (old := #[.int .i64 0, .int .i64 0, .int .u32 0, .int .i64 0, .int .i64 0, .int .i64 0]) (cs := #[.int .i64 t.d0, .int .i64 t.d1, .int .u32 t.d2, .int .i64 5, .int .i64 0, .int .i64 0]) rfl rfl rfl rfl HSb.out (size45 _ _ _ _ _ _) rfl (by simp [Value.oneCell']) ?_; rw [HWS.out]; clear k0 k1 k2; have m0 := M0.out; have m1 := M1.out; have m2 := M2.out; have m3 := M3.out; have m4 := M4.out; have m5 := M5.out; have u0 := U0.out; have u1 := U1.out; have u2 := U2.out; have u3 := U3.out; have u4 := U4.out; have u5 := U5.out))
            go_roundw
            case rel => exact ⟨i + 1, by omega, by go_num, HBs⟩
            case measure => simp [intOf]; omega
          · have q1 : (e1 == 0) = false := by rw [beq_eq_false_iff_ne]; exact c1
            by_cases c2 : e1 = m
            · have q2 : (e1 == m) = true := by rw [c2]; exact beq_self_eq_true _
              rw [if_neg (fun h => by have h1 := h.1; cases h1), if_neg (fun h => by have h1 := h.1; cases h1), if_neg (fun h => c1 h.2), if_pos ⟨rfl, c2⟩] at hw
              simp only [CT.Side.mk.injEq] at hw
              obtain ⟨rfl, rfl, rfl, rfl, rfl, rfl⟩ := hw
              clear c1 c2
              obtain ⟨ws, hws⟩ : ∃ ws, wb.setRow (wr.heap.size + 1) #[.int .i64 t.b0, .int .i64 t.b1, .int .u32 t.b2, .int .i64 5, .int .i64 0, .int .i64 0] = ws := ⟨_, rfl⟩
              have hXs := (setRow_other wb (wr.heap.size + 1) wr.heap.size #[.int .i64 t.b0, .int .i64 t.b1, .int .u32 t.b2, .int .i64 5, .int .i64 0, .int .i64 0] (by omega)).trans HXb.out
              rw [hws] at hXs
              have hSs : ws.heap[wr.heap.size + 1]? = some (.cells #[.int .i64 t.b0, .int .i64 t.b1, .int .u32 t.b2, .int .i64 5, .int .i64 0, .int .i64 0] 45 (0, 0)) := by rw [← hws]; exact setRow_heap _ _ _ _ _ _ HSb.out
              have HBs : Hid (Below w3.heap.size w3 ws) := Lib.hid (by rw [← hws]; exact HBb.out.trans (CT.below_setRow HBb.out.size (Nat.le_trans HBi.out.size (Nat.le_succ _))))
              have HWS := Lib.hid hws
              clear hws
              have M0 : Hid (_ = some (Value.int .i64 t.b0)) := Lib.hid (cell_of (j := 3) hXs rfl)
              have M1 : Hid (_ = some (Value.int .i64 t.b1)) := Lib.hid (cell_of (j := 4) hXs rfl)
              have M2 : Hid (_ = some (Value.int .u32 t.b2)) := Lib.hid (cell_of (j := 5) hXs rfl)
              have M3 : Hid (_ = some (Value.int .i64 5)) := Lib.hid (cell_of (j := 6) hXs rfl)
              have M4 : Hid (_ = some (Value.int .i64 0)) := Lib.hid (cell_of (j := 7) hXs rfl)
              have M5 : Hid (_ = some (Value.int .i64 0)) := Lib.hid (cell_of (j := 8) hXs rfl)
              have U0 : Hid (_ = some (Value.int .i64 t.b0)) := Lib.hid (cell_of (j := 0) hSs rfl)
              have U1 : Hid (_ = some (Value.int .i64 t.b1)) := Lib.hid (cell_of (j := 1) hSs rfl)
              have U2 : Hid (_ = some (Value.int .u32 t.b2)) := Lib.hid (cell_of (j := 2) hSs rfl)
              have U3 : Hid (_ = some (Value.int .i64 5)) := Lib.hid (cell_of (j := 3) hSs rfl)
              have U4 : Hid (_ = some (Value.int .i64 0)) := Lib.hid (cell_of (j := 4) hSs rfl)
              have U5 : Hid (_ = some (Value.int .i64 0)) := Lib.hid (cell_of (j := 5) hSs rfl)
              clear hXs hSs
              go_wp2_with (first | fail | (refine at_dst 99 rfl ?_; clear j0 j1 j2; have k0 := K3.out; have k1 := K4.out; have k2 := K5.out) | (refine at_store 45 rfl ?_; refine wpList_store (B := wr.heap.size + 1) (old := #[.int .i64 0, .int .i64 0, .int .u32 0, .int .i64 0, .int .i64 0, .int .i64 0]) (cs := #[.int .i64 t.b0, .int .i64 t.b1, .int .u32 t.b2, .int .i64 5, .int .i64 0, .int .i64 0]) rfl rfl rfl rfl HSb.out (size45 _ _ _ _ _ _) rfl (by simp [Value.oneCell']) ?_; rw [HWS.out]; clear k0 k1 k2; have m0 := M0.out; have m1 := M1.out; have m2 := M2.out; have m3 := M3.out; have m4 := M4.out; have m5 := M5.out; have u0 := U0.out; have u1 := U1.out; have u2 := U2.out; have u3 := U3.out; have u4 := U4.out; have u5 := U5.out))
              go_roundw
              case rel => exact ⟨i + 1, by omega, by go_num, HBs⟩
              case measure => simp [intOf]; omega
            · have q2 : (e1 == m) = false := by rw [beq_eq_false_iff_ne]; exact c2
              rw [if_neg (fun h => by have h1 := h.1; cases h1), if_neg (fun h => by have h1 := h.1; cases h1), if_neg (fun h => c1 h.2), if_neg (fun h => c2 h.2)] at hw
              simp only [CT.Side.mk.injEq] at hw
              obtain ⟨rfl, rfl, rfl, rfl, rfl, rfl⟩ := hw
              clear c1 c2
              have M0 : Hid (_ = some (Value.int .i64 0)) := Lib.hid (cell_of (j := 3) HXb.out rfl)
              have M1 : Hid (_ = some (Value.int .i64 0)) := Lib.hid (cell_of (j := 4) HXb.out rfl)
              have M2 : Hid (_ = some (Value.int .u32 0)) := Lib.hid (cell_of (j := 5) HXb.out rfl)
              have M3 : Hid (_ = some (Value.int .i64 0)) := Lib.hid (cell_of (j := 6) HXb.out rfl)
              have M4 : Hid (_ = some (Value.int .i64 0)) := Lib.hid (cell_of (j := 7) HXb.out rfl)
              have M5 : Hid (_ = some (Value.int .i64 0)) := Lib.hid (cell_of (j := 8) HXb.out rfl)
              have U0 : Hid (_ = some (Value.int .i64 0)) := Lib.hid (cell_of (j := 0) HSb.out rfl)
              have U1 : Hid (_ = some (Value.int .i64 0)) := Lib.hid (cell_of (j := 1) HSb.out rfl)
              have U2 : Hid (_ = some (Value.int .u32 0)) := Lib.hid (cell_of (j := 2) HSb.out rfl)
              have U3 : Hid (_ = some (Value.int .i64 0)) := Lib.hid (cell_of (j := 3) HSb.out rfl)
              have U4 : Hid (_ = some (Value.int .i64 0)) := Lib.hid (cell_of (j := 4) HSb.out rfl)
              have U5 : Hid (_ = some (Value.int .i64 0)) := Lib.hid (cell_of (j := 5) HSb.out rfl)
              go_wp2_with (first | fail | (refine at_dst 102 rfl ?_; clear j0 j1 j2; have m0 := M0.out; have m1 := M1.out; have m2 := M2.out; have m3 := M3.out; have m4 := M4.out; have m5 := M5.out; have u0 := U0.out; have u1 := U1.out; have u2 := U2.out; have u3 := U3.out; have u4 := U4.out; have u5 := U5.out))
              go_roundw
              case rel => exact ⟨i + 1, by omega, by go_num, HBb⟩
              case measure => simp [intOf]; omega
      · obtain rfl : i = N := by omega
        have ti : decide ((i : Int) < (i : Int)) = false := decide_eq_false (by omega)
        go_wp2_with (fail)
        go_ret
        exact ⟨rfl, HB3.out.trans (HBi.out.mono HB3.out.size)⟩
end Go.Proofs.Ytmlcjiabnmdfeaa
