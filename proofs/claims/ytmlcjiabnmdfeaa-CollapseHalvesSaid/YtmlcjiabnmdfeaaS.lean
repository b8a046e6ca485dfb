/- The iterator over a framing's edges. -/
import Derived.Test.YtmlcjiabnmdfeaaR
import Derived.Test.YtmlcjiabnmdfeaaOY
namespace Go.Proofs.Ytmlcjiabnmdfeaa
open Go Go.RowKit Go.Shelf CT
set_option linter.unusedVariables false
attribute [local go_sem] Oper.semAt_some

theorem gxt_below [OrdY.Off] (hn : ∀ b : Nat, some b ≠ OrdY.Off.row) {w W : World} (h : OrdY.Gxt w W) : Below w.heap.size w W := ⟨h.os, h.tape, h.output, h.size, fun i hi => h.block i hi (hn i)⟩
theorem keeps_of_below {N : Nat} {W X Y : World} (h : CT.Keeps (fun k => k < N) W X) (hN : N ≤ W.heap.size) (hb : Below X.heap.size X Y) : CT.Keeps (fun k => k < N) W Y :=
  h.trans ⟨hb.os, hb.tape, hb.output, hb.size, fun k hk => hb.block k (Nat.lt_of_lt_of_le hk (Nat.le_trans hN h.size))⟩
def encE (x : Edge) : Array Value := #[.agg x.arr]

set_option maxRecDepth 100000 in
set_option maxHeartbeats 16000000 in
/-- all: the iterator -/
theorem c42w (n l Bf B g base : Nat) (vs : Nat → Value) (f : Fr) (w : World) (hF : FrM f w B g base vs) (hf : Boxed w Bf 66 (.pointer (some ⟨B, 0, none⟩))) (hR : 0 ≤ f.R ∧ f.R ≤ 8) (hC : 0 ≤ f.C ∧ f.C ≤ 8) (hlen : f.cl.length = f.pl.length) (hwf : f.wf) (J Jx : List Edge → World → Prop) (hn : 1 ≤ n)
    (hJa : ∀ s W W', J s W → Below W.heap.size W W' → J s W') (hJxa : ∀ s W W', Jx s W → Below W.heap.size W W' → Jx s W')
    (hY : ∀ pre x W, J pre W → pre.length < 200 → YieldAt Fence.wide (n - 1) Try.prog l (encE x) W fun e W' => (e = .returned (.bool true) ∧ J (pre ++ [x]) W' ∧ CT.Keeps (fun k => k < w.heap.size) W W') ∨ (e = .returned (.bool false) ∧ Jx (pre ++ [x]) W'))
    (W : World) (hW : Below w.heap.size w W) (h0 : J [] W) :
    CallsIn Fence.wide n Try.prog 42 #[.func (.yield l) #[] #[], .pointer (some ⟨Bf, 0, none⟩)] W fun e W' => (∃ v, e = .returned v) ∧
      ((∃ ys, ys = allE f ∧ J ys W') ∨ (∃ pre, True ∧ Jx pre W')) := by
  obtain ⟨nR, hnR⟩ := Int.eq_ofNat_of_zero_le hR.1
  obtain ⟨nC, hnC⟩ := Int.eq_ofNat_of_zero_le hC.1
  have hnR8 : nR ≤ 8 := by omega
  have hnC8 : nC ≤ 8 := by omega
  have hz : ∀ X, Below w.heap.size w X → X.cell? ⟨Bf, 0, none⟩ = some (.pointer (some ⟨B, 0, none⟩)) ∧ X.cell? ⟨B, 0, none⟩ = some (.int .i64 nR) ∧ X.cell? ⟨B, 1, none⟩ = some (.int .i64 nC) := fun X hX => by
    obtain ⟨e0, e1, _⟩ := (hF.turn hX).eight
    rw [hnR] at e0
    rw [hnC] at e1
    exact ⟨Boxed.cell (show Boxed X Bf 66 _ from (hX.block _ hf.lt).trans hf), e0, e1⟩
  have Hz := Lib.hid hz
  have HF := Lib.hid hF
  have Hf := Lib.hid hf
  have HR := Lib.hid hR
  have HC := Lib.hid hC
  have HnR := Lib.hid hnR
  have HnC := Lib.hid hnC
  have Hlen := Lib.hid hlen
  have Hwf := Lib.hid hwf
  have HJL := Lib.hid hJa
  have HJXL := Lib.hid hJxa
  have HY := Lib.hid hY
  have HW := Lib.hid hW
  have H0 := Lib.hid h0
  have HSZ : Hid (w.heap.size ≤ W.heap.size) := Lib.hid hW.size
  obtain ⟨a0, a1, a2⟩ := hz W hW
  have fR : IntKind.i64.wrap ((nR : Int) + 1) = (nR : Int) + 1 := IntWalk.i64_in _ (by omega)
  have fC : IntKind.i64.wrap ((nC : Int) + 1) = (nC : Int) + 1 := IntWalk.i64_in _ (by omega)
  clear hz hF hf hR hC hnR hnC hlen hwf hJa hJxa hY hW h0
  refine callsIn_of_wp Try.func42 rfl trivial ?_ rfl
  simp only [Try.ntmps42, List.size_toArray, List.length_cons, List.length_nil, Nat.reduceAdd, Nat.reduceSub, Array.replicate_succ, Array.replicate_zero, List.push_toArray, List.append_toArray, List.nil_append, List.cons_append]
  gi_wp2
  clear a0 a1 a2
  gi_loopw [17] (fun a wr => ∃ i : Nat, i ≤ nR + 1 ∧ a = .int .i64 i ∧ Hid (J (lieAll f i) wr) ∧ Hid (CT.Keeps (fun k => k < w.heap.size) W wr)) (fun a _ => nR + 1 - (intOf a).toNat)
  case atStart => exact ⟨0, Nat.zero_le _, rfl, Lib.hid H0.out, Lib.hid (CT.Keeps.refl _ _)⟩
  case round =>
    obtain ⟨i, hi, rfl, HJi, HKi⟩ := hrel
    by_cases hlt : i < nR + 1
    · have ti : decide ((i : Int) < (nR : Int) + 1) = true := decide_eq_true (by omega)
      obtain ⟨a0, a1, a2⟩ := Hz.out wr (HW.out.trans (HKi.out.below fun k hk => hk))
      gi_wp2_with (fail)
      clear a0 a1 a2
      gi_loopw [25] (fun a w2 => ∃ k : Nat, k ≤ nC ∧ a = .int .i64 k ∧ Hid (J (lieAll f i ++ lieRow f i k) w2) ∧ Hid (CT.Keeps (fun k => k < w.heap.size) W w2)) (fun a _ => nC - (intOf a).toNat)
      case atStart => exact ⟨0, Nat.zero_le _, rfl, Lib.hid (by simpa [lieRow] using HJi.out), HKi⟩
      case round =>
        obtain ⟨k, hk, rfl, HJk, HKk⟩ := hrel
        by_cases hlk : k < nC
        · have tk : decide ((k : Int) < (nC : Int)) = true := decide_eq_true (by omega)
          have hB := HW.out.trans (HKk.out.below fun k hk => hk)
          obtain ⟨a0, a1, a2⟩ := Hz.out wr hB
          have P66 := Lib.hid a0
          have HB := Lib.hid hB
          have f1 : IntKind.i64.wrap ((i : Int) - 1) = (i : Int) - 1 := IntWalk.i64_in _ (by omega)
          have f2 : IntKind.i64.wrap ((k : Int) + 1) = (k : Int) + 1 := IntWalk.i64_in _ (by omega)
          obtain ⟨I, hI0⟩ : ∃ I : OrdY.Off, I.row = none := ⟨⟨_⟩, rfl⟩
          have HIn : Hid (∀ b : Nat, some b ≠ OrdY.Off.row) := Lib.hid fun b e => by rw [hI0] at e; cases e
          clear hI0 a0 a1 a2 hB
          have HLie : Hid (lieAt f i k = _) := Lib.hid (show lieAt f i k = if 0 ≤ who f ((i : Int) - 1) ((k : Int)) ∧ who f ((i : Int) - 1) ((k : Int)) = who f i k then [] else [edgeOf i k true (asked f false i k (who f ((i : Int) - 1) ((k : Int))) (who f i k))] from rfl)
          have Hlta := Lib.hid (who_lt f ((i : Int) - 1) ((k : Int)))
          have Hltb := Lib.hid (who_lt f (i : Int) (k : Int))
          have HLen : Hid ((lieAll f i ++ lieRow f i k).length < 200) := Lib.hid (by rw [List.length_append]; have := lieAll_len f HC.out.2 i; have := lieRow_len f i k; omega)
          gi_wp2_with (fail)
          refine OrdY.wpIn_region_ordN 11 [(0, true), (1, true), (2, true), (3, true), (4, true), (5, true), (6, true), (7, true), (8, true), (9, true), (10, true)] (by kernel_rfl) (by kernel_rfl) ?_
          intro Wc hWc
          apply OrdY.OrdAt.op OrdY.on_put rfl rfl rfl
          · intro X hB
            have s := OrdY.rd (hWc.g.tr hB) (HIn.out _) (P66.out)
            go_simp
            try rfl
          · dsimp only [List.set_cons_zero, List.set_cons_succ]
          iterate 3
            apply OrdY.OrdAt.op OrdY.on_put rfl rfl rfl
            · intro X hB
              go_simp
              try rfl
            · dsimp only [List.set_cons_zero, List.set_cons_succ]
          apply OrdY.OrdAt.call OrdY.on_put rfl rfl rfl
          · intro X hB
            go_simp
            first | exact ⟨rfl, rfl⟩ | rfl
          · intro X hB
            refine ((c43 f B g base vs ((i : Int) - 1) ((k : Int)) X (HF.out.turn (HB.out.trans ((gxt_below HIn.out (hWc.g.tr hB)).mono HB.out.size))) HR.out.2 HC.out.2)).mono ?_
            rintro e W1 ⟨rfl, rfl⟩
            exact ⟨rfl, Below.refl _ _⟩
          · dsimp only [List.set_cons_zero, List.set_cons_succ]
          apply OrdY.OrdAt.op OrdY.on_put rfl rfl rfl
          · intro X hB
            have s := OrdY.rd (hWc.g.tr hB) (HIn.out _) (P66.out)
            go_simp
            try rfl
          · dsimp only [List.set_cons_zero, List.set_cons_succ]
          iterate 2
            apply OrdY.OrdAt.op OrdY.on_put rfl rfl rfl
            · intro X hB
              go_simp
              try rfl
            · dsimp only [List.set_cons_zero, List.set_cons_succ]
          apply OrdY.OrdAt.call OrdY.on_put rfl rfl rfl
          · intro X hB
            go_simp
            first | exact ⟨rfl, rfl⟩ | rfl
          · intro X hB
            refine ((c43 f B g base vs ((i : Int)) ((k : Int)) X (HF.out.turn (HB.out.trans ((gxt_below HIn.out (hWc.g.tr hB)).mono HB.out.size))) HR.out.2 HC.out.2)).mono ?_
            rintro e W1 ⟨rfl, rfl⟩
            exact ⟨rfl, Below.refl _ _⟩
          · dsimp only [List.set_cons_zero, List.set_cons_succ]
          iterate 2
            apply OrdY.OrdAt.op OrdY.on_put rfl rfl rfl
            · intro X hB
              go_simp
              try rfl
            · dsimp only [List.set_cons_zero, List.set_cons_succ]
          refine OrdY.OrdAt.done ?_
          intro W9 hW9
          refine OrdY.on_normal ?_
          have hx := hWc.trans (hW9.mono hWc.size)
          have HX9 := Lib.hid (HB.out.trans (hx.mono HB.out.size))
          have HJ9 := Lib.hid (HJL.out _ _ _ HJk.out hx)
          have HP9 := Lib.hid (keeps_of_below HKk.out HSZ.out hx)
          have P9 := Lib.hid (Hz.out W9 HX9.out).1
          clear hx hW9 hWc P66
          generalize who f ((i : Int) - 1) (k : Int) = va at *
          generalize who f (i : Int) (k : Int) = vb at *
          by_cases ca : 0 ≤ va
          · have ta : decide (0 ≤ va) = true := decide_eq_true ca
            by_cases cb : va = vb
            · have tb : (va == vb) = true := by rw [cb]; exact beq_self_eq_true _
              have hl : lieAt f i k = [] := HLie.out.trans (if_pos ⟨ca, cb⟩)
              have Hl := Lib.hid hl
              clear hl ca cb
              gi_wp2
              go_roundw
              case rel => exact ⟨k + 1, by omega, by simp, by rw [lieRow_succ, Hl.out, List.append_nil]; exact HJ9, HP9⟩
              case measure => simp [intOf]; omega
            · have tb : (va == vb) = false := by rw [beq_eq_false_iff_ne]; exact cb
              have HLie := Lib.hid (HLie.out.trans (if_neg fun h => cb h.2))
              clear ca cb
              gi_wp2_with (fail)
              refine OrdY.wpIn_region_ordN 12 [(0, true), (1, true), (2, true), (3, true), (4, true), (6, true), (7, true), (8, true), (9, true), (5, false), (10, false), (11, false), (12, false), (13, false)] (by kernel_rfl) (by kernel_rfl) ?_
              intro Wc hWc
              iterate 3
                apply OrdY.OrdAt.op OrdY.on_put rfl rfl rfl
                · intro X hB
                  go_simp
                  try rfl
                · dsimp only [List.set_cons_zero, List.set_cons_succ]
              apply OrdY.OrdAt.op OrdY.on_put rfl rfl rfl
              · intro X hB
                have s := OrdY.rd (hWc.g.tr hB) (HIn.out _) (P9.out)
                go_simp
                try rfl
              · dsimp only [List.set_cons_zero, List.set_cons_succ]
              apply OrdY.OrdAt.op OrdY.on_put rfl rfl rfl
              · intro X hB
                have s := OrdY.rd (hWc.g.tr hB) (HIn.out _) (P9.out)
                go_simp
                try rfl
              · dsimp only [List.set_cons_zero, List.set_cons_succ]
              iterate 4
                apply OrdY.OrdAt.op OrdY.on_put rfl rfl rfl
                · intro X hB
                  go_simp
                  try rfl
                · dsimp only [List.set_cons_zero, List.set_cons_succ]
              refine OrdY.OrdAt.seq rfl rfl ?_
              intro X hB
              have hx := hWc.trans (hB.mono hWc.size)
              have HXa := Lib.hid (HX9.out.trans (hx.mono HX9.out.size))
              have HJa := Lib.hid (HJL.out _ _ _ HJ9.out hx)
              have HPa := Lib.hid (keeps_of_below HP9.out HSZ.out hx)
              gi_wp2_with (fail)
              refine ⟨trivial, (callsIn_wide.2 (c46 f B g base vs X (HF.out.turn HXa.out))).mono ?_⟩
              rintro e W1 ⟨k1, k2, hk1, hk2, rfl, hK, hb⟩
              have HXb := Lib.hid (HXa.out.trans (hb.mono HXa.out.size))
              have HJb := Lib.hid (HJL.out _ _ _ HJa.out hb)
              have HPb := Lib.hid (keeps_of_below HPa.out HSZ.out hb)
              have HKd := Lib.hid hK
              refine ⟨.inr (OrdY.Ext.g hb), ?_⟩
              clear hx hb hK hk1 hk2 hB hWc
              try simp only [Act.put, List.setIfInBounds_toArray, List.set_cons_zero, List.set_cons_succ]
              refine OrdY.OrdAt.seq rfl rfl ?_
              intro X hB
              have HXc := Lib.hid (HXb.out.trans (hB.mono HXb.out.size))
              have HJc := Lib.hid (HJL.out _ _ _ HJb.out hB)
              have HPc := Lib.hid (keeps_of_below HPb.out HSZ.out hB)
              gi_wp2_with (fail)
              refine ⟨trivial, (callsIn_wide.2 (c45 f false B g base vs (i : Int) (k : Int) va vb k1 k2 0 X (HF.out.turn HXc.out) (HKd.out.turn hB) (fun e => by cases e) Hlta.out Hltb.out Hlen.out)).mono ?_⟩
              rintro e W1 ⟨⟨A, cap, rfl, hm⟩, hb⟩
              have HXd := Lib.hid (HXc.out.trans (hb.mono HXc.out.size))
              have HJd := Lib.hid (HJL.out _ _ _ HJc.out hb)
              have HPd := Lib.hid (keeps_of_below HPc.out HSZ.out hb)
              obtain ⟨L, hL⟩ : ∃ L, asked f false (i : Int) (k : Int) va vb = L := ⟨_, rfl⟩
              have HLl : Hid (L.length ≤ 84) := Lib.hid (by rw [← hL]; exact asked_len f _ _ _ _ _ HF.out.in_)
              have HLw : Hid (∀ x ∈ L, x.wf) := Lib.hid (by rw [← hL]; exact asked_wf Hwf.out _ _ _ _ _)
              rw [hL] at hm HLie ⊢
              have Hm := Lib.hid hm
              refine ⟨.inr (OrdY.Ext.g hb), ?_⟩
              clear hm hL hb hB
              try simp only [Act.put, List.setIfInBounds_toArray, List.set_cons_zero, List.set_cons_succ]
              refine OrdY.OrdAt.seq rfl rfl ?_
              intro X hB
              have HXe := Lib.hid (HXd.out.trans (hB.mono HXd.out.size))
              have HJe := Lib.hid (HJL.out _ _ _ HJd.out hB)
              have HPe := Lib.hid (keeps_of_below HPd.out HSZ.out hB)
              gi_wp2_with (fail)
              refine ⟨trivial, (callsIn_wide.2 (c44 (i : Int) (k : Int) true A L cap X (many_sides (Hm.out.below hB)) (Nat.le_trans HLl.out (by omega)) HLw.out)).mono ?_⟩
              rintro e W1 ⟨rfl, hb⟩
              have HXf := Lib.hid (HXe.out.trans (hb.mono HXe.out.size))
              have HJf := Lib.hid (HJL.out _ _ _ HJe.out hb)
              have HPf := Lib.hid (keeps_of_below HPe.out HSZ.out hb)
              obtain ⟨ed, hed⟩ : ∃ ed, edgeOf (i : Int) (k : Int) true L = ed := ⟨_, rfl⟩
              rw [hed] at HLie ⊢
              refine ⟨.inr (OrdY.Ext.g hb), ?_⟩
              clear hb hB hed
              try simp only [Act.put, List.setIfInBounds_toArray, List.set_cons_zero, List.set_cons_succ]
              refine OrdY.OrdAt.seq rfl rfl ?_
              intro X hB
              have HXg := Lib.hid (HXf.out.trans (hB.mono HXf.out.size))
              have HJg := Lib.hid (HJL.out _ _ _ HJf.out hB)
              have HPg := Lib.hid (keeps_of_below HPf.out HSZ.out hB)
              obtain ⟨fn, tmps, assign, body, hy, hR⟩ := HY.out (lieAll f i ++ lieRow f i k) ed X HJg.out (by have := HLen.out; omega)
              unfold encE at hy
              have HRR := Lib.hid hR
              clear hR hB
              gi_wp2_with (fail)
              refine HRR.out.mono ?_
              rintro e W3 (⟨rfl, hJ3, hk3⟩ | ⟨rfl, hJx3⟩)
              · have HJ3 := Lib.hid hJ3
                have HP3 := Lib.hid (HPg.out.trans hk3)
                clear hJ3 hk3 hy
                refine ⟨.inl (by decide), ?_⟩
                try simp only [Act.put, List.setIfInBounds_toArray, List.set_cons_zero, List.set_cons_succ]
                refine OrdY.OrdAt.seq rfl rfl ?_
                intro X2 hB2
                gi_wp2_with (fail)
                refine ⟨.inl (by decide), OrdY.OrdAt.done ?_⟩
                intro W8 hW8
                refine OrdY.on_normal ?_
                replace hW8 := hB2.trans (hW8.mono hB2.size)
                clear hB2
                have HJ8 := Lib.hid (HJL.out _ _ _ HJ3.out hW8)
                have HP8 := Lib.hid (keeps_of_below HP3.out HSZ.out hW8)
                clear hW8
                gi_wp2
                go_roundw
                case rel => exact ⟨k + 1, by omega, by simp, by rw [lieRow_succ, HLie.out, ← List.append_assoc]; exact HJ8, HP8⟩
                case measure => simp [intOf]; omega
              · have HJx3 := Lib.hid hJx3
                clear hJx3 hy
                refine ⟨.inl (by decide), ?_⟩
                try simp only [Act.put, List.setIfInBounds_toArray, List.set_cons_zero, List.set_cons_succ]
                refine OrdY.OrdAt.seq rfl rfl ?_
                intro X2 hB2
                gi_wp2_with (fail)
                refine ⟨.inl (by decide), OrdY.OrdAt.done ?_⟩
                intro W8 hW8
                refine OrdY.on_normal ?_
                replace hW8 := hB2.trans (hW8.mono hB2.size)
                clear hB2
                have HX8 := Lib.hid (HJXL.out _ _ _ HJx3.out hW8)
                clear hW8
                gi_wp2
                refine bodyPost_ret (results_none rfl _ _ _) rfl ?_
                exact ⟨⟨_, rfl⟩, .inr ⟨_, trivial, HX8.out⟩⟩
          · have ta : decide (0 ≤ va) = false := decide_eq_false ca
            have HLie := Lib.hid (HLie.out.trans (if_neg fun h => ca h.1))
            clear ca
            gi_wp2_with (fail)
            refine OrdY.wpIn_region_ordN 12 [(0, true), (1, true), (2, true), (3, true), (4, true), (6, true), (7, true), (8, true), (9, true), (5, false), (10, false), (11, false), (12, false), (13, false)] (by kernel_rfl) (by kernel_rfl) ?_
            intro Wc hWc
            iterate 3
              apply OrdY.OrdAt.op OrdY.on_put rfl rfl rfl
              · intro X hB
                go_simp
                try rfl
              · dsimp only [List.set_cons_zero, List.set_cons_succ]
            apply OrdY.OrdAt.op OrdY.on_put rfl rfl rfl
            · intro X hB
              have s := OrdY.rd (hWc.g.tr hB) (HIn.out _) (P9.out)
              go_simp
              try rfl
            · dsimp only [List.set_cons_zero, List.set_cons_succ]
            apply OrdY.OrdAt.op OrdY.on_put rfl rfl rfl
            · intro X hB
              have s := OrdY.rd (hWc.g.tr hB) (HIn.out _) (P9.out)
              go_simp
              try rfl
            · dsimp only [List.set_cons_zero, List.set_cons_succ]
            iterate 4
              apply OrdY.OrdAt.op OrdY.on_put rfl rfl rfl
              · intro X hB
                go_simp
                try rfl
              · dsimp only [List.set_cons_zero, List.set_cons_succ]
            refine OrdY.OrdAt.seq rfl rfl ?_
            intro X hB
            have hx := hWc.trans (hB.mono hWc.size)
            have HXa := Lib.hid (HX9.out.trans (hx.mono HX9.out.size))
            have HJa := Lib.hid (HJL.out _ _ _ HJ9.out hx)
            have HPa := Lib.hid (keeps_of_below HP9.out HSZ.out hx)
            gi_wp2_with (fail)
            refine ⟨trivial, (callsIn_wide.2 (c46 f B g base vs X (HF.out.turn HXa.out))).mono ?_⟩
            rintro e W1 ⟨k1, k2, hk1, hk2, rfl, hK, hb⟩
            have HXb := Lib.hid (HXa.out.trans (hb.mono HXa.out.size))
            have HJb := Lib.hid (HJL.out _ _ _ HJa.out hb)
            have HPb := Lib.hid (keeps_of_below HPa.out HSZ.out hb)
            have HKd := Lib.hid hK
            refine ⟨.inr (OrdY.Ext.g hb), ?_⟩
            clear hx hb hK hk1 hk2 hB hWc
            try simp only [Act.put, List.setIfInBounds_toArray, List.set_cons_zero, List.set_cons_succ]
            refine OrdY.OrdAt.seq rfl rfl ?_
            intro X hB
            have HXc := Lib.hid (HXb.out.trans (hB.mono HXb.out.size))
            have HJc := Lib.hid (HJL.out _ _ _ HJb.out hB)
            have HPc := Lib.hid (keeps_of_below HPb.out HSZ.out hB)
            gi_wp2_with (fail)
            refine ⟨trivial, (callsIn_wide.2 (c45 f false B g base vs (i : Int) (k : Int) va vb k1 k2 0 X (HF.out.turn HXc.out) (HKd.out.turn hB) (fun e => by cases e) Hlta.out Hltb.out Hlen.out)).mono ?_⟩
            rintro e W1 ⟨⟨A, cap, rfl, hm⟩, hb⟩
            have HXd := Lib.hid (HXc.out.trans (hb.mono HXc.out.size))
            have HJd := Lib.hid (HJL.out _ _ _ HJc.out hb)
            have HPd := Lib.hid (keeps_of_below HPc.out HSZ.out hb)
            obtain ⟨L, hL⟩ : ∃ L, asked f false (i : Int) (k : Int) va vb = L := ⟨_, rfl⟩
            have HLl : Hid (L.length ≤ 84) := Lib.hid (by rw [← hL]; exact asked_len f _ _ _ _ _ HF.out.in_)
            have HLw : Hid (∀ x ∈ L, x.wf) := Lib.hid (by rw [← hL]; exact asked_wf Hwf.out _ _ _ _ _)
            rw [hL] at hm HLie ⊢
            have Hm := Lib.hid hm
            refine ⟨.inr (OrdY.Ext.g hb), ?_⟩
            clear hm hL hb hB
            try simp only [Act.put, List.setIfInBounds_toArray, List.set_cons_zero, List.set_cons_succ]
            refine OrdY.OrdAt.seq rfl rfl ?_
            intro X hB
            have HXe := Lib.hid (HXd.out.trans (hB.mono HXd.out.size))
            have HJe := Lib.hid (HJL.out _ _ _ HJd.out hB)
            have HPe := Lib.hid (keeps_of_below HPd.out HSZ.out hB)
            gi_wp2_with (fail)
            refine ⟨trivial, (callsIn_wide.2 (c44 (i : Int) (k : Int) true A L cap X (many_sides (Hm.out.below hB)) (Nat.le_trans HLl.out (by omega)) HLw.out)).mono ?_⟩
            rintro e W1 ⟨rfl, hb⟩
            have HXf := Lib.hid (HXe.out.trans (hb.mono HXe.out.size))
            have HJf := Lib.hid (HJL.out _ _ _ HJe.out hb)
            have HPf := Lib.hid (keeps_of_below HPe.out HSZ.out hb)
            obtain ⟨ed, hed⟩ : ∃ ed, edgeOf (i : Int) (k : Int) true L = ed := ⟨_, rfl⟩
            rw [hed] at HLie ⊢
            refine ⟨.inr (OrdY.Ext.g hb), ?_⟩
            clear hb hB hed
            try simp only [Act.put, List.setIfInBounds_toArray, List.set_cons_zero, List.set_cons_succ]
            refine OrdY.OrdAt.seq rfl rfl ?_
            intro X hB
            have HXg := Lib.hid (HXf.out.trans (hB.mono HXf.out.size))
            have HJg := Lib.hid (HJL.out _ _ _ HJf.out hB)
            have HPg := Lib.hid (keeps_of_below HPf.out HSZ.out hB)
            obtain ⟨fn, tmps, assign, body, hy, hR⟩ := HY.out (lieAll f i ++ lieRow f i k) ed X HJg.out (by have := HLen.out; omega)
            unfold encE at hy
            have HRR := Lib.hid hR
            clear hR hB
            gi_wp2_with (fail)
            refine HRR.out.mono ?_
            rintro e W3 (⟨rfl, hJ3, hk3⟩ | ⟨rfl, hJx3⟩)
            · have HJ3 := Lib.hid hJ3
              have HP3 := Lib.hid (HPg.out.trans hk3)
              clear hJ3 hk3 hy
              refine ⟨.inl (by decide), ?_⟩
              try simp only [Act.put, List.setIfInBounds_toArray, List.set_cons_zero, List.set_cons_succ]
              refine OrdY.OrdAt.seq rfl rfl ?_
              intro X2 hB2
              gi_wp2_with (fail)
              refine ⟨.inl (by decide), OrdY.OrdAt.done ?_⟩
              intro W8 hW8
              refine OrdY.on_normal ?_
              replace hW8 := hB2.trans (hW8.mono hB2.size)
              clear hB2
              have HJ8 := Lib.hid (HJL.out _ _ _ HJ3.out hW8)
              have HP8 := Lib.hid (keeps_of_below HP3.out HSZ.out hW8)
              clear hW8
              gi_wp2
              go_roundw
              case rel => exact ⟨k + 1, by omega, by simp, by rw [lieRow_succ, HLie.out, ← List.append_assoc]; exact HJ8, HP8⟩
              case measure => simp [intOf]; omega
            · have HJx3 := Lib.hid hJx3
              clear hJx3 hy
              refine ⟨.inl (by decide), ?_⟩
              try simp only [Act.put, List.setIfInBounds_toArray, List.set_cons_zero, List.set_cons_succ]
              refine OrdY.OrdAt.seq rfl rfl ?_
              intro X2 hB2
              gi_wp2_with (fail)
              refine ⟨.inl (by decide), OrdY.OrdAt.done ?_⟩
              intro W8 hW8
              refine OrdY.on_normal ?_
              replace hW8 := hB2.trans (hW8.mono hB2.size)
              clear hB2
              have HX8 := Lib.hid (HJXL.out _ _ _ HJx3.out hW8)
              clear hW8
              gi_wp2
              refine bodyPost_ret (results_none rfl _ _ _) rfl ?_
              exact ⟨⟨_, rfl⟩, .inr ⟨_, trivial, HX8.out⟩⟩
        · obtain rfl : k = nC := by omega
          have tk : decide ((k : Int) < (k : Int)) = false := decide_eq_false (by omega)
          have f1 : IntKind.i64.wrap ((i : Int) + 1) = (i : Int) + 1 := IntWalk.i64_in _ (by omega)
          gi_wp2
          go_roundw
          case rel =>
            refine ⟨i + 1, by omega, by simp, ?_, HKk⟩
            rw [lieAll_succ, HnC.out, Int.toNat_natCast]
            exact HJk
          case measure => simp [intOf]; omega
    · obtain rfl : i = nR + 1 := by omega
      have ti : decide (((nR + 1 : Nat) : Int) < (nR : Int) + 1) = false := decide_eq_false (by omega)
      have HN := Lib.hid (lieAll_len f HC.out.2 (nR + 1))
      obtain ⟨LL, hLL⟩ : ∃ L, lieAll f (nR + 1) = L := ⟨_, rfl⟩
      have HLL := Lib.hid hLL
      rw [hLL] at HJi HN
      clear hLL
      obtain ⟨a0, a1, a2⟩ := Hz.out wr (HW.out.trans (HKi.out.below fun k hk => hk))
      gi_wp2_with (fail)
      clear a0 a1 a2 ti
      gi_loopw [65] (fun a wr => ∃ i : Nat, i ≤ nR ∧ a = .int .i64 i ∧ Hid (J (LL ++ standAll f i) wr) ∧ Hid (CT.Keeps (fun k => k < w.heap.size) W wr)) (fun a _ => nR - (intOf a).toNat)
      case atStart => exact ⟨0, Nat.zero_le _, rfl, Lib.hid (by simpa [standAll] using HJi.out), HKi⟩
      case round =>
        obtain ⟨i, hi, rfl, HJi, HKi⟩ := hrel
        by_cases hlt : i < nR
        · have ti : decide ((i : Int) < (nR : Int)) = true := decide_eq_true (by omega)
          obtain ⟨a0, a1, a2⟩ := Hz.out wr (HW.out.trans (HKi.out.below fun k hk => hk))
          gi_wp2_with (first | (refine wpIn_label ?_) | (refine wpIn_scope_wide ?_))
          clear a0 a1 a2
          gi_loopw [74] (fun a w2 => ∃ k : Nat, k ≤ nC + 1 ∧ a = .int .i64 k ∧ Hid (J (LL ++ (standAll f i ++ standRow f i k)) w2) ∧ Hid (CT.Keeps (fun k => k < w.heap.size) W w2)) (fun a _ => nC + 1 - (intOf a).toNat)
          case atStart => exact ⟨0, Nat.zero_le _, rfl, Lib.hid (by simpa [standRow] using HJi.out), HKi⟩
          case round =>
            obtain ⟨k, hk, rfl, HJk, HKk⟩ := hrel
            by_cases hlk : k < nC + 1
            · have tk : decide ((k : Int) < (nC : Int) + 1) = true := decide_eq_true (by omega)
              have hB := HW.out.trans (HKk.out.below fun k hk => hk)
              obtain ⟨a0, a1, a2⟩ := Hz.out wr hB
              have P66 := Lib.hid a0
              have HB := Lib.hid hB
              have f1 : IntKind.i64.wrap ((k : Int) - 1) = (k : Int) - 1 := IntWalk.i64_in _ (by omega)
              have f2 : IntKind.i64.wrap ((k : Int) + 1) = (k : Int) + 1 := IntWalk.i64_in _ (by omega)
              obtain ⟨I, hI0⟩ : ∃ I : OrdY.Off, I.row = none := ⟨⟨_⟩, rfl⟩
              have HIn : Hid (∀ b : Nat, some b ≠ OrdY.Off.row) := Lib.hid fun b e => by rw [hI0] at e; cases e
              clear hI0 a0 a1 a2 hB
              have HLie : Hid (standAt f i k = _) := Lib.hid (show standAt f i k = if 0 ≤ who f ((i : Int)) ((k : Int) - 1) ∧ who f ((i : Int)) ((k : Int) - 1) = who f i k then [] else [edgeOf i k false (asked f true k i (who f ((i : Int)) ((k : Int) - 1)) (who f i k))] from rfl)
              have Hlta := Lib.hid (who_lt f ((i : Int)) ((k : Int) - 1))
              have Hltb := Lib.hid (who_lt f (i : Int) (k : Int))
              have HLen : Hid ((LL ++ (standAll f i ++ standRow f i k)).length < 200) := Lib.hid (by rw [List.length_append, List.length_append]; have := HN.out; have := standAll_len f HC.out.2 i; have := standRow_len f i k; omega)
              gi_wp2_with (fail)
              refine OrdY.wpIn_region_ordN 11 [(0, true), (1, true), (2, true), (3, true), (4, true), (5, true), (6, true), (7, true), (8, true), (9, true), (10, true)] (by kernel_rfl) (by kernel_rfl) ?_
              intro Wc hWc
              apply OrdY.OrdAt.op OrdY.on_put rfl rfl rfl
              · intro X hB
                have s := OrdY.rd (hWc.g.tr hB) (HIn.out _) (P66.out)
                go_simp
                try rfl
              · dsimp only [List.set_cons_zero, List.set_cons_succ]
              iterate 3
                apply OrdY.OrdAt.op OrdY.on_put rfl rfl rfl
                · intro X hB
                  go_simp
                  try rfl
                · dsimp only [List.set_cons_zero, List.set_cons_succ]
              apply OrdY.OrdAt.call OrdY.on_put rfl rfl rfl
              · intro X hB
                go_simp
                first | exact ⟨rfl, rfl⟩ | rfl
              · intro X hB
                refine ((c43 f B g base vs ((i : Int)) ((k : Int) - 1) X (HF.out.turn (HB.out.trans ((gxt_below HIn.out (hWc.g.tr hB)).mono HB.out.size))) HR.out.2 HC.out.2)).mono ?_
                rintro e W1 ⟨rfl, rfl⟩
                exact ⟨rfl, Below.refl _ _⟩
              · dsimp only [List.set_cons_zero, List.set_cons_succ]
              apply OrdY.OrdAt.op OrdY.on_put rfl rfl rfl
              · intro X hB
                have s := OrdY.rd (hWc.g.tr hB) (HIn.out _) (P66.out)
                go_simp
                try rfl
              · dsimp only [List.set_cons_zero, List.set_cons_succ]
              iterate 2
                apply OrdY.OrdAt.op OrdY.on_put rfl rfl rfl
                · intro X hB
                  go_simp
                  try rfl
                · dsimp only [List.set_cons_zero, List.set_cons_succ]
              apply OrdY.OrdAt.call OrdY.on_put rfl rfl rfl
              · intro X hB
                go_simp
                first | exact ⟨rfl, rfl⟩ | rfl
              · intro X hB
                refine ((c43 f B g base vs ((i : Int)) ((k : Int)) X (HF.out.turn (HB.out.trans ((gxt_below HIn.out (hWc.g.tr hB)).mono HB.out.size))) HR.out.2 HC.out.2)).mono ?_
                rintro e W1 ⟨rfl, rfl⟩
                exact ⟨rfl, Below.refl _ _⟩
              · dsimp only [List.set_cons_zero, List.set_cons_succ]
              iterate 2
                apply OrdY.OrdAt.op OrdY.on_put rfl rfl rfl
                · intro X hB
                  go_simp
                  try rfl
                · dsimp only [List.set_cons_zero, List.set_cons_succ]
              refine OrdY.OrdAt.done ?_
              intro W9 hW9
              refine OrdY.on_normal ?_
              have hx := hWc.trans (hW9.mono hWc.size)
              have HX9 := Lib.hid (HB.out.trans (hx.mono HB.out.size))
              have HJ9 := Lib.hid (HJL.out _ _ _ HJk.out hx)
              have HP9 := Lib.hid (keeps_of_below HKk.out HSZ.out hx)
              have P9 := Lib.hid (Hz.out W9 HX9.out).1
              clear hx hW9 hWc P66
              generalize who f (i : Int) ((k : Int) - 1) = va at *
              generalize who f (i : Int) (k : Int) = vb at *
              by_cases ca : 0 ≤ va
              · have ta : decide (0 ≤ va) = true := decide_eq_true ca
                by_cases cb : va = vb
                · have tb : (va == vb) = true := by rw [cb]; exact beq_self_eq_true _
                  have hl : standAt f i k = [] := HLie.out.trans (if_pos ⟨ca, cb⟩)
                  have Hl := Lib.hid hl
                  clear hl ca cb
                  gi_wp2
                  go_roundw
                  case rel => exact ⟨k + 1, by omega, by simp, by rw [standRow_succ, Hl.out, List.append_nil]; exact HJ9, HP9⟩
                  case measure => simp [intOf]; omega
                · have tb : (va == vb) = false := by rw [beq_eq_false_iff_ne]; exact cb
                  have HLie := Lib.hid (HLie.out.trans (if_neg fun h => cb h.2))
                  clear ca cb
                  gi_wp2_with (fail)
                  refine OrdY.wpIn_region_ordN 12 [(0, true), (1, true), (2, true), (3, true), (4, true), (6, true), (7, true), (8, true), (9, true), (5, false), (10, false), (11, false), (12, false), (13, false)] (by kernel_rfl) (by kernel_rfl) ?_
                  intro Wc hWc
                  iterate 3
                    apply OrdY.OrdAt.op OrdY.on_put rfl rfl rfl
                    · intro X hB
                      go_simp
                      try rfl
                    · dsimp only [List.set_cons_zero, List.set_cons_succ]
                  apply OrdY.OrdAt.op OrdY.on_put rfl rfl rfl
                  · intro X hB
                    have s := OrdY.rd (hWc.g.tr hB) (HIn.out _) (P9.out)
                    go_simp
                    try rfl
                  · dsimp only [List.set_cons_zero, List.set_cons_succ]
                  apply OrdY.OrdAt.op OrdY.on_put rfl rfl rfl
                  · intro X hB
                    have s := OrdY.rd (hWc.g.tr hB) (HIn.out _) (P9.out)
                    go_simp
                    try rfl
                  · dsimp only [List.set_cons_zero, List.set_cons_succ]
                  iterate 4
                    apply OrdY.OrdAt.op OrdY.on_put rfl rfl rfl
                    · intro X hB
                      go_simp
                      try rfl
                    · dsimp only [List.set_cons_zero, List.set_cons_succ]
                  refine OrdY.OrdAt.seq rfl rfl ?_
                  intro X hB
                  have hx := hWc.trans (hB.mono hWc.size)
                  have HXa := Lib.hid (HX9.out.trans (hx.mono HX9.out.size))
                  have HJa := Lib.hid (HJL.out _ _ _ HJ9.out hx)
                  have HPa := Lib.hid (keeps_of_below HP9.out HSZ.out hx)
                  gi_wp2_with (fail)
                  refine ⟨trivial, (callsIn_wide.2 (c47 f B g base vs X (HF.out.turn HXa.out))).mono ?_⟩
                  rintro e W1 ⟨k1, k2, Bs, hk1, hk2, hk3, rfl, hK, hBs, hb⟩
                  have HXb := Lib.hid (HXa.out.trans (hb.mono HXa.out.size))
                  have HJb := Lib.hid (HJL.out _ _ _ HJa.out hb)
                  have HPb := Lib.hid (keeps_of_below HPa.out HSZ.out hb)
                  have HKd := Lib.hid hK
                  have HBs := Lib.hid hBs
                  refine ⟨.inr (OrdY.Ext.g hb), ?_⟩
                  clear hx hb hK hk1 hk2 hB hWc hk3 hBs
                  try simp only [Act.put, List.setIfInBounds_toArray, List.set_cons_zero, List.set_cons_succ]
                  refine OrdY.OrdAt.seq rfl rfl ?_
                  intro X hB
                  have HXc := Lib.hid (HXb.out.trans (hB.mono HXb.out.size))
                  have HJc := Lib.hid (HJL.out _ _ _ HJb.out hB)
                  have HPc := Lib.hid (keeps_of_below HPb.out HSZ.out hB)
                  gi_wp2_with (fail)
                  refine ⟨trivial, (callsIn_wide.2 (c45 f true B g base vs (k : Int) (i : Int) va vb k1 k2 Bs X (HF.out.turn HXc.out) (HKd.out.turn hB) (fun _ => (hB.block _ (Array.getElem?_eq_some_iff.1 HBs.out).1).trans HBs.out) Hlta.out Hltb.out Hlen.out)).mono ?_⟩
                  rintro e W1 ⟨⟨A, cap, rfl, hm⟩, hb⟩
                  have HXd := Lib.hid (HXc.out.trans (hb.mono HXc.out.size))
                  have HJd := Lib.hid (HJL.out _ _ _ HJc.out hb)
                  have HPd := Lib.hid (keeps_of_below HPc.out HSZ.out hb)
                  obtain ⟨L, hL⟩ : ∃ L, asked f true (k : Int) (i : Int) va vb = L := ⟨_, rfl⟩
                  have HLl : Hid (L.length ≤ 84) := Lib.hid (by rw [← hL]; exact asked_len f _ _ _ _ _ HF.out.in_)
                  have HLw : Hid (∀ x ∈ L, x.wf) := Lib.hid (by rw [← hL]; exact asked_wf Hwf.out _ _ _ _ _)
                  rw [hL] at hm HLie ⊢
                  have Hm := Lib.hid hm
                  refine ⟨.inr (OrdY.Ext.g hb), ?_⟩
                  clear hm hL hb hB
                  try simp only [Act.put, List.setIfInBounds_toArray, List.set_cons_zero, List.set_cons_succ]
                  refine OrdY.OrdAt.seq rfl rfl ?_
                  intro X hB
                  have HXe := Lib.hid (HXd.out.trans (hB.mono HXd.out.size))
                  have HJe := Lib.hid (HJL.out _ _ _ HJd.out hB)
                  have HPe := Lib.hid (keeps_of_below HPd.out HSZ.out hB)
                  gi_wp2_with (fail)
                  refine ⟨trivial, (callsIn_wide.2 (c44 (i : Int) (k : Int) false A L cap X (many_sides (Hm.out.below hB)) (Nat.le_trans HLl.out (by omega)) HLw.out)).mono ?_⟩
                  rintro e W1 ⟨rfl, hb⟩
                  have HXf := Lib.hid (HXe.out.trans (hb.mono HXe.out.size))
                  have HJf := Lib.hid (HJL.out _ _ _ HJe.out hb)
                  have HPf := Lib.hid (keeps_of_below HPe.out HSZ.out hb)
                  obtain ⟨ed, hed⟩ : ∃ ed, edgeOf (i : Int) (k : Int) false L = ed := ⟨_, rfl⟩
                  rw [hed] at HLie ⊢
                  refine ⟨.inr (OrdY.Ext.g hb), ?_⟩
                  clear hb hB hed
                  try simp only [Act.put, List.setIfInBounds_toArray, List.set_cons_zero, List.set_cons_succ]
                  refine OrdY.OrdAt.seq rfl rfl ?_
                  intro X hB
                  have HXg := Lib.hid (HXf.out.trans (hB.mono HXf.out.size))
                  have HJg := Lib.hid (HJL.out _ _ _ HJf.out hB)
                  have HPg := Lib.hid (keeps_of_below HPf.out HSZ.out hB)
                  obtain ⟨fn, tmps, assign, body, hy, hR⟩ := HY.out (LL ++ (standAll f i ++ standRow f i k)) ed X HJg.out (by have := HLen.out; omega)
                  unfold encE at hy
                  have HRR := Lib.hid hR
                  clear hR hB
                  gi_wp2_with (fail)
                  refine HRR.out.mono ?_
                  rintro e W3 (⟨rfl, hJ3, hk3⟩ | ⟨rfl, hJx3⟩)
                  · have HJ3 := Lib.hid hJ3
                    have HP3 := Lib.hid (HPg.out.trans hk3)
                    clear hJ3 hk3 hy
                    refine ⟨.inl (by decide), ?_⟩
                    try simp only [Act.put, List.setIfInBounds_toArray, List.set_cons_zero, List.set_cons_succ]
                    refine OrdY.OrdAt.seq rfl rfl ?_
                    intro X2 hB2
                    gi_wp2_with (fail)
                    refine ⟨.inl (by decide), OrdY.OrdAt.done ?_⟩
                    intro W8 hW8
                    refine OrdY.on_normal ?_
                    replace hW8 := hB2.trans (hW8.mono hB2.size)
                    clear hB2
                    have HJ8 := Lib.hid (HJL.out _ _ _ HJ3.out hW8)
                    have HP8 := Lib.hid (keeps_of_below HP3.out HSZ.out hW8)
                    clear hW8
                    gi_wp2
                    go_roundw
                    case rel => exact ⟨k + 1, by omega, by simp, by rw [standRow_succ, HLie.out, ← List.append_assoc (standAll f i), ← List.append_assoc LL]; exact HJ8, HP8⟩
                    case measure => simp [intOf]; omega
                  · have HJx3 := Lib.hid hJx3
                    clear hJx3 hy
                    refine ⟨.inl (by decide), ?_⟩
                    try simp only [Act.put, List.setIfInBounds_toArray, List.set_cons_zero, List.set_cons_succ]
                    refine OrdY.OrdAt.seq rfl rfl ?_
                    intro X2 hB2
                    gi_wp2_with (fail)
                    refine ⟨.inl (by decide), OrdY.OrdAt.done ?_⟩
                    intro W8 hW8
                    refine OrdY.on_normal ?_
                    replace hW8 := hB2.trans (hW8.mono hB2.size)
                    clear hB2
                    have HX8 := Lib.hid (HJXL.out _ _ _ HJx3.out hW8)
                    clear hW8
                    gi_wp2
                    rw [Exit.noGoto_ret]
                    gi_wp2
                    refine bodyPost_ret (results_none rfl _ _ _) rfl ?_
                    exact ⟨⟨_, rfl⟩, .inr ⟨_, trivial, HX8.out⟩⟩
              · have ta : decide (0 ≤ va) = false := decide_eq_false ca
                have HLie := Lib.hid (HLie.out.trans (if_neg fun h => ca h.1))
                clear ca
                gi_wp2_with (fail)
                refine OrdY.wpIn_region_ordN 12 [(0, true), (1, true), (2, true), (3, true), (4, true), (6, true), (7, true), (8, true), (9, true), (5, false), (10, false), (11, false), (12, false), (13, false)] (by kernel_rfl) (by kernel_rfl) ?_
                intro Wc hWc
                iterate 3
                  apply OrdY.OrdAt.op OrdY.on_put rfl rfl rfl
                  · intro X hB
                    go_simp
                    try rfl
                  · dsimp only [List.set_cons_zero, List.set_cons_succ]
                apply OrdY.OrdAt.op OrdY.on_put rfl rfl rfl
                · intro X hB
                  have s := OrdY.rd (hWc.g.tr hB) (HIn.out _) (P9.out)
                  go_simp
                  try rfl
                · dsimp only [List.set_cons_zero, List.set_cons_succ]
                apply OrdY.OrdAt.op OrdY.on_put rfl rfl rfl
                · intro X hB
                  have s := OrdY.rd (hWc.g.tr hB) (HIn.out _) (P9.out)
                  go_simp
                  try rfl
                · dsimp only [List.set_cons_zero, List.set_cons_succ]
                iterate 4
                  apply OrdY.OrdAt.op OrdY.on_put rfl rfl rfl
                  · intro X hB
                    go_simp
                    try rfl
                  · dsimp only [List.set_cons_zero, List.set_cons_succ]
                refine OrdY.OrdAt.seq rfl rfl ?_
                intro X hB
                have hx := hWc.trans (hB.mono hWc.size)
                have HXa := Lib.hid (HX9.out.trans (hx.mono HX9.out.size))
                have HJa := Lib.hid (HJL.out _ _ _ HJ9.out hx)
                have HPa := Lib.hid (keeps_of_below HP9.out HSZ.out hx)
                gi_wp2_with (fail)
                refine ⟨trivial, (callsIn_wide.2 (c47 f B g base vs X (HF.out.turn HXa.out))).mono ?_⟩
                rintro e W1 ⟨k1, k2, Bs, hk1, hk2, hk3, rfl, hK, hBs, hb⟩
                have HXb := Lib.hid (HXa.out.trans (hb.mono HXa.out.size))
                have HJb := Lib.hid (HJL.out _ _ _ HJa.out hb)
                have HPb := Lib.hid (keeps_of_below HPa.out HSZ.out hb)
                have HKd := Lib.hid hK
                have HBs := Lib.hid hBs
                refine ⟨.inr (OrdY.Ext.g hb), ?_⟩
                clear hx hb hK hk1 hk2 hB hWc hk3 hBs
                try simp only [Act.put, List.setIfInBounds_toArray, List.set_cons_zero, List.set_cons_succ]
                refine OrdY.OrdAt.seq rfl rfl ?_
                intro X hB
                have HXc := Lib.hid (HXb.out.trans (hB.mono HXb.out.size))
                have HJc := Lib.hid (HJL.out _ _ _ HJb.out hB)
                have HPc := Lib.hid (keeps_of_below HPb.out HSZ.out hB)
                gi_wp2_with (fail)
                refine ⟨trivial, (callsIn_wide.2 (c45 f true B g base vs (k : Int) (i : Int) va vb k1 k2 Bs X (HF.out.turn HXc.out) (HKd.out.turn hB) (fun _ => (hB.block _ (Array.getElem?_eq_some_iff.1 HBs.out).1).trans HBs.out) Hlta.out Hltb.out Hlen.out)).mono ?_⟩
                rintro e W1 ⟨⟨A, cap, rfl, hm⟩, hb⟩
                have HXd := Lib.hid (HXc.out.trans (hb.mono HXc.out.size))
                have HJd := Lib.hid (HJL.out _ _ _ HJc.out hb)
                have HPd := Lib.hid (keeps_of_below HPc.out HSZ.out hb)
                obtain ⟨L, hL⟩ : ∃ L, asked f true (k : Int) (i : Int) va vb = L := ⟨_, rfl⟩
                have HLl : Hid (L.length ≤ 84) := Lib.hid (by rw [← hL]; exact asked_len f _ _ _ _ _ HF.out.in_)
                have HLw : Hid (∀ x ∈ L, x.wf) := Lib.hid (by rw [← hL]; exact asked_wf Hwf.out _ _ _ _ _)
                rw [hL] at hm HLie ⊢
                have Hm := Lib.hid hm
                refine ⟨.inr (OrdY.Ext.g hb), ?_⟩
                clear hm hL hb hB
                try simp only [Act.put, List.setIfInBounds_toArray, List.set_cons_zero, List.set_cons_succ]
                refine OrdY.OrdAt.seq rfl rfl ?_
                intro X hB
                have HXe := Lib.hid (HXd.out.trans (hB.mono HXd.out.size))
                have HJe := Lib.hid (HJL.out _ _ _ HJd.out hB)
                have HPe := Lib.hid (keeps_of_below HPd.out HSZ.out hB)
                gi_wp2_with (fail)
                refine ⟨trivial, (callsIn_wide.2 (c44 (i : Int) (k : Int) false A L cap X (many_sides (Hm.out.below hB)) (Nat.le_trans HLl.out (by omega)) HLw.out)).mono ?_⟩
                rintro e W1 ⟨rfl, hb⟩
                have HXf := Lib.hid (HXe.out.trans (hb.mono HXe.out.size))
                have HJf := Lib.hid (HJL.out _ _ _ HJe.out hb)
                have HPf := Lib.hid (keeps_of_below HPe.out HSZ.out hb)
                obtain ⟨ed, hed⟩ : ∃ ed, edgeOf (i : Int) (k : Int) false L = ed := ⟨_, rfl⟩
                rw [hed] at HLie ⊢
                refine ⟨.inr (OrdY.Ext.g hb), ?_⟩
                clear hb hB hed
                try simp only [Act.put, List.setIfInBounds_toArray, List.set_cons_zero, List.set_cons_succ]
                refine OrdY.OrdAt.seq rfl rfl ?_
                intro X hB
                have HXg := Lib.hid (HXf.out.trans (hB.mono HXf.out.size))
                have HJg := Lib.hid (HJL.out _ _ _ HJf.out hB)
                have HPg := Lib.hid (keeps_of_below HPf.out HSZ.out hB)
                obtain ⟨fn, tmps, assign, body, hy, hR⟩ := HY.out (LL ++ (standAll f i ++ standRow f i k)) ed X HJg.out (by have := HLen.out; omega)
                unfold encE at hy
                have HRR := Lib.hid hR
                clear hR hB
                gi_wp2_with (fail)
                refine HRR.out.mono ?_
                rintro e W3 (⟨rfl, hJ3, hk3⟩ | ⟨rfl, hJx3⟩)
                · have HJ3 := Lib.hid hJ3
                  have HP3 := Lib.hid (HPg.out.trans hk3)
                  clear hJ3 hk3 hy
                  refine ⟨.inl (by decide), ?_⟩
                  try simp only [Act.put, List.setIfInBounds_toArray, List.set_cons_zero, List.set_cons_succ]
                  refine OrdY.OrdAt.seq rfl rfl ?_
                  intro X2 hB2
                  gi_wp2_with (fail)
                  refine ⟨.inl (by decide), OrdY.OrdAt.done ?_⟩
                  intro W8 hW8
                  refine OrdY.on_normal ?_
                  replace hW8 := hB2.trans (hW8.mono hB2.size)
                  clear hB2
                  have HJ8 := Lib.hid (HJL.out _ _ _ HJ3.out hW8)
                  have HP8 := Lib.hid (keeps_of_below HP3.out HSZ.out hW8)
                  clear hW8
                  gi_wp2
                  go_roundw
                  case rel => exact ⟨k + 1, by omega, by simp, by rw [standRow_succ, HLie.out, ← List.append_assoc (standAll f i), ← List.append_assoc LL]; exact HJ8, HP8⟩
                  case measure => simp [intOf]; omega
                · have HJx3 := Lib.hid hJx3
                  clear hJx3 hy
                  refine ⟨.inl (by decide), ?_⟩
                  try simp only [Act.put, List.setIfInBounds_toArray, List.set_cons_zero, List.set_cons_succ]
                  refine OrdY.OrdAt.seq rfl rfl ?_
                  intro X2 hB2
                  gi_wp2_with (fail)
                  refine ⟨.inl (by decide), OrdY.OrdAt.done ?_⟩
                  intro W8 hW8
                  refine OrdY.on_normal ?_
                  replace hW8 := hB2.trans (hW8.mono hB2.size)
                  clear hB2
                  have HX8 := Lib.hid (HJXL.out _ _ _ HJx3.out hW8)
                  clear hW8
                  gi_wp2
                  rw [Exit.noGoto_ret]
                  gi_wp2
                  refine bodyPost_ret (results_none rfl _ _ _) rfl ?_
                  exact ⟨⟨_, rfl⟩, .inr ⟨_, trivial, HX8.out⟩⟩
            · obtain rfl : k = nC + 1 := by omega
              have tk : decide (((nC + 1 : Nat) : Int) < (nC : Int) + 1) = false := decide_eq_false (by omega)
              have f1 : IntKind.i64.wrap ((i : Int) + 1) = (i : Int) + 1 := IntWalk.i64_in _ (by omega)
              gi_wp2
              apply_assumption
              gi_wp2
              go_roundw
              case rel =>
                refine ⟨i + 1, by omega, by simp, ?_, HKk⟩
                rw [standAll_succ, HnC.out, Int.toNat_natCast]
                exact HJk
              case measure => simp [intOf]; omega
        · obtain rfl : i = nR := by omega
          have ti : decide ((i : Int) < (i : Int)) = false := decide_eq_false (by omega)
          gi_wp2
          go_end0
          refine ⟨⟨_, rfl⟩, .inl ⟨_, ?_, HJi.out⟩⟩
          rw [← HLL.out]
          unfold allE
          rw [HnR.out, Int.toNat_natCast]
end Go.Proofs.Ytmlcjiabnmdfeaa
