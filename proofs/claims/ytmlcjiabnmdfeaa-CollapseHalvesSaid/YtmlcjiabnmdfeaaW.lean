/- Contract of collapse.halves. -/
import Derived.Test.YtmlcjiabnmdfeaaV
namespace Go.Proofs.Ytmlcjiabnmdfeaa
open Go Go.RowKit Go.Shelf CT
set_option linter.unusedVariables false

theorem four_ext {o p : Nat → Int} (h0 : o 0 = p 0) (h1 : o 1 = p 1) (h2 : o 2 = p 2) (h3 : o 3 = p 3) : four o = four p := by unfold four; rw [h0, h1, h2, h3]
theorem size52 (o : Nat → Int) : (Try.prog.info? 52).map (·.size) = some (four o).size := by
  have h : (Try.prog.info? 52).map (·.size) = some 4 := by kernel_rfl
  exact h
theorem res37 {tmps : Array Value} {W : World} {H : Nat} {o : Nat → Int} (h2 : tmps[6]?.getD undef = .pointer (some ⟨H, 0, none⟩)) (h : W.heap[H]? = some (.cells (four o) 52 (0, 0))) :
    (results Try.f37 tmps).run Try.prog W = .ok (.agg (four o)) W := by
  have c0 : W.cell? ⟨H, 0, none⟩ = some (.int .i64 (o 0)) := cell_of h rfl
  have c1 : W.cell? ⟨H, 1, none⟩ = some (.int .i64 (o 1)) := cell_of h rfl
  have c2 : W.cell? ⟨H, 2, none⟩ = some (.int .i64 (o 2)) := cell_of h rfl
  have c3 : W.cell? ⟨H, 3, none⟩ = some (.int .i64 (o 3)) := cell_of h rfl
  simp [results, Try.results37, go_sem, h2, c0, c1, c2, c3, four]
theorem four_one (o : Nat → Int) : (four o).all (·.oneCell') = true := by simp [four, Value.oneCell']
def Bx.arr (b : Bx) : Array Value := #[.int .i64 b.r, .int .i64 b.c, .int .i64 b.re, .int .i64 b.ce]

set_option maxRecDepth 100000 in
set_option maxHeartbeats 32000000 in
/-- halves -/
theorem c37 (A : Option Addr) (l : List Edge) (cp : Nat) (b : Bx) (wi : Bool) (w : World) (hx : GR.Many Edge.cells 10 w A l) (hl : l.length ≤ 1000000) (hw : ∀ x ∈ l, x.width ≤ 9223372036854775807) :
    Calls Try.prog 37 #[.slice A l.length cp, .agg b.arr, .bool wi] w fun e w' => e = .returned (.agg (four (halvesOf l b wi))) ∧ Below w.heap.size w w' := by
  obtain ⟨w3, hw3⟩ : ∃ w3, ((w.alloc (.cells b.arr 87)).alloc (.cells #[.bool wi] 4)).alloc (.cells (four fun _ => 0) 52) = w3 := ⟨_, rfl⟩
  have hb3 : Below w.heap.size w w3 := by rw [← hw3]; exact (((Below.refl _ w).alloc (Nat.le_refl _) _).alloc (by simp) _).alloc (by simp; omega) _
  have hsz : w3.heap.size = w.heap.size + 1 + 1 + 1 := by rw [← hw3]; simp
  have hBb : w3.heap[w.heap.size]? = some (.cells b.arr 87 (0, 0)) := by
    rw [← hw3]
    exact (Below.heap_alloc _ _ _ (by simp; omega)).trans ((Below.heap_alloc _ _ _ (by simp)).trans (heap_alloc_new w (.cells b.arr 87)))
  have hBw : Boxed w3 (w.heap.size + 1) 4 (.bool wi) := by
    rw [← hw3]
    have := Boxed.new (w.alloc (.cells b.arr 87)) 4 (.bool wi)
    have e : (w.alloc (.cells b.arr 87)).heap.size = w.heap.size + 1 := by simp
    rw [e] at this
    exact this.alloc _
  have hBr : w3.heap[w.heap.size + 1 + 1]? = some (.cells (four fun _ => 0) 52 (0, 0)) := by
    rw [← hw3]
    have := heap_alloc_new ((w.alloc (.cells b.arr 87)).alloc (.cells #[.bool wi] 4)) (.cells (four fun _ => 0) 52)
    have e : ((w.alloc (.cells b.arr 87)).alloc (.cells #[.bool wi] 4)).heap.size = w.heap.size + 1 + 1 := by simp
    rw [e] at this
    exact this
  have hO4 : (w3.alloc (.cells (four fun _ => 0) 52)).heap[w.heap.size + 1 + 1 + 1]? = some (.cells (four fun _ => 0) 52 (0, 0)) := by
    have := heap_alloc_new w3 (.cells (four fun _ => 0) 52)
    rw [hsz] at this
    exact this
  have h34 : Below (w.heap.size + 1 + 1 + 1) w3 (w3.alloc (.cells (four fun _ => 0) 52)) := by rw [← hsz]; exact (Below.refl _ w3).alloc (Nat.le_refl _) _
  have HB3 := Lib.hid hb3
  have HX := Lib.hid (hx.below hb3)
  have HBb := Lib.hid hBb
  have HBw := Lib.hid hBw
  have HBr := Lib.hid hBr
  have HO4 : Hid ((w3.alloc (.cells #[.int .i64 0, .int .i64 0, .int .i64 0, .int .i64 0] 52)).heap[w.heap.size + 1 + 1 + 1]? = some (.cells (four fun _ => 0) 52 (0, 0))) := Lib.hid hO4
  have H34 : Hid (Below (w.heap.size + 1 + 1 + 1) w3 (w3.alloc (.cells #[.int .i64 0, .int .i64 0, .int .i64 0, .int .i64 0] 52))) := Lib.hid h34
  have HW3 := Lib.hid hw3
  have HSZ := Lib.hid hsz
  have Hw := Lib.hid hw
  have Hl := Lib.hid hl
  unfold Bx.arr four at hw3
  dsimp only at hw3
  obtain ⟨n, hn⟩ : ∃ n : Nat, l.length = n := ⟨_, rfl⟩
  have HN := Lib.hid hn
  have hn6 : n ≤ 1000000 := by omega
  rw [hn]
  clear hb3 hx hBb hBw hBr hO4 h34 hsz hw hl hn
  have HW4 := Lib.hid hw3
  clear hw3
  obtain ⟨br, bc, bre, bce⟩ := b
  unfold Bx.arr
  dsimp only at HW4 ⊢
  go_enter Try.func37, Try.ntmps37
  go_wp2_with (fail)
  rw [HW4.out]
  clear HW4 HW3
  have HLo : Hid (w.heap.size < w.heap.size + 1 + 1 + 1 ∧ w.heap.size + 1 < w.heap.size + 1 + 1 + 1 ∧ w.heap.size + 1 + 1 < w.heap.size + 1 + 1 + 1 ∧ w.heap.size ≤ w.heap.size + 1 + 1) := Lib.hid ⟨by omega, by omega, by omega, by omega⟩
  generalize w.heap.size + 1 + 1 + 1 = Bo at *
  generalize w.heap.size + 1 + 1 = Br at *
  generalize w.heap.size + 1 = Bw at *
  generalize w3.alloc (.cells #[.int .i64 0, .int .i64 0, .int .i64 0, .int .i64 0] 52) = w4 at *
  go_loopw [16] (fun a wr => ∃ i : Nat, i ≤ n ∧ a = .int .i64 i ∧ Hid (wr.heap[Bo]? = some (.cells (four (halvesOf (l.take i) ⟨br, bc, bre, bce⟩ wi)) 52 (0, 0))) ∧ Hid (Below Bo w4 wr)) (fun a _ => n - (intOf a).toNat)
  case atStart => exact ⟨0, by omega, rfl, HO4, Lib.hid (Below.refl _ _)⟩
  case round =>
    obtain ⟨i, hi, rfl, HOi, HBi⟩ := hrel
    by_cases hlt : i < n
    · have ti : decide ((i : Int) < (n : Int)) = true := decide_eq_true (by omega)
      have h3r : Below Bo w3 wr := H34.out.trans HBi.out
      have hxr := (HX.out.below (h3r.mono (Nat.le_of_eq HSZ.out))).get i (by rw [HN.out]; exact hlt)
      obtain ⟨x, bb, off, hxk, hAd, hat, _⟩ := hxr
      subst hAd
      have hik : l[i]? = some x := by
        have hlt' : i < l.length := by rw [HN.out]; exact hlt
        have h1 := hxk.out
        rw [List.getElem?_eq_getElem hlt'] at h1 ⊢
        rw [← h1]; rfl
      have hxw : x.width ≤ 9223372036854775807 := Hw.out x (List.mem_of_getElem? hik)
      have Hxw := Lib.hid hxw
      have hba : Below wr.heap.size wr (wr.alloc (.cells x.arr 47)) := (Below.refl _ _).alloc (Nat.le_refl _) _
      have HXA : Hid ((wr.alloc (.cells x.arr 47)).heap[wr.heap.size]? = some (.cells x.arr 47 (0, 0))) := Lib.hid (heap_alloc_new _ _)
      have hlo : Bo < wr.heap.size := (Array.getElem?_eq_some_iff.1 HOi.out).1
      have HOA := Lib.hid ((hba.block _ hlo).trans HOi.out)
      have HB5 := Lib.hid (HBi.out.trans (hba.mono (Nat.le_of_lt hlo)))
      have f9 : IntKind.i64.wrap ((i : Int) + 1) = (i : Int) + 1 := IntWalk.i64_in _ (by omega)
      have hn : ∀ k, halvesOf (l.take (i + 1)) ⟨br, bc, bre, bce⟩ wi k = stepH ⟨br, bc, bre, bce⟩ wi k (halvesOf (l.take i) ⟨br, bc, bre, bce⟩ wi k) x := fun k => by
        have e : l.take (i + 1) = l.take i ++ [x] := by rw [List.take_add_one, hik]; rfl
        unfold halvesOf
        rw [e, List.foldl_append]
        rfl
      obtain ⟨o, ho⟩ : ∃ o, halvesOf (l.take i) ⟨br, bc, bre, bce⟩ wi = o := ⟨_, rfl⟩
      rw [ho] at hn HOA
      have Hn := Lib.hid hn
      clear hn ho hxk hba hxw h3r hlo hik
      obtain ⟨e0, e1, e2, e3, e4, e5, e6, e7, e8, e9⟩ := x
      have p0 : wr.cell? ⟨bb, off + i * 10, none⟩ = some (.int .i64 e0) := hat 0 _ rfl
      have p1 : wr.cell? ⟨bb, off + i * 10 + 1, none⟩ = some (.int .i64 e1) := hat 1 _ rfl
      have p2 : wr.cell? ⟨bb, off + i * 10 + 2, none⟩ = some (.bool e2) := hat 2 _ rfl
      have p3 : wr.cell? ⟨bb, off + i * 10 + 3, none⟩ = some (.int .i64 e3) := hat 3 _ rfl
      have p4 : wr.cell? ⟨bb, off + i * 10 + 4, none⟩ = some (.int .i64 e4) := hat 4 _ rfl
      have p5 : wr.cell? ⟨bb, off + i * 10 + 5, none⟩ = some (.int .u32 e5) := hat 5 _ rfl
      have p6 : wr.cell? ⟨bb, off + i * 10 + 6, none⟩ = some (.int .i64 e6) := hat 6 _ rfl
      have p7 : wr.cell? ⟨bb, off + i * 10 + 7, none⟩ = some (.int .i64 e7) := hat 7 _ rfl
      have p8 : wr.cell? ⟨bb, off + i * 10 + 8, none⟩ = some (.int .i64 e8) := hat 8 _ rfl
      have p9 : wr.cell? ⟨bb, off + i * 10 + 9, none⟩ = some (.int .i64 e9) := hat 9 _ rfl
      have H58 := Lib.hid fun (k : Nat) hk fi (o : Nat → Int) W ho hw => c58 k hk ⟨e0, e1, e2, e3, e4, e5, e6, e7, e8, e9⟩ Hxw.out fi wi Bo Bw o W ho hw
      unfold Edge.arr at *
      dsimp only at HXA HOA HB5 H58 ⊢
      clear hat Hxw
      obtain ⟨c1, hc1⟩ : ∃ c, decide (bc ≤ e1) = c := ⟨_, rfl⟩
      obtain ⟨c2, hc2⟩ : ∃ c, decide (e1 < bce) = c := ⟨_, rfl⟩
      obtain ⟨r1, hr1⟩ : ∃ c, decide (br ≤ e0) = c := ⟨_, rfl⟩
      obtain ⟨r2, hr2⟩ : ∃ c, decide (e0 < bre) = c := ⟨_, rfl⟩
      obtain ⟨q0, hq0⟩ : ∃ c, (e0 == br) = c := ⟨_, rfl⟩
      obtain ⟨q1, hq1⟩ : ∃ c, (e1 == bce) = c := ⟨_, rfl⟩
      obtain ⟨q2, hq2⟩ : ∃ c, (e0 == bre) = c := ⟨_, rfl⟩
      obtain ⟨q3, hq3⟩ : ∃ c, (e1 == bc) = c := ⟨_, rfl⟩
      have HS : Hid (∀ m, stepH ⟨br, bc, bre, bce⟩ wi 0 m ⟨e0, e1, e2, e3, e4, e5, e6, e7, e8, e9⟩ = (if (e2 && (c1 && c2) && q0) = true then mx m (CT.half e4 (true == wi)) else m) ∧ stepH ⟨br, bc, bre, bce⟩ wi 1 m ⟨e0, e1, e2, e3, e4, e5, e6, e7, e8, e9⟩ = (if (!e2 && (r1 && r2) && q1) = true then mx m (CT.half e4 (false == wi)) else m) ∧
          stepH ⟨br, bc, bre, bce⟩ wi 2 m ⟨e0, e1, e2, e3, e4, e5, e6, e7, e8, e9⟩ = (if (e2 && (c1 && c2) && q2) = true then mx m (CT.half e4 (false == wi)) else m) ∧ stepH ⟨br, bc, bre, bce⟩ wi 3 m ⟨e0, e1, e2, e3, e4, e5, e6, e7, e8, e9⟩ = (if (!e2 && (r1 && r2) && q3) = true then mx m (CT.half e4 (true == wi)) else m)) := Lib.hid fun m => by
        subst hc1 hc2 hr1 hr2 hq0 hq1 hq2 hq3
        exact ⟨rfl, rfl, rfl, rfl⟩
      obtain ⟨I, hI0⟩ : ∃ I : OrdX.Off, I.row = none := ⟨⟨_⟩, rfl⟩
      have HIn : Hid (∀ b : Nat, some b ≠ OrdX.Off.row) := Lib.hid fun b e => by rw [hI0] at e; cases e
      have HC1 := Lib.hid hc1
      have HC2 := Lib.hid hc2
      have HR1 := Lib.hid hr1
      have HR2 := Lib.hid hr2
      have HQ0 := Lib.hid hq0
      have HQ1 := Lib.hid hq1
      have HQ2 := Lib.hid hq2
      have HQ3 := Lib.hid hq3
      clear hI0 hc1 hc2 hr1 hr2 hq0 hq1 hq2 hq3
      go_wp2_with (fail)
      clear p0 p1 p2 p3 p4 p5 p6 p7 p8 p9
      generalize wr.alloc (.cells #[.int .i64 e0, .int .i64 e1, .bool e2, .int .i64 e3, .int .i64 e4, .int .u32 e5, .int .i64 e6, .int .i64 e7, .int .i64 e8, .int .i64 e9] 47) = wx at *
      generalize wr.heap.size = XB at *
      have E0 : Hid (_ = some (Value.int .i64 e0)) := Lib.hid (cell_of (j := 0) HXA.out rfl)
      have E1 : Hid (_ = some (Value.int .i64 e1)) := Lib.hid (cell_of (j := 1) HXA.out rfl)
      have HBX := Lib.hid ((H34.out.trans HB5.out).block _ HLo.out.1 |>.trans HBb.out)
      have B0 : Hid (_ = some (Value.int .i64 br)) := Lib.hid (cell_of (j := 0) HBX.out rfl)
      have B1 : Hid (_ = some (Value.int .i64 bc)) := Lib.hid (cell_of (j := 1) HBX.out rfl)
      have B2 : Hid (_ = some (Value.int .i64 bre)) := Lib.hid (cell_of (j := 2) HBX.out rfl)
      have B3 : Hid (_ = some (Value.int .i64 bce)) := Lib.hid (cell_of (j := 3) HBX.out rfl)
      cases c1 with
      | true =>
        cases r1 with
        | true =>
          refine OrdX.wp_region_ordN 26 [(0, true), (1, true), (2, true), (3, true), (4, true), (5, true), (6, true), (7, true), (8, true), (9, true), (10, true), (11, true), (12, true), (13, true), (14, true), (15, true), (16, true), (17, true), (18, true), (19, true), (20, true), (21, true), (22, true), (23, true), (24, true), (25, true)] (by kernel_rfl) (by kernel_rfl) ?_
          intro Wc hWc
          apply OrdX.OrdAt.op OrdX.on_put rfl rfl rfl
          · intro X hB
            go_simp
            try rfl
          · dsimp only [List.set_cons_zero, List.set_cons_succ]
          apply OrdX.OrdAt.op OrdX.on_put rfl rfl rfl
          · intro X hB
            have s := OrdX.rd (hWc.g.tr hB) (HIn.out _) (E1.out)
            go_simp
            try rfl
          · dsimp only [List.set_cons_zero, List.set_cons_succ]
          apply OrdX.OrdAt.op OrdX.on_put rfl rfl rfl
          · intro X hB
            go_simp
            try rfl
          · dsimp only [List.set_cons_zero, List.set_cons_succ]
          apply OrdX.OrdAt.op OrdX.on_put rfl rfl rfl
          · intro X hB
            have s := OrdX.rd (hWc.g.tr hB) (HIn.out _) (B1.out)
            go_simp
            try rfl
          · dsimp only [List.set_cons_zero, List.set_cons_succ]
          apply OrdX.OrdAt.op OrdX.on_put rfl rfl rfl
          · intro X hB
            have sc := HC1.out
            go_simp
            try rfl
          · dsimp only [List.set_cons_zero, List.set_cons_succ]
          apply OrdX.OrdAt.op OrdX.on_put rfl rfl rfl
          · intro X hB
            go_simp
            try rfl
          · dsimp only [List.set_cons_zero, List.set_cons_succ]
          apply OrdX.OrdAt.op_if OrdX.on_put rfl rfl rfl
          · intro X hB
            go_simp
            try rfl
          · dsimp only [List.set_cons_zero, List.set_cons_succ]
          apply OrdX.OrdAt.op_if OrdX.on_put rfl rfl rfl
          · intro X hB
            have s := OrdX.rd (hWc.g.tr hB) (HIn.out _) (E1.out)
            go_simp
            try rfl
          · dsimp only [List.set_cons_zero, List.set_cons_succ]
          apply OrdX.OrdAt.op_if OrdX.on_put rfl rfl rfl
          · intro X hB
            go_simp
            try rfl
          · dsimp only [List.set_cons_zero, List.set_cons_succ]
          apply OrdX.OrdAt.op_if OrdX.on_put rfl rfl rfl
          · intro X hB
            have s := OrdX.rd (hWc.g.tr hB) (HIn.out _) (B3.out)
            go_simp
            try rfl
          · dsimp only [List.set_cons_zero, List.set_cons_succ]
          apply OrdX.OrdAt.op_if OrdX.on_put rfl rfl rfl
          · intro X hB
            have sc := HC2.out
            go_simp
            try rfl
          · dsimp only [List.set_cons_zero, List.set_cons_succ]
          iterate 2
            apply OrdX.OrdAt.op OrdX.on_put rfl rfl rfl
            · intro X hB
              go_simp
              try rfl
            · dsimp only [List.set_cons_zero, List.set_cons_succ]
          apply OrdX.OrdAt.op OrdX.on_put rfl rfl rfl
          · intro X hB
            have s := OrdX.rd (hWc.g.tr hB) (HIn.out _) (E0.out)
            go_simp
            try rfl
          · dsimp only [List.set_cons_zero, List.set_cons_succ]
          apply OrdX.OrdAt.op OrdX.on_put rfl rfl rfl
          · intro X hB
            go_simp
            try rfl
          · dsimp only [List.set_cons_zero, List.set_cons_succ]
          apply OrdX.OrdAt.op OrdX.on_put rfl rfl rfl
          · intro X hB
            have s := OrdX.rd (hWc.g.tr hB) (HIn.out _) (B0.out)
            go_simp
            try rfl
          · dsimp only [List.set_cons_zero, List.set_cons_succ]
          apply OrdX.OrdAt.op OrdX.on_put rfl rfl rfl
          · intro X hB
            have sc := HR1.out
            go_simp
            try rfl
          · dsimp only [List.set_cons_zero, List.set_cons_succ]
          apply OrdX.OrdAt.op OrdX.on_put rfl rfl rfl
          · intro X hB
            go_simp
            try rfl
          · dsimp only [List.set_cons_zero, List.set_cons_succ]
          apply OrdX.OrdAt.op_if OrdX.on_put rfl rfl rfl
          · intro X hB
            go_simp
            try rfl
          · dsimp only [List.set_cons_zero, List.set_cons_succ]
          apply OrdX.OrdAt.op_if OrdX.on_put rfl rfl rfl
          · intro X hB
            have s := OrdX.rd (hWc.g.tr hB) (HIn.out _) (E0.out)
            go_simp
            try rfl
          · dsimp only [List.set_cons_zero, List.set_cons_succ]
          apply OrdX.OrdAt.op_if OrdX.on_put rfl rfl rfl
          · intro X hB
            go_simp
            try rfl
          · dsimp only [List.set_cons_zero, List.set_cons_succ]
          apply OrdX.OrdAt.op_if OrdX.on_put rfl rfl rfl
          · intro X hB
            have s := OrdX.rd (hWc.g.tr hB) (HIn.out _) (B2.out)
            go_simp
            try rfl
          · dsimp only [List.set_cons_zero, List.set_cons_succ]
          apply OrdX.OrdAt.op_if OrdX.on_put rfl rfl rfl
          · intro X hB
            have sc := HR2.out
            go_simp
            try rfl
          · dsimp only [List.set_cons_zero, List.set_cons_succ]
          iterate 3
            apply OrdX.OrdAt.op OrdX.on_put rfl rfl rfl
            · intro X hB
              go_simp
              try rfl
            · dsimp only [List.set_cons_zero, List.set_cons_succ]
          refine OrdX.OrdAt.done ?_
          intro W9 hW9
          refine OrdX.on_normal ?_
          have hx := hWc.trans (hW9.mono hWc.size)
          have HX9 := Lib.hid ((hx.block _ (Array.getElem?_eq_some_iff.1 HXA.out).1).trans HXA.out)
          have HO9 := Lib.hid ((hx.block _ (Array.getElem?_eq_some_iff.1 HOA.out).1).trans HOA.out)
          have HB9 := Lib.hid (HB5.out.trans (hx.mono (Nat.le_of_lt (Array.getElem?_eq_some_iff.1 HOA.out).1)))
          clear hx hW9 hWc E0 E1 HBX B0 B1 B2 B3 HC1 HC2 HR1 HR2 HIn
          cases e2 with
          | true =>
            cases c2 with
            | true =>
              cases q0 with
              | true =>
                have ta := HQ0.out
                have hbx9 := (H34.out.trans HB9.out).block _ HLo.out.1 |>.trans HBb.out
                have g09 := cell_of (j := 0) HX9.out rfl
                have g19 := cell_of (j := 1) HX9.out rfl
                have g29 := cell_of (j := 2) HX9.out rfl
                have g39 := cell_of (j := 3) HX9.out rfl
                have g49 := cell_of (j := 4) HX9.out rfl
                have g59 := cell_of (j := 5) HX9.out rfl
                have g69 := cell_of (j := 6) HX9.out rfl
                have g79 := cell_of (j := 7) HX9.out rfl
                have g89 := cell_of (j := 8) HX9.out rfl
                have g99 := cell_of (j := 9) HX9.out rfl
                have h09 : W9.cell? ⟨w.heap.size, 0, none⟩ = some (.int .i64 br) := cell_of hbx9 rfl
                have h19 : W9.cell? ⟨w.heap.size, 1, none⟩ = some (.int .i64 bc) := cell_of hbx9 rfl
                have h29 : W9.cell? ⟨w.heap.size, 2, none⟩ = some (.int .i64 bre) := cell_of hbx9 rfl
                have h39 : W9.cell? ⟨w.heap.size, 3, none⟩ = some (.int .i64 bce) := cell_of hbx9 rfl
                clear hbx9
                go_wp2_with (fail)
                refine (H58.out 0 (by decide) true (o) _ HO9.out (((H34.out.trans HB9.out).block _ HLo.out.2.1).trans HBw.out)).mono ?_
                rintro e Wy ⟨⟨vy, rfl⟩, hO, hg⟩
                have HOy := Lib.hid hO
                have HBy : Hid (Below Bo w4 Wy) := Lib.hid (HB9.out.trans ⟨hg.os, hg.tape, hg.output, hg.size, fun q hq => hg.block q (Nat.lt_trans hq (Array.getElem?_eq_some_iff.1 HO9.out).1) (fun e => by have := Option.some.inj e; omega)⟩)
                have HXy := Lib.hid ((hg.block XB (Array.getElem?_eq_some_iff.1 HX9.out).1 (fun e => by
                  have e2 := Option.some.inj e
                  have h1 := HX9.out
                  rw [e2, HO9.out] at h1
                  simp [four] at h1)).trans HX9.out)
                clear hO hg
                clear g09 g19 g29 g39 g49 g59 g69 g79 g89 g99 h09 h19 h29 h39
                have hbxy := (H34.out.trans HBy.out).block _ HLo.out.1 |>.trans HBb.out
                have g0y := cell_of (j := 0) HXy.out rfl
                have g1y := cell_of (j := 1) HXy.out rfl
                have g2y := cell_of (j := 2) HXy.out rfl
                have g3y := cell_of (j := 3) HXy.out rfl
                have g4y := cell_of (j := 4) HXy.out rfl
                have g5y := cell_of (j := 5) HXy.out rfl
                have g6y := cell_of (j := 6) HXy.out rfl
                have g7y := cell_of (j := 7) HXy.out rfl
                have g8y := cell_of (j := 8) HXy.out rfl
                have g9y := cell_of (j := 9) HXy.out rfl
                have h0y : Wy.cell? ⟨w.heap.size, 0, none⟩ = some (.int .i64 br) := cell_of hbxy rfl
                have h1y : Wy.cell? ⟨w.heap.size, 1, none⟩ = some (.int .i64 bc) := cell_of hbxy rfl
                have h2y : Wy.cell? ⟨w.heap.size, 2, none⟩ = some (.int .i64 bre) := cell_of hbxy rfl
                have h3y : Wy.cell? ⟨w.heap.size, 3, none⟩ = some (.int .i64 bce) := cell_of hbxy rfl
                clear hbxy
                cases q2 with
                | true =>
                  have tb := HQ2.out
                  go_wp2_with (fail)
                  refine (H58.out 2 (by decide) false (upd (o) 0 (mx ((o) 0) (CT.half e4 (true == wi)))) _ HOy.out (((H34.out.trans HBy.out).block _ HLo.out.2.1).trans HBw.out)).mono ?_
                  rintro e Wz ⟨⟨vz, rfl⟩, hO, hg⟩
                  have HOz := Lib.hid hO
                  have HBz : Hid (Below Bo w4 Wz) := Lib.hid (HBy.out.trans ⟨hg.os, hg.tape, hg.output, hg.size, fun q hq => hg.block q (Nat.lt_trans hq (Array.getElem?_eq_some_iff.1 HOy.out).1) (fun e => by have := Option.some.inj e; omega)⟩)
                  have HXz := Lib.hid ((hg.block XB (Array.getElem?_eq_some_iff.1 HXy.out).1 (fun e => by
                    have e2 := Option.some.inj e
                    have h1 := HXy.out
                    rw [e2, HOy.out] at h1
                    simp [four] at h1)).trans HXy.out)
                  clear hO hg
                  clear g0y g1y g2y g3y g4y g5y g6y g7y g8y g9y h0y h1y h2y h3y
                  have hbxz := (H34.out.trans HBz.out).block _ HLo.out.1 |>.trans HBb.out
                  have g0z := cell_of (j := 0) HXz.out rfl
                  have g1z := cell_of (j := 1) HXz.out rfl
                  have g2z := cell_of (j := 2) HXz.out rfl
                  have g3z := cell_of (j := 3) HXz.out rfl
                  have g4z := cell_of (j := 4) HXz.out rfl
                  have g5z := cell_of (j := 5) HXz.out rfl
                  have g6z := cell_of (j := 6) HXz.out rfl
                  have g7z := cell_of (j := 7) HXz.out rfl
                  have g8z := cell_of (j := 8) HXz.out rfl
                  have g9z := cell_of (j := 9) HXz.out rfl
                  have h0z : Wz.cell? ⟨w.heap.size, 0, none⟩ = some (.int .i64 br) := cell_of hbxz rfl
                  have h1z : Wz.cell? ⟨w.heap.size, 1, none⟩ = some (.int .i64 bc) := cell_of hbxz rfl
                  have h2z : Wz.cell? ⟨w.heap.size, 2, none⟩ = some (.int .i64 bre) := cell_of hbxz rfl
                  have h3z : Wz.cell? ⟨w.heap.size, 3, none⟩ = some (.int .i64 bce) := cell_of hbxz rfl
                  clear hbxz
                  go_wp2_with (fail)
                  go_roundw
                  case rel =>
                    refine ⟨i + 1, by omega, by go_num, ?_, HBz⟩
                    rw [show four (halvesOf (l.take (i + 1)) ⟨br, bc, bre, bce⟩ wi) = four (upd (upd (o) 0 (mx ((o) 0) (CT.half e4 (true == wi)))) 2 (mx ((upd (o) 0 (mx ((o) 0) (CT.half e4 (true == wi)))) 2) (CT.half e4 (false == wi)))) from four_ext (by rw [Hn.out, (HS.out _).1]; rfl) (by rw [Hn.out, (HS.out _).2.1]; rfl) (by rw [Hn.out, (HS.out _).2.2.1]; rfl) (by rw [Hn.out, (HS.out _).2.2.2]; rfl)]
                    exact HOz
                  case measure => simp [intOf]; omega
                | false =>
                  have tb := HQ2.out
                  go_wp2_with (fail)
                  go_roundw
                  case rel =>
                    refine ⟨i + 1, by omega, by go_num, ?_, HBy⟩
                    rw [show four (halvesOf (l.take (i + 1)) ⟨br, bc, bre, bce⟩ wi) = four (upd (o) 0 (mx ((o) 0) (CT.half e4 (true == wi)))) from four_ext (by rw [Hn.out, (HS.out _).1]; rfl) (by rw [Hn.out, (HS.out _).2.1]; rfl) (by rw [Hn.out, (HS.out _).2.2.1]; rfl) (by rw [Hn.out, (HS.out _).2.2.2]; rfl)]
                    exact HOy
                  case measure => simp [intOf]; omega
              | false =>
                have ta := HQ0.out
                have hbx9 := (H34.out.trans HB9.out).block _ HLo.out.1 |>.trans HBb.out
                have g09 := cell_of (j := 0) HX9.out rfl
                have g19 := cell_of (j := 1) HX9.out rfl
                have g29 := cell_of (j := 2) HX9.out rfl
                have g39 := cell_of (j := 3) HX9.out rfl
                have g49 := cell_of (j := 4) HX9.out rfl
                have g59 := cell_of (j := 5) HX9.out rfl
                have g69 := cell_of (j := 6) HX9.out rfl
                have g79 := cell_of (j := 7) HX9.out rfl
                have g89 := cell_of (j := 8) HX9.out rfl
                have g99 := cell_of (j := 9) HX9.out rfl
                have h09 : W9.cell? ⟨w.heap.size, 0, none⟩ = some (.int .i64 br) := cell_of hbx9 rfl
                have h19 : W9.cell? ⟨w.heap.size, 1, none⟩ = some (.int .i64 bc) := cell_of hbx9 rfl
                have h29 : W9.cell? ⟨w.heap.size, 2, none⟩ = some (.int .i64 bre) := cell_of hbx9 rfl
                have h39 : W9.cell? ⟨w.heap.size, 3, none⟩ = some (.int .i64 bce) := cell_of hbx9 rfl
                clear hbx9
                cases q2 with
                | true =>
                  have tb := HQ2.out
                  go_wp2_with (fail)
                  refine (H58.out 2 (by decide) false (o) _ HO9.out (((H34.out.trans HB9.out).block _ HLo.out.2.1).trans HBw.out)).mono ?_
                  rintro e Wz ⟨⟨vz, rfl⟩, hO, hg⟩
                  have HOz := Lib.hid hO
                  have HBz : Hid (Below Bo w4 Wz) := Lib.hid (HB9.out.trans ⟨hg.os, hg.tape, hg.output, hg.size, fun q hq => hg.block q (Nat.lt_trans hq (Array.getElem?_eq_some_iff.1 HO9.out).1) (fun e => by have := Option.some.inj e; omega)⟩)
                  have HXz := Lib.hid ((hg.block XB (Array.getElem?_eq_some_iff.1 HX9.out).1 (fun e => by
                    have e2 := Option.some.inj e
                    have h1 := HX9.out
                    rw [e2, HO9.out] at h1
                    simp [four] at h1)).trans HX9.out)
                  clear hO hg
                  clear g09 g19 g29 g39 g49 g59 g69 g79 g89 g99 h09 h19 h29 h39
                  have hbxz := (H34.out.trans HBz.out).block _ HLo.out.1 |>.trans HBb.out
                  have g0z := cell_of (j := 0) HXz.out rfl
                  have g1z := cell_of (j := 1) HXz.out rfl
                  have g2z := cell_of (j := 2) HXz.out rfl
                  have g3z := cell_of (j := 3) HXz.out rfl
                  have g4z := cell_of (j := 4) HXz.out rfl
                  have g5z := cell_of (j := 5) HXz.out rfl
                  have g6z := cell_of (j := 6) HXz.out rfl
                  have g7z := cell_of (j := 7) HXz.out rfl
                  have g8z := cell_of (j := 8) HXz.out rfl
                  have g9z := cell_of (j := 9) HXz.out rfl
                  have h0z : Wz.cell? ⟨w.heap.size, 0, none⟩ = some (.int .i64 br) := cell_of hbxz rfl
                  have h1z : Wz.cell? ⟨w.heap.size, 1, none⟩ = some (.int .i64 bc) := cell_of hbxz rfl
                  have h2z : Wz.cell? ⟨w.heap.size, 2, none⟩ = some (.int .i64 bre) := cell_of hbxz rfl
                  have h3z : Wz.cell? ⟨w.heap.size, 3, none⟩ = some (.int .i64 bce) := cell_of hbxz rfl
                  clear hbxz
                  go_wp2_with (fail)
                  go_roundw
                  case rel =>
                    refine ⟨i + 1, by omega, by go_num, ?_, HBz⟩
                    rw [show four (halvesOf (l.take (i + 1)) ⟨br, bc, bre, bce⟩ wi) = four (upd (o) 2 (mx ((o) 2) (CT.half e4 (false == wi)))) from four_ext (by rw [Hn.out, (HS.out _).1]; rfl) (by rw [Hn.out, (HS.out _).2.1]; rfl) (by rw [Hn.out, (HS.out _).2.2.1]; rfl) (by rw [Hn.out, (HS.out _).2.2.2]; rfl)]
                    exact HOz
                  case measure => simp [intOf]; omega
                | false =>
                  have tb := HQ2.out
                  go_wp2_with (fail)
                  go_roundw
                  case rel =>
                    refine ⟨i + 1, by omega, by go_num, ?_, HB9⟩
                    rw [show four (halvesOf (l.take (i + 1)) ⟨br, bc, bre, bce⟩ wi) = four (o) from four_ext (by rw [Hn.out, (HS.out _).1]; rfl) (by rw [Hn.out, (HS.out _).2.1]; rfl) (by rw [Hn.out, (HS.out _).2.2.1]; rfl) (by rw [Hn.out, (HS.out _).2.2.2]; rfl)]
                    exact HO9
                  case measure => simp [intOf]; omega
            | false =>
              have hbx9 := (H34.out.trans HB9.out).block _ HLo.out.1 |>.trans HBb.out
              have g09 := cell_of (j := 0) HX9.out rfl
              have g19 := cell_of (j := 1) HX9.out rfl
              have g29 := cell_of (j := 2) HX9.out rfl
              have g39 := cell_of (j := 3) HX9.out rfl
              have g49 := cell_of (j := 4) HX9.out rfl
              have g59 := cell_of (j := 5) HX9.out rfl
              have g69 := cell_of (j := 6) HX9.out rfl
              have g79 := cell_of (j := 7) HX9.out rfl
              have g89 := cell_of (j := 8) HX9.out rfl
              have g99 := cell_of (j := 9) HX9.out rfl
              have h09 : W9.cell? ⟨w.heap.size, 0, none⟩ = some (.int .i64 br) := cell_of hbx9 rfl
              have h19 : W9.cell? ⟨w.heap.size, 1, none⟩ = some (.int .i64 bc) := cell_of hbx9 rfl
              have h29 : W9.cell? ⟨w.heap.size, 2, none⟩ = some (.int .i64 bre) := cell_of hbx9 rfl
              have h39 : W9.cell? ⟨w.heap.size, 3, none⟩ = some (.int .i64 bce) := cell_of hbx9 rfl
              clear hbx9
              go_wp2_with (fail)
              go_roundw
              case rel =>
                refine ⟨i + 1, by omega, by go_num, ?_, HB9⟩
                rw [show four (halvesOf (l.take (i + 1)) ⟨br, bc, bre, bce⟩ wi) = four (o) from four_ext (by rw [Hn.out, (HS.out _).1]; rfl) (by rw [Hn.out, (HS.out _).2.1]; rfl) (by rw [Hn.out, (HS.out _).2.2.1]; rfl) (by rw [Hn.out, (HS.out _).2.2.2]; rfl)]
                exact HO9
              case measure => simp [intOf]; omega
          | false =>
            cases r2 with
            | true =>
              cases q3 with
              | true =>
                have ta := HQ3.out
                have hbx9 := (H34.out.trans HB9.out).block _ HLo.out.1 |>.trans HBb.out
                have g09 := cell_of (j := 0) HX9.out rfl
                have g19 := cell_of (j := 1) HX9.out rfl
                have g29 := cell_of (j := 2) HX9.out rfl
                have g39 := cell_of (j := 3) HX9.out rfl
                have g49 := cell_of (j := 4) HX9.out rfl
                have g59 := cell_of (j := 5) HX9.out rfl
                have g69 := cell_of (j := 6) HX9.out rfl
                have g79 := cell_of (j := 7) HX9.out rfl
                have g89 := cell_of (j := 8) HX9.out rfl
                have g99 := cell_of (j := 9) HX9.out rfl
                have h09 : W9.cell? ⟨w.heap.size, 0, none⟩ = some (.int .i64 br) := cell_of hbx9 rfl
                have h19 : W9.cell? ⟨w.heap.size, 1, none⟩ = some (.int .i64 bc) := cell_of hbx9 rfl
                have h29 : W9.cell? ⟨w.heap.size, 2, none⟩ = some (.int .i64 bre) := cell_of hbx9 rfl
                have h39 : W9.cell? ⟨w.heap.size, 3, none⟩ = some (.int .i64 bce) := cell_of hbx9 rfl
                clear hbx9
                go_wp2_with (fail)
                refine (H58.out 3 (by decide) true (o) _ HO9.out (((H34.out.trans HB9.out).block _ HLo.out.2.1).trans HBw.out)).mono ?_
                rintro e Wy ⟨⟨vy, rfl⟩, hO, hg⟩
                have HOy := Lib.hid hO
                have HBy : Hid (Below Bo w4 Wy) := Lib.hid (HB9.out.trans ⟨hg.os, hg.tape, hg.output, hg.size, fun q hq => hg.block q (Nat.lt_trans hq (Array.getElem?_eq_some_iff.1 HO9.out).1) (fun e => by have := Option.some.inj e; omega)⟩)
                have HXy := Lib.hid ((hg.block XB (Array.getElem?_eq_some_iff.1 HX9.out).1 (fun e => by
                  have e2 := Option.some.inj e
                  have h1 := HX9.out
                  rw [e2, HO9.out] at h1
                  simp [four] at h1)).trans HX9.out)
                clear hO hg
                clear g09 g19 g29 g39 g49 g59 g69 g79 g89 g99 h09 h19 h29 h39
                have hbxy := (H34.out.trans HBy.out).block _ HLo.out.1 |>.trans HBb.out
                have g0y := cell_of (j := 0) HXy.out rfl
                have g1y := cell_of (j := 1) HXy.out rfl
                have g2y := cell_of (j := 2) HXy.out rfl
                have g3y := cell_of (j := 3) HXy.out rfl
                have g4y := cell_of (j := 4) HXy.out rfl
                have g5y := cell_of (j := 5) HXy.out rfl
                have g6y := cell_of (j := 6) HXy.out rfl
                have g7y := cell_of (j := 7) HXy.out rfl
                have g8y := cell_of (j := 8) HXy.out rfl
                have g9y := cell_of (j := 9) HXy.out rfl
                have h0y : Wy.cell? ⟨w.heap.size, 0, none⟩ = some (.int .i64 br) := cell_of hbxy rfl
                have h1y : Wy.cell? ⟨w.heap.size, 1, none⟩ = some (.int .i64 bc) := cell_of hbxy rfl
                have h2y : Wy.cell? ⟨w.heap.size, 2, none⟩ = some (.int .i64 bre) := cell_of hbxy rfl
                have h3y : Wy.cell? ⟨w.heap.size, 3, none⟩ = some (.int .i64 bce) := cell_of hbxy rfl
                clear hbxy
                cases q1 with
                | true =>
                  have tb := HQ1.out
                  go_wp2_with (fail)
                  refine (H58.out 1 (by decide) false (upd (o) 3 (mx ((o) 3) (CT.half e4 (true == wi)))) _ HOy.out (((H34.out.trans HBy.out).block _ HLo.out.2.1).trans HBw.out)).mono ?_
                  rintro e Wz ⟨⟨vz, rfl⟩, hO, hg⟩
                  have HOz := Lib.hid hO
                  have HBz : Hid (Below Bo w4 Wz) := Lib.hid (HBy.out.trans ⟨hg.os, hg.tape, hg.output, hg.size, fun q hq => hg.block q (Nat.lt_trans hq (Array.getElem?_eq_some_iff.1 HOy.out).1) (fun e => by have := Option.some.inj e; omega)⟩)
                  have HXz := Lib.hid ((hg.block XB (Array.getElem?_eq_some_iff.1 HXy.out).1 (fun e => by
                    have e2 := Option.some.inj e
                    have h1 := HXy.out
                    rw [e2, HOy.out] at h1
                    simp [four] at h1)).trans HXy.out)
                  clear hO hg
                  clear g0y g1y g2y g3y g4y g5y g6y g7y g8y g9y h0y h1y h2y h3y
                  have hbxz := (H34.out.trans HBz.out).block _ HLo.out.1 |>.trans HBb.out
                  have g0z := cell_of (j := 0) HXz.out rfl
                  have g1z := cell_of (j := 1) HXz.out rfl
                  have g2z := cell_of (j := 2) HXz.out rfl
                  have g3z := cell_of (j := 3) HXz.out rfl
                  have g4z := cell_of (j := 4) HXz.out rfl
                  have g5z := cell_of (j := 5) HXz.out rfl
                  have g6z := cell_of (j := 6) HXz.out rfl
                  have g7z := cell_of (j := 7) HXz.out rfl
                  have g8z := cell_of (j := 8) HXz.out rfl
                  have g9z := cell_of (j := 9) HXz.out rfl
                  have h0z : Wz.cell? ⟨w.heap.size, 0, none⟩ = some (.int .i64 br) := cell_of hbxz rfl
                  have h1z : Wz.cell? ⟨w.heap.size, 1, none⟩ = some (.int .i64 bc) := cell_of hbxz rfl
                  have h2z : Wz.cell? ⟨w.heap.size, 2, none⟩ = some (.int .i64 bre) := cell_of hbxz rfl
                  have h3z : Wz.cell? ⟨w.heap.size, 3, none⟩ = some (.int .i64 bce) := cell_of hbxz rfl
                  clear hbxz
                  go_wp2_with (fail)
                  go_roundw
                  case rel =>
                    refine ⟨i + 1, by omega, by go_num, ?_, HBz⟩
                    rw [show four (halvesOf (l.take (i + 1)) ⟨br, bc, bre, bce⟩ wi) = four (upd (upd (o) 3 (mx ((o) 3) (CT.half e4 (true == wi)))) 1 (mx ((upd (o) 3 (mx ((o) 3) (CT.half e4 (true == wi)))) 1) (CT.half e4 (false == wi)))) from four_ext (by rw [Hn.out, (HS.out _).1]; rfl) (by rw [Hn.out, (HS.out _).2.1]; rfl) (by rw [Hn.out, (HS.out _).2.2.1]; rfl) (by rw [Hn.out, (HS.out _).2.2.2]; rfl)]
                    exact HOz
                  case measure => simp [intOf]; omega
                | false =>
                  have tb := HQ1.out
                  go_wp2_with (fail)
                  go_roundw
                  case rel =>
                    refine ⟨i + 1, by omega, by go_num, ?_, HBy⟩
                    rw [show four (halvesOf (l.take (i + 1)) ⟨br, bc, bre, bce⟩ wi) = four (upd (o) 3 (mx ((o) 3) (CT.half e4 (true == wi)))) from four_ext (by rw [Hn.out, (HS.out _).1]; rfl) (by rw [Hn.out, (HS.out _).2.1]; rfl) (by rw [Hn.out, (HS.out _).2.2.1]; rfl) (by rw [Hn.out, (HS.out _).2.2.2]; rfl)]
                    exact HOy
                  case measure => simp [intOf]; omega
              | false =>
                have ta := HQ3.out
                have hbx9 := (H34.out.trans HB9.out).block _ HLo.out.1 |>.trans HBb.out
                have g09 := cell_of (j := 0) HX9.out rfl
                have g19 := cell_of (j := 1) HX9.out rfl
                have g29 := cell_of (j := 2) HX9.out rfl
                have g39 := cell_of (j := 3) HX9.out rfl
                have g49 := cell_of (j := 4) HX9.out rfl
                have g59 := cell_of (j := 5) HX9.out rfl
                have g69 := cell_of (j := 6) HX9.out rfl
                have g79 := cell_of (j := 7) HX9.out rfl
                have g89 := cell_of (j := 8) HX9.out rfl
                have g99 := cell_of (j := 9) HX9.out rfl
                have h09 : W9.cell? ⟨w.heap.size, 0, none⟩ = some (.int .i64 br) := cell_of hbx9 rfl
                have h19 : W9.cell? ⟨w.heap.size, 1, none⟩ = some (.int .i64 bc) := cell_of hbx9 rfl
                have h29 : W9.cell? ⟨w.heap.size, 2, none⟩ = some (.int .i64 bre) := cell_of hbx9 rfl
                have h39 : W9.cell? ⟨w.heap.size, 3, none⟩ = some (.int .i64 bce) := cell_of hbx9 rfl
                clear hbx9
                cases q1 with
                | true =>
                  have tb := HQ1.out
                  go_wp2_with (fail)
                  refine (H58.out 1 (by decide) false (o) _ HO9.out (((H34.out.trans HB9.out).block _ HLo.out.2.1).trans HBw.out)).mono ?_
                  rintro e Wz ⟨⟨vz, rfl⟩, hO, hg⟩
                  have HOz := Lib.hid hO
                  have HBz : Hid (Below Bo w4 Wz) := Lib.hid (HB9.out.trans ⟨hg.os, hg.tape, hg.output, hg.size, fun q hq => hg.block q (Nat.lt_trans hq (Array.getElem?_eq_some_iff.1 HO9.out).1) (fun e => by have := Option.some.inj e; omega)⟩)
                  have HXz := Lib.hid ((hg.block XB (Array.getElem?_eq_some_iff.1 HX9.out).1 (fun e => by
                    have e2 := Option.some.inj e
                    have h1 := HX9.out
                    rw [e2, HO9.out] at h1
                    simp [four] at h1)).trans HX9.out)
                  clear hO hg
                  clear g09 g19 g29 g39 g49 g59 g69 g79 g89 g99 h09 h19 h29 h39
                  have hbxz := (H34.out.trans HBz.out).block _ HLo.out.1 |>.trans HBb.out
                  have g0z := cell_of (j := 0) HXz.out rfl
                  have g1z := cell_of (j := 1) HXz.out rfl
                  have g2z := cell_of (j := 2) HXz.out rfl
                  have g3z := cell_of (j := 3) HXz.out rfl
                  have g4z := cell_of (j := 4) HXz.out rfl
                  have g5z := cell_of (j := 5) HXz.out rfl
                  have g6z := cell_of (j := 6) HXz.out rfl
                  have g7z := cell_of (j := 7) HXz.out rfl
                  have g8z := cell_of (j := 8) HXz.out rfl
                  have g9z := cell_of (j := 9) HXz.out rfl
                  have h0z : Wz.cell? ⟨w.heap.size, 0, none⟩ = some (.int .i64 br) := cell_of hbxz rfl
                  have h1z : Wz.cell? ⟨w.heap.size, 1, none⟩ = some (.int .i64 bc) := cell_of hbxz rfl
                  have h2z : Wz.cell? ⟨w.heap.size, 2, none⟩ = some (.int .i64 bre) := cell_of hbxz rfl
                  have h3z : Wz.cell? ⟨w.heap.size, 3, none⟩ = some (.int .i64 bce) := cell_of hbxz rfl
                  clear hbxz
                  go_wp2_with (fail)
                  go_roundw
                  case rel =>
                    refine ⟨i + 1, by omega, by go_num, ?_, HBz⟩
                    rw [show four (halvesOf (l.take (i + 1)) ⟨br, bc, bre, bce⟩ wi) = four (upd (o) 1 (mx ((o) 1) (CT.half e4 (false == wi)))) from four_ext (by rw [Hn.out, (HS.out _).1]; rfl) (by rw [Hn.out, (HS.out _).2.1]; rfl) (by rw [Hn.out, (HS.out _).2.2.1]; rfl) (by rw [Hn.out, (HS.out _).2.2.2]; rfl)]
                    exact HOz
                  case measure => simp [intOf]; omega
                | false =>
                  have tb := HQ1.out
                  go_wp2_with (fail)
                  go_roundw
                  case rel =>
                    refine ⟨i + 1, by omega, by go_num, ?_, HB9⟩
                    rw [show four (halvesOf (l.take (i + 1)) ⟨br, bc, bre, bce⟩ wi) = four (o) from four_ext (by rw [Hn.out, (HS.out _).1]; rfl) (by rw [Hn.out, (HS.out _).2.1]; rfl) (by rw [Hn.out, (HS.out _).2.2.1]; rfl) (by rw [Hn.out, (HS.out _).2.2.2]; rfl)]
                    exact HO9
                  case measure => simp [intOf]; omega
            | false =>
              have hbx9 := (H34.out.trans HB9.out).block _ HLo.out.1 |>.trans HBb.out
              have g09 := cell_of (j := 0) HX9.out rfl
              have g19 := cell_of (j := 1) HX9.out rfl
              have g29 := cell_of (j := 2) HX9.out rfl
              have g39 := cell_of (j := 3) HX9.out rfl
              have g49 := cell_of (j := 4) HX9.out rfl
              have g59 := cell_of (j := 5) HX9.out rfl
              have g69 := cell_of (j := 6) HX9.out rfl
              have g79 := cell_of (j := 7) HX9.out rfl
              have g89 := cell_of (j := 8) HX9.out rfl
              have g99 := cell_of (j := 9) HX9.out rfl
              have h09 : W9.cell? ⟨w.heap.size, 0, none⟩ = some (.int .i64 br) := cell_of hbx9 rfl
              have h19 : W9.cell? ⟨w.heap.size, 1, none⟩ = some (.int .i64 bc) := cell_of hbx9 rfl
              have h29 : W9.cell? ⟨w.heap.size, 2, none⟩ = some (.int .i64 bre) := cell_of hbx9 rfl
              have h39 : W9.cell? ⟨w.heap.size, 3, none⟩ = some (.int .i64 bce) := cell_of hbx9 rfl
              clear hbx9
              go_wp2_with (fail)
              go_roundw
              case rel =>
                refine ⟨i + 1, by omega, by go_num, ?_, HB9⟩
                rw [show four (halvesOf (l.take (i + 1)) ⟨br, bc, bre, bce⟩ wi) = four (o) from four_ext (by rw [Hn.out, (HS.out _).1]; rfl) (by rw [Hn.out, (HS.out _).2.1]; rfl) (by rw [Hn.out, (HS.out _).2.2.1]; rfl) (by rw [Hn.out, (HS.out _).2.2.2]; rfl)]
                exact HO9
              case measure => simp [intOf]; omega
        | false =>
          refine OrdX.wp_region_ordN 26 [(0, true), (1, true), (2, true), (3, true), (4, true), (5, true), (6, true), (7, true), (8, true), (9, true), (10, true), (11, true), (12, true), (13, true), (14, true), (15, true), (16, true), (17, true), (18, true), (19, true), (20, true), (21, true), (22, true), (23, true), (24, true), (25, true)] (by kernel_rfl) (by kernel_rfl) ?_
          intro Wc hWc
          apply OrdX.OrdAt.op OrdX.on_put rfl rfl rfl
          · intro X hB
            go_simp
            try rfl
          · dsimp only [List.set_cons_zero, List.set_cons_succ]
          apply OrdX.OrdAt.op OrdX.on_put rfl rfl rfl
          · intro X hB
            have s := OrdX.rd (hWc.g.tr hB) (HIn.out _) (E1.out)
            go_simp
            try rfl
          · dsimp only [List.set_cons_zero, List.set_cons_succ]
          apply OrdX.OrdAt.op OrdX.on_put rfl rfl rfl
          · intro X hB
            go_simp
            try rfl
          · dsimp only [List.set_cons_zero, List.set_cons_succ]
          apply OrdX.OrdAt.op OrdX.on_put rfl rfl rfl
          · intro X hB
            have s := OrdX.rd (hWc.g.tr hB) (HIn.out _) (B1.out)
            go_simp
            try rfl
          · dsimp only [List.set_cons_zero, List.set_cons_succ]
          apply OrdX.OrdAt.op OrdX.on_put rfl rfl rfl
          · intro X hB
            have sc := HC1.out
            go_simp
            try rfl
          · dsimp only [List.set_cons_zero, List.set_cons_succ]
          apply OrdX.OrdAt.op OrdX.on_put rfl rfl rfl
          · intro X hB
            go_simp
            try rfl
          · dsimp only [List.set_cons_zero, List.set_cons_succ]
          apply OrdX.OrdAt.op_if OrdX.on_put rfl rfl rfl
          · intro X hB
            go_simp
            try rfl
          · dsimp only [List.set_cons_zero, List.set_cons_succ]
          apply OrdX.OrdAt.op_if OrdX.on_put rfl rfl rfl
          · intro X hB
            have s := OrdX.rd (hWc.g.tr hB) (HIn.out _) (E1.out)
            go_simp
            try rfl
          · dsimp only [List.set_cons_zero, List.set_cons_succ]
          apply OrdX.OrdAt.op_if OrdX.on_put rfl rfl rfl
          · intro X hB
            go_simp
            try rfl
          · dsimp only [List.set_cons_zero, List.set_cons_succ]
          apply OrdX.OrdAt.op_if OrdX.on_put rfl rfl rfl
          · intro X hB
            have s := OrdX.rd (hWc.g.tr hB) (HIn.out _) (B3.out)
            go_simp
            try rfl
          · dsimp only [List.set_cons_zero, List.set_cons_succ]
          apply OrdX.OrdAt.op_if OrdX.on_put rfl rfl rfl
          · intro X hB
            have sc := HC2.out
            go_simp
            try rfl
          · dsimp only [List.set_cons_zero, List.set_cons_succ]
          iterate 2
            apply OrdX.OrdAt.op OrdX.on_put rfl rfl rfl
            · intro X hB
              go_simp
              try rfl
            · dsimp only [List.set_cons_zero, List.set_cons_succ]
          apply OrdX.OrdAt.op OrdX.on_put rfl rfl rfl
          · intro X hB
            have s := OrdX.rd (hWc.g.tr hB) (HIn.out _) (E0.out)
            go_simp
            try rfl
          · dsimp only [List.set_cons_zero, List.set_cons_succ]
          apply OrdX.OrdAt.op OrdX.on_put rfl rfl rfl
          · intro X hB
            go_simp
            try rfl
          · dsimp only [List.set_cons_zero, List.set_cons_succ]
          apply OrdX.OrdAt.op OrdX.on_put rfl rfl rfl
          · intro X hB
            have s := OrdX.rd (hWc.g.tr hB) (HIn.out _) (B0.out)
            go_simp
            try rfl
          · dsimp only [List.set_cons_zero, List.set_cons_succ]
          apply OrdX.OrdAt.op OrdX.on_put rfl rfl rfl
          · intro X hB
            have sc := HR1.out
            go_simp
            try rfl
          · dsimp only [List.set_cons_zero, List.set_cons_succ]
          apply OrdX.OrdAt.op OrdX.on_put rfl rfl rfl
          · intro X hB
            go_simp
            try rfl
          · dsimp only [List.set_cons_zero, List.set_cons_succ]
          apply OrdX.OrdAt.op_not OrdX.on_put rfl rfl rfl
          · dsimp only [List.set_cons_zero, List.set_cons_succ]
          apply OrdX.OrdAt.op_not OrdX.on_put rfl rfl rfl
          · dsimp only [List.set_cons_zero, List.set_cons_succ]
          apply OrdX.OrdAt.op_not OrdX.on_put rfl rfl rfl
          · dsimp only [List.set_cons_zero, List.set_cons_succ]
          apply OrdX.OrdAt.op_not OrdX.on_put rfl rfl rfl
          · dsimp only [List.set_cons_zero, List.set_cons_succ]
          apply OrdX.OrdAt.op_not OrdX.on_put rfl rfl rfl
          · dsimp only [List.set_cons_zero, List.set_cons_succ]
          iterate 3
            apply OrdX.OrdAt.op OrdX.on_put rfl rfl rfl
            · intro X hB
              go_simp
              try rfl
            · dsimp only [List.set_cons_zero, List.set_cons_succ]
          refine OrdX.OrdAt.done ?_
          intro W9 hW9
          refine OrdX.on_normal ?_
          have hx := hWc.trans (hW9.mono hWc.size)
          have HX9 := Lib.hid ((hx.block _ (Array.getElem?_eq_some_iff.1 HXA.out).1).trans HXA.out)
          have HO9 := Lib.hid ((hx.block _ (Array.getElem?_eq_some_iff.1 HOA.out).1).trans HOA.out)
          have HB9 := Lib.hid (HB5.out.trans (hx.mono (Nat.le_of_lt (Array.getElem?_eq_some_iff.1 HOA.out).1)))
          clear hx hW9 hWc E0 E1 HBX B0 B1 B2 B3 HC1 HC2 HR1 HR2 HIn
          cases e2 with
          | true =>
            cases c2 with
            | true =>
              cases q0 with
              | true =>
                have ta := HQ0.out
                have hbx9 := (H34.out.trans HB9.out).block _ HLo.out.1 |>.trans HBb.out
                have g09 := cell_of (j := 0) HX9.out rfl
                have g19 := cell_of (j := 1) HX9.out rfl
                have g29 := cell_of (j := 2) HX9.out rfl
                have g39 := cell_of (j := 3) HX9.out rfl
                have g49 := cell_of (j := 4) HX9.out rfl
                have g59 := cell_of (j := 5) HX9.out rfl
                have g69 := cell_of (j := 6) HX9.out rfl
                have g79 := cell_of (j := 7) HX9.out rfl
                have g89 := cell_of (j := 8) HX9.out rfl
                have g99 := cell_of (j := 9) HX9.out rfl
                have h09 : W9.cell? ⟨w.heap.size, 0, none⟩ = some (.int .i64 br) := cell_of hbx9 rfl
                have h19 : W9.cell? ⟨w.heap.size, 1, none⟩ = some (.int .i64 bc) := cell_of hbx9 rfl
                have h29 : W9.cell? ⟨w.heap.size, 2, none⟩ = some (.int .i64 bre) := cell_of hbx9 rfl
                have h39 : W9.cell? ⟨w.heap.size, 3, none⟩ = some (.int .i64 bce) := cell_of hbx9 rfl
                clear hbx9
                go_wp2_with (fail)
                refine (H58.out 0 (by decide) true (o) _ HO9.out (((H34.out.trans HB9.out).block _ HLo.out.2.1).trans HBw.out)).mono ?_
                rintro e Wy ⟨⟨vy, rfl⟩, hO, hg⟩
                have HOy := Lib.hid hO
                have HBy : Hid (Below Bo w4 Wy) := Lib.hid (HB9.out.trans ⟨hg.os, hg.tape, hg.output, hg.size, fun q hq => hg.block q (Nat.lt_trans hq (Array.getElem?_eq_some_iff.1 HO9.out).1) (fun e => by have := Option.some.inj e; omega)⟩)
                have HXy := Lib.hid ((hg.block XB (Array.getElem?_eq_some_iff.1 HX9.out).1 (fun e => by
                  have e2 := Option.some.inj e
                  have h1 := HX9.out
                  rw [e2, HO9.out] at h1
                  simp [four] at h1)).trans HX9.out)
                clear hO hg
                clear g09 g19 g29 g39 g49 g59 g69 g79 g89 g99 h09 h19 h29 h39
                have hbxy := (H34.out.trans HBy.out).block _ HLo.out.1 |>.trans HBb.out
                have g0y := cell_of (j := 0) HXy.out rfl
                have g1y := cell_of (j := 1) HXy.out rfl
                have g2y := cell_of (j := 2) HXy.out rfl
                have g3y := cell_of (j := 3) HXy.out rfl
                have g4y := cell_of (j := 4) HXy.out rfl
                have g5y := cell_of (j := 5) HXy.out rfl
                have g6y := cell_of (j := 6) HXy.out rfl
                have g7y := cell_of (j := 7) HXy.out rfl
                have g8y := cell_of (j := 8) HXy.out rfl
                have g9y := cell_of (j := 9) HXy.out rfl
                have h0y : Wy.cell? ⟨w.heap.size, 0, none⟩ = some (.int .i64 br) := cell_of hbxy rfl
                have h1y : Wy.cell? ⟨w.heap.size, 1, none⟩ = some (.int .i64 bc) := cell_of hbxy rfl
                have h2y : Wy.cell? ⟨w.heap.size, 2, none⟩ = some (.int .i64 bre) := cell_of hbxy rfl
                have h3y : Wy.cell? ⟨w.heap.size, 3, none⟩ = some (.int .i64 bce) := cell_of hbxy rfl
                clear hbxy
                cases q2 with
                | true =>
                  have tb := HQ2.out
                  go_wp2_with (fail)
                  refine (H58.out 2 (by decide) false (upd (o) 0 (mx ((o) 0) (CT.half e4 (true == wi)))) _ HOy.out (((H34.out.trans HBy.out).block _ HLo.out.2.1).trans HBw.out)).mono ?_
                  rintro e Wz ⟨⟨vz, rfl⟩, hO, hg⟩
                  have HOz := Lib.hid hO
                  have HBz : Hid (Below Bo w4 Wz) := Lib.hid (HBy.out.trans ⟨hg.os, hg.tape, hg.output, hg.size, fun q hq => hg.block q (Nat.lt_trans hq (Array.getElem?_eq_some_iff.1 HOy.out).1) (fun e => by have := Option.some.inj e; omega)⟩)
                  have HXz := Lib.hid ((hg.block XB (Array.getElem?_eq_some_iff.1 HXy.out).1 (fun e => by
                    have e2 := Option.some.inj e
                    have h1 := HXy.out
                    rw [e2, HOy.out] at h1
                    simp [four] at h1)).trans HXy.out)
                  clear hO hg
                  clear g0y g1y g2y g3y g4y g5y g6y g7y g8y g9y h0y h1y h2y h3y
                  have hbxz := (H34.out.trans HBz.out).block _ HLo.out.1 |>.trans HBb.out
                  have g0z := cell_of (j := 0) HXz.out rfl
                  have g1z := cell_of (j := 1) HXz.out rfl
                  have g2z := cell_of (j := 2) HXz.out rfl
                  have g3z := cell_of (j := 3) HXz.out rfl
                  have g4z := cell_of (j := 4) HXz.out rfl
                  have g5z := cell_of (j := 5) HXz.out rfl
                  have g6z := cell_of (j := 6) HXz.out rfl
                  have g7z := cell_of (j := 7) HXz.out rfl
                  have g8z := cell_of (j := 8) HXz.out rfl
                  have g9z := cell_of (j := 9) HXz.out rfl
                  have h0z : Wz.cell? ⟨w.heap.size, 0, none⟩ = some (.int .i64 br) := cell_of hbxz rfl
                  have h1z : Wz.cell? ⟨w.heap.size, 1, none⟩ = some (.int .i64 bc) := cell_of hbxz rfl
                  have h2z : Wz.cell? ⟨w.heap.size, 2, none⟩ = some (.int .i64 bre) := cell_of hbxz rfl
                  have h3z : Wz.cell? ⟨w.heap.size, 3, none⟩ = some (.int .i64 bce) := cell_of hbxz rfl
                  clear hbxz
                  go_wp2_with (fail)
                  go_roundw
                  case rel =>
                    refine ⟨i + 1, by omega, by go_num, ?_, HBz⟩
                    rw [show four (halvesOf (l.take (i + 1)) ⟨br, bc, bre, bce⟩ wi) = four (upd (upd (o) 0 (mx ((o) 0) (CT.half e4 (true == wi)))) 2 (mx ((upd (o) 0 (mx ((o) 0) (CT.half e4 (true == wi)))) 2) (CT.half e4 (false == wi)))) from four_ext (by rw [Hn.out, (HS.out _).1]; rfl) (by rw [Hn.out, (HS.out _).2.1]; rfl) (by rw [Hn.out, (HS.out _).2.2.1]; rfl) (by rw [Hn.out, (HS.out _).2.2.2]; rfl)]
                    exact HOz
                  case measure => simp [intOf]; omega
                | false =>
                  have tb := HQ2.out
                  go_wp2_with (fail)
                  go_roundw
                  case rel =>
                    refine ⟨i + 1, by omega, by go_num, ?_, HBy⟩
                    rw [show four (halvesOf (l.take (i + 1)) ⟨br, bc, bre, bce⟩ wi) = four (upd (o) 0 (mx ((o) 0) (CT.half e4 (true == wi)))) from four_ext (by rw [Hn.out, (HS.out _).1]; rfl) (by rw [Hn.out, (HS.out _).2.1]; rfl) (by rw [Hn.out, (HS.out _).2.2.1]; rfl) (by rw [Hn.out, (HS.out _).2.2.2]; rfl)]
                    exact HOy
                  case measure => simp [intOf]; omega
              | false =>
                have ta := HQ0.out
                have hbx9 := (H34.out.trans HB9.out).block _ HLo.out.1 |>.trans HBb.out
                have g09 := cell_of (j := 0) HX9.out rfl
                have g19 := cell_of (j := 1) HX9.out rfl
                have g29 := cell_of (j := 2) HX9.out rfl
                have g39 := cell_of (j := 3) HX9.out rfl
                have g49 := cell_of (j := 4) HX9.out rfl
                have g59 := cell_of (j := 5) HX9.out rfl
                have g69 := cell_of (j := 6) HX9.out rfl
                have g79 := cell_of (j := 7) HX9.out rfl
                have g89 := cell_of (j := 8) HX9.out rfl
                have g99 := cell_of (j := 9) HX9.out rfl
                have h09 : W9.cell? ⟨w.heap.size, 0, none⟩ = some (.int .i64 br) := cell_of hbx9 rfl
                have h19 : W9.cell? ⟨w.heap.size, 1, none⟩ = some (.int .i64 bc) := cell_of hbx9 rfl
                have h29 : W9.cell? ⟨w.heap.size, 2, none⟩ = some (.int .i64 bre) := cell_of hbx9 rfl
                have h39 : W9.cell? ⟨w.heap.size, 3, none⟩ = some (.int .i64 bce) := cell_of hbx9 rfl
                clear hbx9
                cases q2 with
                | true =>
                  have tb := HQ2.out
                  go_wp2_with (fail)
                  refine (H58.out 2 (by decide) false (o) _ HO9.out (((H34.out.trans HB9.out).block _ HLo.out.2.1).trans HBw.out)).mono ?_
                  rintro e Wz ⟨⟨vz, rfl⟩, hO, hg⟩
                  have HOz := Lib.hid hO
                  have HBz : Hid (Below Bo w4 Wz) := Lib.hid (HB9.out.trans ⟨hg.os, hg.tape, hg.output, hg.size, fun q hq => hg.block q (Nat.lt_trans hq (Array.getElem?_eq_some_iff.1 HO9.out).1) (fun e => by have := Option.some.inj e; omega)⟩)
                  have HXz := Lib.hid ((hg.block XB (Array.getElem?_eq_some_iff.1 HX9.out).1 (fun e => by
                    have e2 := Option.some.inj e
                    have h1 := HX9.out
                    rw [e2, HO9.out] at h1
                    simp [four] at h1)).trans HX9.out)
                  clear hO hg
                  clear g09 g19 g29 g39 g49 g59 g69 g79 g89 g99 h09 h19 h29 h39
                  have hbxz := (H34.out.trans HBz.out).block _ HLo.out.1 |>.trans HBb.out
                  have g0z := cell_of (j := 0) HXz.out rfl
                  have g1z := cell_of (j := 1) HXz.out rfl
                  have g2z := cell_of (j := 2) HXz.out rfl
                  have g3z := cell_of (j := 3) HXz.out rfl
                  have g4z := cell_of (j := 4) HXz.out rfl
                  have g5z := cell_of (j := 5) HXz.out rfl
                  have g6z := cell_of (j := 6) HXz.out rfl
                  have g7z := cell_of (j := 7) HXz.out rfl
                  have g8z := cell_of (j := 8) HXz.out rfl
                  have g9z := cell_of (j := 9) HXz.out rfl
                  have h0z : Wz.cell? ⟨w.heap.size, 0, none⟩ = some (.int .i64 br) := cell_of hbxz rfl
                  have h1z : Wz.cell? ⟨w.heap.size, 1, none⟩ = some (.int .i64 bc) := cell_of hbxz rfl
                  have h2z : Wz.cell? ⟨w.heap.size, 2, none⟩ = some (.int .i64 bre) := cell_of hbxz rfl
                  have h3z : Wz.cell? ⟨w.heap.size, 3, none⟩ = some (.int .i64 bce) := cell_of hbxz rfl
                  clear hbxz
                  go_wp2_with (fail)
                  go_roundw
                  case rel =>
                    refine ⟨i + 1, by omega, by go_num, ?_, HBz⟩
                    rw [show four (halvesOf (l.take (i + 1)) ⟨br, bc, bre, bce⟩ wi) = four (upd (o) 2 (mx ((o) 2) (CT.half e4 (false == wi)))) from four_ext (by rw [Hn.out, (HS.out _).1]; rfl) (by rw [Hn.out, (HS.out _).2.1]; rfl) (by rw [Hn.out, (HS.out _).2.2.1]; rfl) (by rw [Hn.out, (HS.out _).2.2.2]; rfl)]
                    exact HOz
                  case measure => simp [intOf]; omega
                | false =>
                  have tb := HQ2.out
                  go_wp2_with (fail)
                  go_roundw
                  case rel =>
                    refine ⟨i + 1, by omega, by go_num, ?_, HB9⟩
                    rw [show four (halvesOf (l.take (i + 1)) ⟨br, bc, bre, bce⟩ wi) = four (o) from four_ext (by rw [Hn.out, (HS.out _).1]; rfl) (by rw [Hn.out, (HS.out _).2.1]; rfl) (by rw [Hn.out, (HS.out _).2.2.1]; rfl) (by rw [Hn.out, (HS.out _).2.2.2]; rfl)]
                    exact HO9
                  case measure => simp [intOf]; omega
            | false =>
              have hbx9 := (H34.out.trans HB9.out).block _ HLo.out.1 |>.trans HBb.out
              have g09 := cell_of (j := 0) HX9.out rfl
              have g19 := cell_of (j := 1) HX9.out rfl
              have g29 := cell_of (j := 2) HX9.out rfl
              have g39 := cell_of (j := 3) HX9.out rfl
              have g49 := cell_of (j := 4) HX9.out rfl
              have g59 := cell_of (j := 5) HX9.out rfl
              have g69 := cell_of (j := 6) HX9.out rfl
              have g79 := cell_of (j := 7) HX9.out rfl
              have g89 := cell_of (j := 8) HX9.out rfl
              have g99 := cell_of (j := 9) HX9.out rfl
              have h09 : W9.cell? ⟨w.heap.size, 0, none⟩ = some (.int .i64 br) := cell_of hbx9 rfl
              have h19 : W9.cell? ⟨w.heap.size, 1, none⟩ = some (.int .i64 bc) := cell_of hbx9 rfl
              have h29 : W9.cell? ⟨w.heap.size, 2, none⟩ = some (.int .i64 bre) := cell_of hbx9 rfl
              have h39 : W9.cell? ⟨w.heap.size, 3, none⟩ = some (.int .i64 bce) := cell_of hbx9 rfl
              clear hbx9
              go_wp2_with (fail)
              go_roundw
              case rel =>
                refine ⟨i + 1, by omega, by go_num, ?_, HB9⟩
                rw [show four (halvesOf (l.take (i + 1)) ⟨br, bc, bre, bce⟩ wi) = four (o) from four_ext (by rw [Hn.out, (HS.out _).1]; rfl) (by rw [Hn.out, (HS.out _).2.1]; rfl) (by rw [Hn.out, (HS.out _).2.2.1]; rfl) (by rw [Hn.out, (HS.out _).2.2.2]; rfl)]
                exact HO9
              case measure => simp [intOf]; omega
          | false =>
            have hbx9 := (H34.out.trans HB9.out).block _ HLo.out.1 |>.trans HBb.out
            have g09 := cell_of (j := 0) HX9.out rfl
            have g19 := cell_of (j := 1) HX9.out rfl
            have g29 := cell_of (j := 2) HX9.out rfl
            have g39 := cell_of (j := 3) HX9.out rfl
            have g49 := cell_of (j := 4) HX9.out rfl
            have g59 := cell_of (j := 5) HX9.out rfl
            have g69 := cell_of (j := 6) HX9.out rfl
            have g79 := cell_of (j := 7) HX9.out rfl
            have g89 := cell_of (j := 8) HX9.out rfl
            have g99 := cell_of (j := 9) HX9.out rfl
            have h09 : W9.cell? ⟨w.heap.size, 0, none⟩ = some (.int .i64 br) := cell_of hbx9 rfl
            have h19 : W9.cell? ⟨w.heap.size, 1, none⟩ = some (.int .i64 bc) := cell_of hbx9 rfl
            have h29 : W9.cell? ⟨w.heap.size, 2, none⟩ = some (.int .i64 bre) := cell_of hbx9 rfl
            have h39 : W9.cell? ⟨w.heap.size, 3, none⟩ = some (.int .i64 bce) := cell_of hbx9 rfl
            clear hbx9
            go_wp2_with (fail)
            go_roundw
            case rel =>
              refine ⟨i + 1, by omega, by go_num, ?_, HB9⟩
              rw [show four (halvesOf (l.take (i + 1)) ⟨br, bc, bre, bce⟩ wi) = four (o) from four_ext (by rw [Hn.out, (HS.out _).1]; rfl) (by rw [Hn.out, (HS.out _).2.1]; rfl) (by rw [Hn.out, (HS.out _).2.2.1]; rfl) (by rw [Hn.out, (HS.out _).2.2.2]; rfl)]
              exact HO9
            case measure => simp [intOf]; omega
      | false =>
        cases r1 with
        | true =>
          refine OrdX.wp_region_ordN 26 [(0, true), (1, true), (2, true), (3, true), (4, true), (5, true), (6, true), (7, true), (8, true), (9, true), (10, true), (11, true), (12, true), (13, true), (14, true), (15, true), (16, true), (17, true), (18, true), (19, true), (20, true), (21, true), (22, true), (23, true), (24, true), (25, true)] (by kernel_rfl) (by kernel_rfl) ?_
          intro Wc hWc
          apply OrdX.OrdAt.op OrdX.on_put rfl rfl rfl
          · intro X hB
            go_simp
            try rfl
          · dsimp only [List.set_cons_zero, List.set_cons_succ]
          apply OrdX.OrdAt.op OrdX.on_put rfl rfl rfl
          · intro X hB
            have s := OrdX.rd (hWc.g.tr hB) (HIn.out _) (E1.out)
            go_simp
            try rfl
          · dsimp only [List.set_cons_zero, List.set_cons_succ]
          apply OrdX.OrdAt.op OrdX.on_put rfl rfl rfl
          · intro X hB
            go_simp
            try rfl
          · dsimp only [List.set_cons_zero, List.set_cons_succ]
          apply OrdX.OrdAt.op OrdX.on_put rfl rfl rfl
          · intro X hB
            have s := OrdX.rd (hWc.g.tr hB) (HIn.out _) (B1.out)
            go_simp
            try rfl
          · dsimp only [List.set_cons_zero, List.set_cons_succ]
          apply OrdX.OrdAt.op OrdX.on_put rfl rfl rfl
          · intro X hB
            have sc := HC1.out
            go_simp
            try rfl
          · dsimp only [List.set_cons_zero, List.set_cons_succ]
          apply OrdX.OrdAt.op OrdX.on_put rfl rfl rfl
          · intro X hB
            go_simp
            try rfl
          · dsimp only [List.set_cons_zero, List.set_cons_succ]
          apply OrdX.OrdAt.op_not OrdX.on_put rfl rfl rfl
          · dsimp only [List.set_cons_zero, List.set_cons_succ]
          apply OrdX.OrdAt.op_not OrdX.on_put rfl rfl rfl
          · dsimp only [List.set_cons_zero, List.set_cons_succ]
          apply OrdX.OrdAt.op_not OrdX.on_put rfl rfl rfl
          · dsimp only [List.set_cons_zero, List.set_cons_succ]
          apply OrdX.OrdAt.op_not OrdX.on_put rfl rfl rfl
          · dsimp only [List.set_cons_zero, List.set_cons_succ]
          apply OrdX.OrdAt.op_not OrdX.on_put rfl rfl rfl
          · dsimp only [List.set_cons_zero, List.set_cons_succ]
          iterate 2
            apply OrdX.OrdAt.op OrdX.on_put rfl rfl rfl
            · intro X hB
              go_simp
              try rfl
            · dsimp only [List.set_cons_zero, List.set_cons_succ]
          apply OrdX.OrdAt.op OrdX.on_put rfl rfl rfl
          · intro X hB
            have s := OrdX.rd (hWc.g.tr hB) (HIn.out _) (E0.out)
            go_simp
            try rfl
          · dsimp only [List.set_cons_zero, List.set_cons_succ]
          apply OrdX.OrdAt.op OrdX.on_put rfl rfl rfl
          · intro X hB
            go_simp
            try rfl
          · dsimp only [List.set_cons_zero, List.set_cons_succ]
          apply OrdX.OrdAt.op OrdX.on_put rfl rfl rfl
          · intro X hB
            have s := OrdX.rd (hWc.g.tr hB) (HIn.out _) (B0.out)
            go_simp
            try rfl
          · dsimp only [List.set_cons_zero, List.set_cons_succ]
          apply OrdX.OrdAt.op OrdX.on_put rfl rfl rfl
          · intro X hB
            have sc := HR1.out
            go_simp
            try rfl
          · dsimp only [List.set_cons_zero, List.set_cons_succ]
          apply OrdX.OrdAt.op OrdX.on_put rfl rfl rfl
          · intro X hB
            go_simp
            try rfl
          · dsimp only [List.set_cons_zero, List.set_cons_succ]
          apply OrdX.OrdAt.op_if OrdX.on_put rfl rfl rfl
          · intro X hB
            go_simp
            try rfl
          · dsimp only [List.set_cons_zero, List.set_cons_succ]
          apply OrdX.OrdAt.op_if OrdX.on_put rfl rfl rfl
          · intro X hB
            have s := OrdX.rd (hWc.g.tr hB) (HIn.out _) (E0.out)
            go_simp
            try rfl
          · dsimp only [List.set_cons_zero, List.set_cons_succ]
          apply OrdX.OrdAt.op_if OrdX.on_put rfl rfl rfl
          · intro X hB
            go_simp
            try rfl
          · dsimp only [List.set_cons_zero, List.set_cons_succ]
          apply OrdX.OrdAt.op_if OrdX.on_put rfl rfl rfl
          · intro X hB
            have s := OrdX.rd (hWc.g.tr hB) (HIn.out _) (B2.out)
            go_simp
            try rfl
          · dsimp only [List.set_cons_zero, List.set_cons_succ]
          apply OrdX.OrdAt.op_if OrdX.on_put rfl rfl rfl
          · intro X hB
            have sc := HR2.out
            go_simp
            try rfl
          · dsimp only [List.set_cons_zero, List.set_cons_succ]
          iterate 3
            apply OrdX.OrdAt.op OrdX.on_put rfl rfl rfl
            · intro X hB
              go_simp
              try rfl
            · dsimp only [List.set_cons_zero, List.set_cons_succ]
          refine OrdX.OrdAt.done ?_
          intro W9 hW9
          refine OrdX.on_normal ?_
          have hx := hWc.trans (hW9.mono hWc.size)
          have HX9 := Lib.hid ((hx.block _ (Array.getElem?_eq_some_iff.1 HXA.out).1).trans HXA.out)
          have HO9 := Lib.hid ((hx.block _ (Array.getElem?_eq_some_iff.1 HOA.out).1).trans HOA.out)
          have HB9 := Lib.hid (HB5.out.trans (hx.mono (Nat.le_of_lt (Array.getElem?_eq_some_iff.1 HOA.out).1)))
          clear hx hW9 hWc E0 E1 HBX B0 B1 B2 B3 HC1 HC2 HR1 HR2 HIn
          cases e2 with
          | true =>
            have hbx9 := (H34.out.trans HB9.out).block _ HLo.out.1 |>.trans HBb.out
            have g09 := cell_of (j := 0) HX9.out rfl
            have g19 := cell_of (j := 1) HX9.out rfl
            have g29 := cell_of (j := 2) HX9.out rfl
            have g39 := cell_of (j := 3) HX9.out rfl
            have g49 := cell_of (j := 4) HX9.out rfl
            have g59 := cell_of (j := 5) HX9.out rfl
            have g69 := cell_of (j := 6) HX9.out rfl
            have g79 := cell_of (j := 7) HX9.out rfl
            have g89 := cell_of (j := 8) HX9.out rfl
            have g99 := cell_of (j := 9) HX9.out rfl
            have h09 : W9.cell? ⟨w.heap.size, 0, none⟩ = some (.int .i64 br) := cell_of hbx9 rfl
            have h19 : W9.cell? ⟨w.heap.size, 1, none⟩ = some (.int .i64 bc) := cell_of hbx9 rfl
            have h29 : W9.cell? ⟨w.heap.size, 2, none⟩ = some (.int .i64 bre) := cell_of hbx9 rfl
            have h39 : W9.cell? ⟨w.heap.size, 3, none⟩ = some (.int .i64 bce) := cell_of hbx9 rfl
            clear hbx9
            go_wp2_with (fail)
            go_roundw
            case rel =>
              refine ⟨i + 1, by omega, by go_num, ?_, HB9⟩
              rw [show four (halvesOf (l.take (i + 1)) ⟨br, bc, bre, bce⟩ wi) = four (o) from four_ext (by rw [Hn.out, (HS.out _).1]; rfl) (by rw [Hn.out, (HS.out _).2.1]; rfl) (by rw [Hn.out, (HS.out _).2.2.1]; rfl) (by rw [Hn.out, (HS.out _).2.2.2]; rfl)]
              exact HO9
            case measure => simp [intOf]; omega
          | false =>
            cases r2 with
            | true =>
              cases q3 with
              | true =>
                have ta := HQ3.out
                have hbx9 := (H34.out.trans HB9.out).block _ HLo.out.1 |>.trans HBb.out
                have g09 := cell_of (j := 0) HX9.out rfl
                have g19 := cell_of (j := 1) HX9.out rfl
                have g29 := cell_of (j := 2) HX9.out rfl
                have g39 := cell_of (j := 3) HX9.out rfl
                have g49 := cell_of (j := 4) HX9.out rfl
                have g59 := cell_of (j := 5) HX9.out rfl
                have g69 := cell_of (j := 6) HX9.out rfl
                have g79 := cell_of (j := 7) HX9.out rfl
                have g89 := cell_of (j := 8) HX9.out rfl
                have g99 := cell_of (j := 9) HX9.out rfl
                have h09 : W9.cell? ⟨w.heap.size, 0, none⟩ = some (.int .i64 br) := cell_of hbx9 rfl
                have h19 : W9.cell? ⟨w.heap.size, 1, none⟩ = some (.int .i64 bc) := cell_of hbx9 rfl
                have h29 : W9.cell? ⟨w.heap.size, 2, none⟩ = some (.int .i64 bre) := cell_of hbx9 rfl
                have h39 : W9.cell? ⟨w.heap.size, 3, none⟩ = some (.int .i64 bce) := cell_of hbx9 rfl
                clear hbx9
                go_wp2_with (fail)
                refine (H58.out 3 (by decide) true (o) _ HO9.out (((H34.out.trans HB9.out).block _ HLo.out.2.1).trans HBw.out)).mono ?_
                rintro e Wy ⟨⟨vy, rfl⟩, hO, hg⟩
                have HOy := Lib.hid hO
                have HBy : Hid (Below Bo w4 Wy) := Lib.hid (HB9.out.trans ⟨hg.os, hg.tape, hg.output, hg.size, fun q hq => hg.block q (Nat.lt_trans hq (Array.getElem?_eq_some_iff.1 HO9.out).1) (fun e => by have := Option.some.inj e; omega)⟩)
                have HXy := Lib.hid ((hg.block XB (Array.getElem?_eq_some_iff.1 HX9.out).1 (fun e => by
                  have e2 := Option.some.inj e
                  have h1 := HX9.out
                  rw [e2, HO9.out] at h1
                  simp [four] at h1)).trans HX9.out)
                clear hO hg
                clear g09 g19 g29 g39 g49 g59 g69 g79 g89 g99 h09 h19 h29 h39
                have hbxy := (H34.out.trans HBy.out).block _ HLo.out.1 |>.trans HBb.out
                have g0y := cell_of (j := 0) HXy.out rfl
                have g1y := cell_of (j := 1) HXy.out rfl
                have g2y := cell_of (j := 2) HXy.out rfl
                have g3y := cell_of (j := 3) HXy.out rfl
                have g4y := cell_of (j := 4) HXy.out rfl
                have g5y := cell_of (j := 5) HXy.out rfl
                have g6y := cell_of (j := 6) HXy.out rfl
                have g7y := cell_of (j := 7) HXy.out rfl
                have g8y := cell_of (j := 8) HXy.out rfl
                have g9y := cell_of (j := 9) HXy.out rfl
                have h0y : Wy.cell? ⟨w.heap.size, 0, none⟩ = some (.int .i64 br) := cell_of hbxy rfl
                have h1y : Wy.cell? ⟨w.heap.size, 1, none⟩ = some (.int .i64 bc) := cell_of hbxy rfl
                have h2y : Wy.cell? ⟨w.heap.size, 2, none⟩ = some (.int .i64 bre) := cell_of hbxy rfl
                have h3y : Wy.cell? ⟨w.heap.size, 3, none⟩ = some (.int .i64 bce) := cell_of hbxy rfl
                clear hbxy
                cases q1 with
                | true =>
                  have tb := HQ1.out
                  go_wp2_with (fail)
                  refine (H58.out 1 (by decide) false (upd (o) 3 (mx ((o) 3) (CT.half e4 (true == wi)))) _ HOy.out (((H34.out.trans HBy.out).block _ HLo.out.2.1).trans HBw.out)).mono ?_
                  rintro e Wz ⟨⟨vz, rfl⟩, hO, hg⟩
                  have HOz := Lib.hid hO
                  have HBz : Hid (Below Bo w4 Wz) := Lib.hid (HBy.out.trans ⟨hg.os, hg.tape, hg.output, hg.size, fun q hq => hg.block q (Nat.lt_trans hq (Array.getElem?_eq_some_iff.1 HOy.out).1) (fun e => by have := Option.some.inj e; omega)⟩)
                  have HXz := Lib.hid ((hg.block XB (Array.getElem?_eq_some_iff.1 HXy.out).1 (fun e => by
                    have e2 := Option.some.inj e
                    have h1 := HXy.out
                    rw [e2, HOy.out] at h1
                    simp [four] at h1)).trans HXy.out)
                  clear hO hg
                  clear g0y g1y g2y g3y g4y g5y g6y g7y g8y g9y h0y h1y h2y h3y
                  have hbxz := (H34.out.trans HBz.out).block _ HLo.out.1 |>.trans HBb.out
                  have g0z := cell_of (j := 0) HXz.out rfl
                  have g1z := cell_of (j := 1) HXz.out rfl
                  have g2z := cell_of (j := 2) HXz.out rfl
                  have g3z := cell_of (j := 3) HXz.out rfl
                  have g4z := cell_of (j := 4) HXz.out rfl
                  have g5z := cell_of (j := 5) HXz.out rfl
                  have g6z := cell_of (j := 6) HXz.out rfl
                  have g7z := cell_of (j := 7) HXz.out rfl
                  have g8z := cell_of (j := 8) HXz.out rfl
                  have g9z := cell_of (j := 9) HXz.out rfl
                  have h0z : Wz.cell? ⟨w.heap.size, 0, none⟩ = some (.int .i64 br) := cell_of hbxz rfl
                  have h1z : Wz.cell? ⟨w.heap.size, 1, none⟩ = some (.int .i64 bc) := cell_of hbxz rfl
                  have h2z : Wz.cell? ⟨w.heap.size, 2, none⟩ = some (.int .i64 bre) := cell_of hbxz rfl
                  have h3z : Wz.cell? ⟨w.heap.size, 3, none⟩ = some (.int .i64 bce) := cell_of hbxz rfl
                  clear hbxz
                  go_wp2_with (fail)
                  go_roundw
                  case rel =>
                    refine ⟨i + 1, by omega, by go_num, ?_, HBz⟩
                    rw [show four (halvesOf (l.take (i + 1)) ⟨br, bc, bre, bce⟩ wi) = four (upd (upd (o) 3 (mx ((o) 3) (CT.half e4 (true == wi)))) 1 (mx ((upd (o) 3 (mx ((o) 3) (CT.half e4 (true == wi)))) 1) (CT.half e4 (false == wi)))) from four_ext (by rw [Hn.out, (HS.out _).1]; rfl) (by rw [Hn.out, (HS.out _).2.1]; rfl) (by rw [Hn.out, (HS.out _).2.2.1]; rfl) (by rw [Hn.out, (HS.out _).2.2.2]; rfl)]
                    exact HOz
                  case measure => simp [intOf]; omega
                | false =>
                  have tb := HQ1.out
                  go_wp2_with (fail)
                  go_roundw
                  case rel =>
                    refine ⟨i + 1, by omega, by go_num, ?_, HBy⟩
                    rw [show four (halvesOf (l.take (i + 1)) ⟨br, bc, bre, bce⟩ wi) = four (upd (o) 3 (mx ((o) 3) (CT.half e4 (true == wi)))) from four_ext (by rw [Hn.out, (HS.out _).1]; rfl) (by rw [Hn.out, (HS.out _).2.1]; rfl) (by rw [Hn.out, (HS.out _).2.2.1]; rfl) (by rw [Hn.out, (HS.out _).2.2.2]; rfl)]
                    exact HOy
                  case measure => simp [intOf]; omega
              | false =>
                have ta := HQ3.out
                have hbx9 := (H34.out.trans HB9.out).block _ HLo.out.1 |>.trans HBb.out
                have g09 := cell_of (j := 0) HX9.out rfl
                have g19 := cell_of (j := 1) HX9.out rfl
                have g29 := cell_of (j := 2) HX9.out rfl
                have g39 := cell_of (j := 3) HX9.out rfl
                have g49 := cell_of (j := 4) HX9.out rfl
                have g59 := cell_of (j := 5) HX9.out rfl
                have g69 := cell_of (j := 6) HX9.out rfl
                have g79 := cell_of (j := 7) HX9.out rfl
                have g89 := cell_of (j := 8) HX9.out rfl
                have g99 := cell_of (j := 9) HX9.out rfl
                have h09 : W9.cell? ⟨w.heap.size, 0, none⟩ = some (.int .i64 br) := cell_of hbx9 rfl
                have h19 : W9.cell? ⟨w.heap.size, 1, none⟩ = some (.int .i64 bc) := cell_of hbx9 rfl
                have h29 : W9.cell? ⟨w.heap.size, 2, none⟩ = some (.int .i64 bre) := cell_of hbx9 rfl
                have h39 : W9.cell? ⟨w.heap.size, 3, none⟩ = some (.int .i64 bce) := cell_of hbx9 rfl
                clear hbx9
                cases q1 with
                | true =>
                  have tb := HQ1.out
                  go_wp2_with (fail)
                  refine (H58.out 1 (by decide) false (o) _ HO9.out (((H34.out.trans HB9.out).block _ HLo.out.2.1).trans HBw.out)).mono ?_
                  rintro e Wz ⟨⟨vz, rfl⟩, hO, hg⟩
                  have HOz := Lib.hid hO
                  have HBz : Hid (Below Bo w4 Wz) := Lib.hid (HB9.out.trans ⟨hg.os, hg.tape, hg.output, hg.size, fun q hq => hg.block q (Nat.lt_trans hq (Array.getElem?_eq_some_iff.1 HO9.out).1) (fun e => by have := Option.some.inj e; omega)⟩)
                  have HXz := Lib.hid ((hg.block XB (Array.getElem?_eq_some_iff.1 HX9.out).1 (fun e => by
                    have e2 := Option.some.inj e
                    have h1 := HX9.out
                    rw [e2, HO9.out] at h1
                    simp [four] at h1)).trans HX9.out)
                  clear hO hg
                  clear g09 g19 g29 g39 g49 g59 g69 g79 g89 g99 h09 h19 h29 h39
                  have hbxz := (H34.out.trans HBz.out).block _ HLo.out.1 |>.trans HBb.out
                  have g0z := cell_of (j := 0) HXz.out rfl
                  have g1z := cell_of (j := 1) HXz.out rfl
                  have g2z := cell_of (j := 2) HXz.out rfl
                  have g3z := cell_of (j := 3) HXz.out rfl
                  have g4z := cell_of (j := 4) HXz.out rfl
                  have g5z := cell_of (j := 5) HXz.out rfl
                  have g6z := cell_of (j := 6) HXz.out rfl
                  have g7z := cell_of (j := 7) HXz.out rfl
                  have g8z := cell_of (j := 8) HXz.out rfl
                  have g9z := cell_of (j := 9) HXz.out rfl
                  have h0z : Wz.cell? ⟨w.heap.size, 0, none⟩ = some (.int .i64 br) := cell_of hbxz rfl
                  have h1z : Wz.cell? ⟨w.heap.size, 1, none⟩ = some (.int .i64 bc) := cell_of hbxz rfl
                  have h2z : Wz.cell? ⟨w.heap.size, 2, none⟩ = some (.int .i64 bre) := cell_of hbxz rfl
                  have h3z : Wz.cell? ⟨w.heap.size, 3, none⟩ = some (.int .i64 bce) := cell_of hbxz rfl
                  clear hbxz
                  go_wp2_with (fail)
                  go_roundw
                  case rel =>
                    refine ⟨i + 1, by omega, by go_num, ?_, HBz⟩
                    rw [show four (halvesOf (l.take (i + 1)) ⟨br, bc, bre, bce⟩ wi) = four (upd (o) 1 (mx ((o) 1) (CT.half e4 (false == wi)))) from four_ext (by rw [Hn.out, (HS.out _).1]; rfl) (by rw [Hn.out, (HS.out _).2.1]; rfl) (by rw [Hn.out, (HS.out _).2.2.1]; rfl) (by rw [Hn.out, (HS.out _).2.2.2]; rfl)]
                    exact HOz
                  case measure => simp [intOf]; omega
                | false =>
                  have tb := HQ1.out
                  go_wp2_with (fail)
                  go_roundw
                  case rel =>
                    refine ⟨i + 1, by omega, by go_num, ?_, HB9⟩
                    rw [show four (halvesOf (l.take (i + 1)) ⟨br, bc, bre, bce⟩ wi) = four (o) from four_ext (by rw [Hn.out, (HS.out _).1]; rfl) (by rw [Hn.out, (HS.out _).2.1]; rfl) (by rw [Hn.out, (HS.out _).2.2.1]; rfl) (by rw [Hn.out, (HS.out _).2.2.2]; rfl)]
                    exact HO9
                  case measure => simp [intOf]; omega
            | false =>
              have hbx9 := (H34.out.trans HB9.out).block _ HLo.out.1 |>.trans HBb.out
              have g09 := cell_of (j := 0) HX9.out rfl
              have g19 := cell_of (j := 1) HX9.out rfl
              have g29 := cell_of (j := 2) HX9.out rfl
              have g39 := cell_of (j := 3) HX9.out rfl
              have g49 := cell_of (j := 4) HX9.out rfl
              have g59 := cell_of (j := 5) HX9.out rfl
              have g69 := cell_of (j := 6) HX9.out rfl
              have g79 := cell_of (j := 7) HX9.out rfl
              have g89 := cell_of (j := 8) HX9.out rfl
              have g99 := cell_of (j := 9) HX9.out rfl
              have h09 : W9.cell? ⟨w.heap.size, 0, none⟩ = some (.int .i64 br) := cell_of hbx9 rfl
              have h19 : W9.cell? ⟨w.heap.size, 1, none⟩ = some (.int .i64 bc) := cell_of hbx9 rfl
              have h29 : W9.cell? ⟨w.heap.size, 2, none⟩ = some (.int .i64 bre) := cell_of hbx9 rfl
              have h39 : W9.cell? ⟨w.heap.size, 3, none⟩ = some (.int .i64 bce) := cell_of hbx9 rfl
              clear hbx9
              go_wp2_with (fail)
              go_roundw
              case rel =>
                refine ⟨i + 1, by omega, by go_num, ?_, HB9⟩
                rw [show four (halvesOf (l.take (i + 1)) ⟨br, bc, bre, bce⟩ wi) = four (o) from four_ext (by rw [Hn.out, (HS.out _).1]; rfl) (by rw [Hn.out, (HS.out _).2.1]; rfl) (by rw [Hn.out, (HS.out _).2.2.1]; rfl) (by rw [Hn.out, (HS.out _).2.2.2]; rfl)]
                exact HO9
              case measure => simp [intOf]; omega
        | false =>
          refine OrdX.wp_region_ordN 26 [(0, true), (1, true), (2, true), (3, true), (4, true), (5, true), (6, true), (7, true), (8, true), (9, true), (10, true), (11, true), (12, true), (13, true), (14, true), (15, true), (16, true), (17, true), (18, true), (19, true), (20, true), (21, true), (22, true), (23, true), (24, true), (25, true)] (by kernel_rfl) (by kernel_rfl) ?_
          intro Wc hWc
          apply OrdX.OrdAt.op OrdX.on_put rfl rfl rfl
          · intro X hB
            go_simp
            try rfl
          · dsimp only [List.set_cons_zero, List.set_cons_succ]
          apply OrdX.OrdAt.op OrdX.on_put rfl rfl rfl
          · intro X hB
            have s := OrdX.rd (hWc.g.tr hB) (HIn.out _) (E1.out)
            go_simp
            try rfl
          · dsimp only [List.set_cons_zero, List.set_cons_succ]
          apply OrdX.OrdAt.op OrdX.on_put rfl rfl rfl
          · intro X hB
            go_simp
            try rfl
          · dsimp only [List.set_cons_zero, List.set_cons_succ]
          apply OrdX.OrdAt.op OrdX.on_put rfl rfl rfl
          · intro X hB
            have s := OrdX.rd (hWc.g.tr hB) (HIn.out _) (B1.out)
            go_simp
            try rfl
          · dsimp only [List.set_cons_zero, List.set_cons_succ]
          apply OrdX.OrdAt.op OrdX.on_put rfl rfl rfl
          · intro X hB
            have sc := HC1.out
            go_simp
            try rfl
          · dsimp only [List.set_cons_zero, List.set_cons_succ]
          apply OrdX.OrdAt.op OrdX.on_put rfl rfl rfl
          · intro X hB
            go_simp
            try rfl
          · dsimp only [List.set_cons_zero, List.set_cons_succ]
          apply OrdX.OrdAt.op_not OrdX.on_put rfl rfl rfl
          · dsimp only [List.set_cons_zero, List.set_cons_succ]
          apply OrdX.OrdAt.op_not OrdX.on_put rfl rfl rfl
          · dsimp only [List.set_cons_zero, List.set_cons_succ]
          apply OrdX.OrdAt.op_not OrdX.on_put rfl rfl rfl
          · dsimp only [List.set_cons_zero, List.set_cons_succ]
          apply OrdX.OrdAt.op_not OrdX.on_put rfl rfl rfl
          · dsimp only [List.set_cons_zero, List.set_cons_succ]
          apply OrdX.OrdAt.op_not OrdX.on_put rfl rfl rfl
          · dsimp only [List.set_cons_zero, List.set_cons_succ]
          iterate 2
            apply OrdX.OrdAt.op OrdX.on_put rfl rfl rfl
            · intro X hB
              go_simp
              try rfl
            · dsimp only [List.set_cons_zero, List.set_cons_succ]
          apply OrdX.OrdAt.op OrdX.on_put rfl rfl rfl
          · intro X hB
            have s := OrdX.rd (hWc.g.tr hB) (HIn.out _) (E0.out)
            go_simp
            try rfl
          · dsimp only [List.set_cons_zero, List.set_cons_succ]
          apply OrdX.OrdAt.op OrdX.on_put rfl rfl rfl
          · intro X hB
            go_simp
            try rfl
          · dsimp only [List.set_cons_zero, List.set_cons_succ]
          apply OrdX.OrdAt.op OrdX.on_put rfl rfl rfl
          · intro X hB
            have s := OrdX.rd (hWc.g.tr hB) (HIn.out _) (B0.out)
            go_simp
            try rfl
          · dsimp only [List.set_cons_zero, List.set_cons_succ]
          apply OrdX.OrdAt.op OrdX.on_put rfl rfl rfl
          · intro X hB
            have sc := HR1.out
            go_simp
            try rfl
          · dsimp only [List.set_cons_zero, List.set_cons_succ]
          apply OrdX.OrdAt.op OrdX.on_put rfl rfl rfl
          · intro X hB
            go_simp
            try rfl
          · dsimp only [List.set_cons_zero, List.set_cons_succ]
          apply OrdX.OrdAt.op_not OrdX.on_put rfl rfl rfl
          · dsimp only [List.set_cons_zero, List.set_cons_succ]
          apply OrdX.OrdAt.op_not OrdX.on_put rfl rfl rfl
          · dsimp only [List.set_cons_zero, List.set_cons_succ]
          apply OrdX.OrdAt.op_not OrdX.on_put rfl rfl rfl
          · dsimp only [List.set_cons_zero, List.set_cons_succ]
          apply OrdX.OrdAt.op_not OrdX.on_put rfl rfl rfl
          · dsimp only [List.set_cons_zero, List.set_cons_succ]
          apply OrdX.OrdAt.op_not OrdX.on_put rfl rfl rfl
          · dsimp only [List.set_cons_zero, List.set_cons_succ]
          iterate 3
            apply OrdX.OrdAt.op OrdX.on_put rfl rfl rfl
            · intro X hB
              go_simp
              try rfl
            · dsimp only [List.set_cons_zero, List.set_cons_succ]
          refine OrdX.OrdAt.done ?_
          intro W9 hW9
          refine OrdX.on_normal ?_
          have hx := hWc.trans (hW9.mono hWc.size)
          have HX9 := Lib.hid ((hx.block _ (Array.getElem?_eq_some_iff.1 HXA.out).1).trans HXA.out)
          have HO9 := Lib.hid ((hx.block _ (Array.getElem?_eq_some_iff.1 HOA.out).1).trans HOA.out)
          have HB9 := Lib.hid (HB5.out.trans (hx.mono (Nat.le_of_lt (Array.getElem?_eq_some_iff.1 HOA.out).1)))
          clear hx hW9 hWc E0 E1 HBX B0 B1 B2 B3 HC1 HC2 HR1 HR2 HIn
          cases e2 with
          | true =>
            have hbx9 := (H34.out.trans HB9.out).block _ HLo.out.1 |>.trans HBb.out
            have g09 := cell_of (j := 0) HX9.out rfl
            have g19 := cell_of (j := 1) HX9.out rfl
            have g29 := cell_of (j := 2) HX9.out rfl
            have g39 := cell_of (j := 3) HX9.out rfl
            have g49 := cell_of (j := 4) HX9.out rfl
            have g59 := cell_of (j := 5) HX9.out rfl
            have g69 := cell_of (j := 6) HX9.out rfl
            have g79 := cell_of (j := 7) HX9.out rfl
            have g89 := cell_of (j := 8) HX9.out rfl
            have g99 := cell_of (j := 9) HX9.out rfl
            have h09 : W9.cell? ⟨w.heap.size, 0, none⟩ = some (.int .i64 br) := cell_of hbx9 rfl
            have h19 : W9.cell? ⟨w.heap.size, 1, none⟩ = some (.int .i64 bc) := cell_of hbx9 rfl
            have h29 : W9.cell? ⟨w.heap.size, 2, none⟩ = some (.int .i64 bre) := cell_of hbx9 rfl
            have h39 : W9.cell? ⟨w.heap.size, 3, none⟩ = some (.int .i64 bce) := cell_of hbx9 rfl
            clear hbx9
            go_wp2_with (fail)
            go_roundw
            case rel =>
              refine ⟨i + 1, by omega, by go_num, ?_, HB9⟩
              rw [show four (halvesOf (l.take (i + 1)) ⟨br, bc, bre, bce⟩ wi) = four (o) from four_ext (by rw [Hn.out, (HS.out _).1]; rfl) (by rw [Hn.out, (HS.out _).2.1]; rfl) (by rw [Hn.out, (HS.out _).2.2.1]; rfl) (by rw [Hn.out, (HS.out _).2.2.2]; rfl)]
              exact HO9
            case measure => simp [intOf]; omega
          | false =>
            have hbx9 := (H34.out.trans HB9.out).block _ HLo.out.1 |>.trans HBb.out
            have g09 := cell_of (j := 0) HX9.out rfl
            have g19 := cell_of (j := 1) HX9.out rfl
            have g29 := cell_of (j := 2) HX9.out rfl
            have g39 := cell_of (j := 3) HX9.out rfl
            have g49 := cell_of (j := 4) HX9.out rfl
            have g59 := cell_of (j := 5) HX9.out rfl
            have g69 := cell_of (j := 6) HX9.out rfl
            have g79 := cell_of (j := 7) HX9.out rfl
            have g89 := cell_of (j := 8) HX9.out rfl
            have g99 := cell_of (j := 9) HX9.out rfl
            have h09 : W9.cell? ⟨w.heap.size, 0, none⟩ = some (.int .i64 br) := cell_of hbx9 rfl
            have h19 : W9.cell? ⟨w.heap.size, 1, none⟩ = some (.int .i64 bc) := cell_of hbx9 rfl
            have h29 : W9.cell? ⟨w.heap.size, 2, none⟩ = some (.int .i64 bre) := cell_of hbx9 rfl
            have h39 : W9.cell? ⟨w.heap.size, 3, none⟩ = some (.int .i64 bce) := cell_of hbx9 rfl
            clear hbx9
            go_wp2_with (fail)
            go_roundw
            case rel =>
              refine ⟨i + 1, by omega, by go_num, ?_, HB9⟩
              rw [show four (halvesOf (l.take (i + 1)) ⟨br, bc, bre, bce⟩ wi) = four (o) from four_ext (by rw [Hn.out, (HS.out _).1]; rfl) (by rw [Hn.out, (HS.out _).2.1]; rfl) (by rw [Hn.out, (HS.out _).2.2.1]; rfl) (by rw [Hn.out, (HS.out _).2.2.2]; rfl)]
              exact HO9
            case measure => simp [intOf]; omega
    · obtain rfl : i = n := by omega
      have ti : decide ((i : Int) < (i : Int)) = false := decide_eq_false (by omega)
      have hbr := ((H34.out.trans HBi.out).block _ HLo.out.2.2.1).trans HBr.out
      have HBR := Lib.hid hbr
      clear hbr
      rw [List.take_of_length_le (Nat.le_of_eq HN.out)] at HOi
      go_wp2_with (first | (refine wpList_load (cs := four (halvesOf l ⟨br, bc, bre, bce⟩ wi)) _ rfl rfl rfl HOi.out Try.underlying52 rfl (size52 _) ?_) | (refine wpList_store (old := four fun _ => 0) (cs := four (halvesOf l ⟨br, bc, bre, bce⟩ wi)) rfl rfl rfl rfl HBR.out (size52 _) rfl (four_one _) ?_))
      refine ⟨rfl, _, res37 rfl (setRow_heap _ _ _ _ _ _ HBR.out), rfl, ?_⟩
      have hb := (HB3.out.trans ((H34.out.trans HBi.out).mono (by have := HLo.out; omega)))
      exact hb.trans (CT.below_setRow hb.size HLo.out.2.2.2)
end Go.Proofs.Ytmlcjiabnmdfeaa
