/- Contract of what runs over an edge, and the table, ask for. -/
import Derived.Test.YtmlcjiabnmdfeaaO
namespace Go.Proofs.Ytmlcjiabnmdfeaa
open Go Go.RowKit Go.Shelf CT
set_option linter.unusedVariables false

theorem row_keep {X W1 : World} {base n K : Nat} {v : Value} {l : List Value} {cs : Array Value} {t : TypeId} {fr : Nat × Nat} (hown : X.ownsRow base 45 6 v n l) (hg : X.grownBy W1 v.ownBlock) (hK : X.heap[K]? = some (.cells cs t fr)) (ht : t ≠ 45) : W1.heap[K]? = some (.cells cs t fr) := by
  refine (hg.block K (Array.getElem?_eq_some_iff.1 hK).1 fun e => ?_).trans hK
  rcases hown.2 with ⟨rfl, _⟩ | ⟨g, cap, cur, rfl, _, hg', _⟩
  · simp [Value.ownBlock] at e
  · simp only [Value.ownBlock, Option.some.injEq] at e
    rw [e, hg'] at hK
    simp only [Option.some.injEq, Obj.cells.injEq] at hK
    exact ht hK.2.1.symm
theorem set_keep {X : World} {Bo K : Nat} {v u : Value} {cs : Array Value} {t : TypeId} {fr : Nat × Nat} (hb : Boxed X Bo 79 v) (hK : X.heap[K]? = some (.cells cs t fr)) (ht : t ≠ 79) : (X.setCell ⟨Bo, 0, none⟩ u).heap[K]? = some (.cells cs t fr) := by
  refine (heap_set_other X 0 u fun e => ?_).trans hK
  rw [e, show X.heap[Bo]? = _ from hb] at hK
  simp only [Option.some.injEq, Obj.cells.injEq] at hK
  exact ht hK.2.1.symm
theorem take_kind {L : List (List Run × Int)} {j : Nat} {xs : List Run} {by_ : Int} (h : L[j]? = some (xs, by_)) (l : List CT.Side) (F : List Run × Int → List CT.Side) : l ++ (L.take (j + 1)).flatMap F = (l ++ (L.take j).flatMap F) ++ F (xs, by_) := by
  rw [List.take_add_one, h, List.flatMap_append, ← List.append_assoc]
  simp
theorem FrM.table {f : Fr} {W : World} {B g base : Nat} {vs : Nat → Value} (h : FrM f W B g base vs) : GR.At L4.cells W B 8 f.t := fun r u hu => by
  have hr : r < 12 := (List.getElem?_eq_some_iff.1 hu).1
  refine cell_of h.at_ ?_
  rw [← hu]
  rcases r with _ | _ | _ | _ | _ | _ | _ | _ | _ | _ | _ | _ | r
  all_goals first | rfl | omega
theorem kind_at {f : Fr} {W : World} {k1 k2 : Nat} (h : Kinds f W k1 k2) (hi : f.In W) (st : Bool) (kb j : Nat) (hkb : kb = if st = true then k2 else k1) (hj : j < 2) : ∃ A xs c by_, W.cell? ⟨kb, j * 2, none⟩ = some (.slice A xs.length c) ∧ W.cell? ⟨kb, j * 2 + 1, none⟩ = some (.int .i64 by_) ∧ GR.Many Run.cells 14 W A xs ∧ xs.length ≤ 10 ∧ Hid ((btw f st)[j]? = some (xs, by_)) := by
  obtain ⟨A1, c1, A2, c2, hb, hm⟩ := h.btw st
  obtain ⟨m1, m2, l1, l2⟩ := hm hi
  rw [← hkb] at hb
  rcases j with _ | _ | j
  · exact ⟨A1, _, c1, _, cell_of hb rfl, cell_of hb rfl, m1, l1, Lib.hid (by cases st <;> rfl)⟩
  · exact ⟨A2, _, c2, _, cell_of hb rfl, cell_of hb rfl, m2, l2, Lib.hid (by cases st <;> rfl)⟩
  · omega

theorem run_ls2 {x : Run} {W : World} {M : Nat} (h : W.heap[M]? = some (.cells x.arr 84 (0, 0))) : GR.At L4.cells W M 2 x.ls := fun r u hu => by
  have hr : r < 12 := (List.getElem?_eq_some_iff.1 hu).1
  have e : x.arr[2 + r]? = some u := by
    rw [← hu]
    rcases r with _ | _ | _ | _ | _ | _ | _ | _ | _ | _ | _ | _ | r
    all_goals first | rfl | omega
  exact cell_of h e

set_option maxRecDepth 100000 in
set_option maxHeartbeats 8000000 in
/-- asked: of the rim -/
theorem c63 (f : Fr) (st : Bool) (B g base : Nat) (vs : Nat → Value) (m : Int) (line Bo Bd Bm Bf k1 k2 Bs : Nat) (l : List CT.Side) (W0 W : World) (hF : FrM f W0 B g base vs) (hf : Boxed W0 Bf 66 (.pointer (some ⟨B, 0, none⟩))) (hm : Boxed W0 Bm 3 (.int .i64 m)) (hD : DirM f st W0 Bd k1 k2 Bs) (hBo : W0.heap.size ≤ Bo) (hA : Ask W0 W Bo l) (hk : line < 4) (hl : l.length ≤ 800000) :
    Calls Try.prog 63 #[.int .i64 line, .pointer (some ⟨Bd, 0, none⟩), .pointer (some ⟨Bm, 0, none⟩), .pointer (some ⟨Bo, 0, none⟩), .pointer (some ⟨Bf, 0, none⟩)] W fun e W' => (∃ v, e = .returned v) ∧ Ask W0 W' Bo (l ++ rim f st m line) := by
  have hFW := hF.turn (hA.bl.mono hBo)
  have hDW := hD.turn (hA.bl.mono hBo)
  have HF := Lib.hid hF
  have Hf := Lib.hid hf
  have Hm := Lib.hid hm
  have HD := Lib.hid hD
  have HA := Lib.hid hA
  have HBo := Lib.hid hBo
  have HL := Lib.hid hl
  have d1 : W.cell? ⟨Bd, 1, none⟩ = some (.slice (some ⟨if st = true then k1 else k2, 0, none⟩) 2 2) := cell_of hDW.at_ rfl
  obtain ⟨kb, hkb⟩ : ∃ kb, (if st = true then k1 else k2) = kb := ⟨_, rfl⟩
  rw [hkb] at d1
  have Hkb : Hid (kb = if (!st) = true then k2 else k1) := Lib.hid (by rw [← hkb]; cases st <;> rfl)
  clear hFW hDW hF hf hm hD hA hBo hl hkb
  go_enter Try.func63, Try.ntmps63
  go_wp2_with (fail)
  clear d1
  go_loopw [13] (fun a wr => ∃ j : Nat, j ≤ 2 ∧ a = .int .i64 j ∧ Hid (Ask W0 wr Bo (l ++ ((ovr f st).take j).flatMap fun k => k.1.flatMap (rimRun st m line k.2))) ∧ Hid ((l ++ ((ovr f st).take j).flatMap fun k => k.1.flatMap (rimRun st m line k.2)).length ≤ 800000 + 10 * j)) (fun a _ => 2 - (intOf a).toNat)
  case atStart => exact ⟨0, by omega, rfl, Lib.hid (by simpa using HA.out), Lib.hid (by simpa using HL.out)⟩
  case round =>
    obtain ⟨j, hj, rfl, HAj, HLj⟩ := hrel
    by_cases hlt : j < 2
    · have hFW := HF.out.turn (HAj.out.bl.mono HBo.out)
      have hDW := HD.out.turn (HAj.out.bl.mono HBo.out)
      obtain ⟨A, xs, c, by_, g1, g2, hxs, hlx, Hj⟩ := kind_at HD.out.kinds HF.out.in_ (!st) kb j Hkb.out hlt
      have e1 := ((HAj.out.bl.mono HBo.out).cell (World.block_lt_of_cell? _ _ g1)).trans g1
      have e2 := ((HAj.out.bl.mono HBo.out).cell (World.block_lt_of_cell? _ _ g2)).trans g2
      clear g1 g2
      have ti : decide ((j : Int) < 2) = true := decide_eq_true (by omega)
      have tj : (j : Int) < 2 := by omega
      have HX := Lib.hid hxs
      clear hxs hFW hDW
      go_wp2_with (fail)
      obtain ⟨lj, hlj⟩ : ∃ lj, l ++ ((ovr f st).take j).flatMap (fun k => k.1.flatMap (rimRun st m line k.2)) = lj := ⟨_, rfl⟩
      rw [hlj] at HAj HLj
      have Hlj := Lib.hid hlj
      have hka : Below wr.heap.size wr (wr.alloc (.cells #[.slice A xs.length c, .int .i64 by_] 120)) := (Below.refl _ _).alloc (Nat.le_refl _) _
      have HA0 := Lib.hid (HAj.out.turn hka)
      have HK0 := Lib.hid (heap_alloc_new wr (.cells #[.slice A xs.length c, .int .i64 by_] 120))
      clear hka hlj e1 e2
      generalize wr.alloc (Obj.cells #[.slice A xs.length c, .int .i64 by_] 120) = wk at *
      generalize wr.heap.size = K0 at *
      go_loopw [20] (fun a w2 => ∃ i : Nat, i ≤ xs.length ∧ a = .int .i64 i ∧ Hid (Ask W0 w2 Bo (lj ++ (xs.take i).flatMap (rimRun st m line by_))) ∧ Hid ((lj ++ (xs.take i).flatMap (rimRun st m line by_)).length ≤ 800000 + 10 * j + i) ∧ Hid (w2.heap[K0]? = some (.cells #[.slice A xs.length c, .int .i64 by_] 120 (0, 0)))) (fun a _ => xs.length - (intOf a).toNat)
      case atStart => exact ⟨0, by omega, rfl, Lib.hid (by simpa using HA0.out), Lib.hid (by simpa using HLj.out), HK0⟩
      case round =>
        obtain ⟨i, hi, rfl, HAi, HLi, HKi⟩ := hrel
        by_cases hlt2 : i < xs.length
        · have hBl := HAi.out.bl.mono HBo.out
          obtain ⟨x, b, off, hxk, rfl, hat, _⟩ := (HX.out.below hBl).get i hlt2
          have ti2 : decide ((i : Int) < (xs.length : Int)) = true := decide_eq_true (by omega)
          have hbm : wr.cell? ⟨Bm, 0, none⟩ = some (.int .i64 m) := Boxed.cell (show Boxed wr Bm 3 _ from (hBl.block _ Hm.out.lt).trans Hm.out)
          have hba : Below wr.heap.size wr (wr.alloc (.cells x.arr 84)) := (Below.refl _ _).alloc (Nat.le_refl _) _
          have HW := Lib.hid hba
          have hst : (xs.take (i + 1)).flatMap (rimRun st m line by_) = (xs.take i).flatMap (rimRun st m line by_) ++ rimRun st m line by_ x := by
            have h1 : xs[i] = x := by have := hxk.out; rw [List.getElem?_eq_getElem hlt2] at this; exact this
            rw [List.take_succ_eq_append_getElem hlt2, List.flatMap_append, h1]; simp
          have Hst := Lib.hid hst
          have HXA : Hid ((wr.alloc (.cells x.arr 84)).heap[wr.heap.size]? = some (.cells x.arr 84 (0, 0))) := Lib.hid (heap_alloc_new _ _)
          have f9 : IntKind.i64.wrap ((i : Int) + 1) = (i : Int) + 1 := IntWalk.i64_in _ (by omega)
          clear hst hba
          obtain ⟨x0, x1, x2, x3, x4, x5, x6, x7, x8, x9, x10, x11, x12, x13⟩ := x
          unfold Run.arr at *
          dsimp only at HW HXA ⊢
          have q0 : wr.cell? ⟨b, off + i * 14, none⟩ = some (.int .i64 x0) := hat 0 _ rfl
          have q1 : wr.cell? ⟨b, off + i * 14 + 1, none⟩ = some (.int .i64 x1) := hat 1 _ rfl
          have q2 : wr.cell? ⟨b, off + i * 14 + 2, none⟩ = some (.int .i64 x2) := hat 2 _ rfl
          have q3 : wr.cell? ⟨b, off + i * 14 + 3, none⟩ = some (.int .i64 x3) := hat 3 _ rfl
          have q4 : wr.cell? ⟨b, off + i * 14 + 4, none⟩ = some (.int .u32 x4) := hat 4 _ rfl
          have q5 : wr.cell? ⟨b, off + i * 14 + 5, none⟩ = some (.int .i64 x5) := hat 5 _ rfl
          have q6 : wr.cell? ⟨b, off + i * 14 + 6, none⟩ = some (.int .i64 x6) := hat 6 _ rfl
          have q7 : wr.cell? ⟨b, off + i * 14 + 7, none⟩ = some (.int .u32 x7) := hat 7 _ rfl
          have q8 : wr.cell? ⟨b, off + i * 14 + 8, none⟩ = some (.int .i64 x8) := hat 8 _ rfl
          have q9 : wr.cell? ⟨b, off + i * 14 + 9, none⟩ = some (.int .i64 x9) := hat 9 _ rfl
          have q10 : wr.cell? ⟨b, off + i * 14 + 10, none⟩ = some (.int .u32 x10) := hat 10 _ rfl
          have q11 : wr.cell? ⟨b, off + i * 14 + 11, none⟩ = some (.int .i64 x11) := hat 11 _ rfl
          have q12 : wr.cell? ⟨b, off + i * 14 + 12, none⟩ = some (.int .i64 x12) := hat 12 _ rfl
          have q13 : wr.cell? ⟨b, off + i * 14 + 13, none⟩ = some (.int .u32 x13) := hat 13 _ rfl
          have hbm2 := (HW.out.cell (p := ⟨Bm, 0, none⟩) (World.block_lt_of_cell? _ _ hbm)).trans hbm
          clear hat
          by_cases hm1 : x0 ≤ m
          · have t1 : decide (x0 ≤ m) = true := decide_eq_true hm1
            by_cases hm2 : m < x1
            · have t2 : decide (m < x1) = true := decide_eq_true hm2
              obtain ⟨z, b2, off2, hzk, e2, hat2, _⟩ := (four_lines (q := Run.ls ⟨x0, x1, x2, x3, x4, x5, x6, x7, x8, x9, x10, x11, x12, x13⟩) (run_ls2 HXA.out) (Array.getElem?_eq_some_iff.1 HXA.out).1).get line hk
              cases e2
              have hrr : rimRun st m line by_ ⟨x0, x1, x2, x3, x4, x5, x6, x7, x8, x9, x10, x11, x12, x13⟩ = [dSide st z by_ x0 true] := by
                unfold rimRun lineOf
                rw [hzk.out, if_pos ⟨hm1, hm2⟩]
              rw [hrr] at Hst
              have u6 : (line : Int) < 4 := by omega
              have HA2 := Lib.hid (HAi.out.turn HW.out)
              have HK2 := Lib.hid ((HW.out.block _ (Array.getElem?_eq_some_iff.1 HKi.out).1).trans HKi.out)
              have hDx := HD.out.turn (HA2.out.bl.mono HBo.out)
              have D5 : Hid ((wr.alloc (.cells #[.int .i64 x0, .int .i64 x1, .int .i64 x2, .int .i64 x3, .int .u32 x4, .int .i64 x5, .int .i64 x6, .int .u32 x7, .int .i64 x8, .int .i64 x9, .int .u32 x10, .int .i64 x11, .int .i64 x12, .int .u32 x13] 84)).cell? ⟨Bd, 5, none⟩ = some (dFn st Bs)) := Lib.hid (cell_of hDx.at_ rfl)
              have HSd := Lib.hid hDx.side
              obtain ⟨z0, z1, z2⟩ := z
              have Z0 : Hid (_ = some (Value.int .i64 z0)) := Lib.hid (show (wr.alloc (.cells #[.int .i64 x0, .int .i64 x1, .int .i64 x2, .int .i64 x3, .int .u32 x4, .int .i64 x5, .int .i64 x6, .int .u32 x7, .int .i64 x8, .int .i64 x9, .int .u32 x10, .int .i64 x11, .int .i64 x12, .int .u32 x13] 84)).cell? ⟨wr.heap.size, 2 + line * 3, none⟩ = _ from hat2 0 _ rfl)
              have Z1 := Lib.hid (hat2 1 _ rfl)
              have Z2 := Lib.hid (hat2 2 _ rfl)
              have KB : Hid (_ = some (Value.int .i64 by_)) := Lib.hid (cell_of (j := 1) HK2.out rfl)
              have X0 : Hid (_ = some (Value.int .i64 x0)) := Lib.hid (cell_of (j := 0) HXA.out rfl)
              obtain ⟨v, hv, hrow⟩ := HA2.out.row
              have HV := Lib.hid hv
              have HR := Lib.hid hrow
              clear hv hrow hDx hat2 hzk hrr
              obtain ⟨I, hI0⟩ : ∃ I : OrdX.Off, I.row = none := ⟨⟨_⟩, rfl⟩
              have HIn : Hid (∀ b : Nat, some b ≠ OrdX.Off.row) := Lib.hid fun b e => by rw [hI0] at e; cases e
              clear hI0
              obtain ⟨LI, hLI⟩ : ∃ LI, lj ++ (xs.take i).flatMap (rimRun st m line by_) = LI := ⟨_, rfl⟩
              have HBL := Lib.hid HA2.out.bl
              have HLF : Hid (LI.length ≤ 900000) := Lib.hid (by have := HLi.out; rw [hLI] at this; omega)
              have HCL := Lib.hid fun W' hW' => c_side st ⟨z0, z1, z2⟩ by_ x0 true Bs W' hW'
              obtain ⟨y, hy⟩ : ∃ y, dSide st ⟨z0, z1, z2⟩ by_ x0 true = y := ⟨_, rfl⟩
              rw [hLI] at HR HLi HA2
              rw [hy] at HCL Hst
              have HLIe := Lib.hid hLI
              clear hLI
              clear hy
              obtain ⟨y0, y1, y2, y3, y4, y5⟩ := y
              unfold CT.Side.arr Line.arr at HCL
              dsimp only at HCL
              go_wp2_with (fail)
              cases st with
              | true =>
                simp only [dFn, if_true] at D5 HCL
                refine OrdX.wp_region_ordN 13 [(0, true), (1, true), (2, true), (3, true), (4, true), (5, true), (6, true), (7, true), (8, true), (9, true), (10, true), (11, true), (12, false), (13, false), (14, false)] (by kernel_rfl) (by kernel_rfl) ?_
                intro Wc hWc
                apply OrdX.OrdAt.op OrdX.on_put rfl rfl rfl
                · intro X hB
                  have s := OrdX.rd (hWc.g.tr hB) (HIn.out _) (HV.out.cell)
                  go_simp
                  try rfl
                · dsimp only [List.set_cons_zero, List.set_cons_succ]
                apply OrdX.OrdAt.op OrdX.on_put rfl rfl rfl
                · intro X hB
                  go_simp
                  try rfl
                · dsimp only [List.set_cons_zero, List.set_cons_succ]
                apply OrdX.OrdAt.op OrdX.on_put rfl rfl rfl
                · intro X hB
                  have s := OrdX.rd (hWc.g.tr hB) (HIn.out _) (D5.out)
                  go_simp
                  try rfl
                · dsimp only [List.set_cons_zero, List.set_cons_succ]
                iterate 3
                  apply OrdX.OrdAt.op OrdX.on_put rfl rfl rfl
                  · intro X hB
                    go_simp
                    try rfl
                  · dsimp only [List.set_cons_zero, List.set_cons_succ]
                apply OrdX.OrdAt.op OrdX.on_put rfl rfl rfl
                · intro X hB
                  have s := OrdX.rd (hWc.g.tr hB) (HIn.out _) (Z0.out)
                  have s1 := OrdX.rd (hWc.g.tr hB) (HIn.out _) (Z1.out)
                  have s2 := OrdX.rd (hWc.g.tr hB) (HIn.out _) (Z2.out)
                  go_simp
                  try rfl
                · dsimp only [List.set_cons_zero, List.set_cons_succ]
                apply OrdX.OrdAt.op OrdX.on_put rfl rfl rfl
                · intro X hB
                  go_simp
                  try rfl
                · dsimp only [List.set_cons_zero, List.set_cons_succ]
                apply OrdX.OrdAt.op OrdX.on_put rfl rfl rfl
                · intro X hB
                  have s := OrdX.rd (hWc.g.tr hB) (HIn.out _) (KB.out)
                  go_simp
                  try rfl
                · dsimp only [List.set_cons_zero, List.set_cons_succ]
                apply OrdX.OrdAt.op OrdX.on_put rfl rfl rfl
                · intro X hB
                  go_simp
                  try rfl
                · dsimp only [List.set_cons_zero, List.set_cons_succ]
                apply OrdX.OrdAt.op OrdX.on_put rfl rfl rfl
                · intro X hB
                  have s := OrdX.rd (hWc.g.tr hB) (HIn.out _) (X0.out)
                  go_simp
                  try rfl
                · dsimp only [List.set_cons_zero, List.set_cons_succ]
                apply OrdX.OrdAt.call OrdX.on_put rfl rfl rfl
                · intro X hB
                  go_simp
                  first | exact ⟨rfl, rfl⟩ | rfl
                · intro X hB
                  refine (HCL.out X (fun _ => ((hWc.g.tr hB).block _ (Array.getElem?_eq_some_iff.1 (HSd.out rfl)).1 (HIn.out _)).trans (HSd.out rfl))).mono ?_; rintro e W1 ⟨rfl, hb⟩; exact ⟨rfl, hb⟩
                · dsimp only [List.set_cons_zero, List.set_cons_succ]
                refine OrdX.OrdAt.seq rfl rfl ?_
                intro X hB
                go_wp2_with (fail)
                refine ⟨.inr (World.grownBy_alloc X _ _), ?_⟩
                have hbx := hWc.trans (hB.mono hWc.size)
                have hba : Below X.heap.size X (X.alloc (.cells #[.int .i64 y0, .int .i64 y1, .int .u32 y2, .int .i64 y3, .int .i64 y4, .int .i64 y5] 45)) := (Below.refl _ _).alloc (Nat.le_refl _) _
                have hbb := hbx.trans (hba.mono hbx.size)
                have HBB := Lib.hid hbb
                have HM : Hid (GR.One CT.Side.cells 45 (X.alloc (.cells #[.int .i64 y0, .int .i64 y1, .int .u32 y2, .int .i64 y3, .int .i64 y4, .int .i64 y5] 45)) X.heap.size ⟨y0, y1, y2, y3, y4, y5⟩) := Lib.hid (GR.One.new (enc := CT.Side.cells) 45 X ⟨y0, y1, y2, y3, y4, y5⟩)
                clear hbx hba hbb hB hWc
                generalize X.alloc (.cells #[.int .i64 y0, .int .i64 y1, .int .u32 y2, .int .i64 y3, .int .i64 y4, .int .i64 y5] 45) = Y at *
                generalize X.heap.size = M at *
                refine OrdX.OrdAt.seq rfl rfl ?_
                intro X hB
                have hbx := HBB.out.trans (hB.mono HBB.out.size)
                have HVX : Hid (Boxed X Bo 79 v) := Lib.hid ((hbx.block _ HV.out.lt).trans HV.out)
                have HBX := Lib.hid (HBL.out.trans (hbx.mono (Nat.le_of_lt HV.out.lt)))
                have HKX := Lib.hid ((hbx.block _ (Array.getElem?_eq_some_iff.1 HK2.out).1).trans HK2.out)
                refine GR.wp_app_one Side.len Side.one (by decide) (T := 79) (e := 45) (bytes := 48) (by kernel_rfl) info45 rfl (Bo + 1) _ _ rfl v LI.length LI rfl (GR.own_turn HR.out hbx) M 1 _ rfl (HM.out.turn hB) (by have := HLF.out; omega) (by decide) (by have := HVX.out.lt; omega) ?_
                intro v' W1 h1 h2 h3
                obtain ⟨bv, cv, rfl⟩ := own_some h1 (Nat.succ_ne_zero _)
                have HK1 := Lib.hid (row_keep (GR.own_turn HR.out hbx) h3 HKX.out (by decide))
                have H1 := Lib.hid h1
                have H2 := Lib.hid h2
                refine ⟨.inl (by decide), ?_⟩
                clear h1 h2 h3 hbx hB
                simp only [Act.put, List.setIfInBounds_toArray, List.set_cons_zero, List.set_cons_succ]
                refine OrdX.OrdAt.seq rfl rfl ?_
                intro X hB
                have H2X := Lib.hid (H2.out.trans (hB.mono (by have := H2.out.size; have := HVX.out.lt; omega)))
                have HV1 : Boxed X Bo 79 v := (H2X.out.block _ (by omega)).trans HVX.out
                have s := HV1.cell
                have fz := HV1.frozen
                have hown := GR.own_turn H1.out hB
                have HE := Lib.hid (Ask.app HBX.out ⟨_, HVX.out⟩ hown (by simp) H2X.out)
                have HK3 : Hid ((X.setCell ⟨Bo, 0, none⟩ (.slice (some ⟨bv, 0, none⟩) (LI.length + 1) cv)).heap[K0]? = _) := Lib.hid (set_keep HV1 ((hB.block _ (Array.getElem?_eq_some_iff.1 HK1.out).1).trans HK1.out) (by decide))
                clear hown HV1 hB
                go_wp2_with (fail)
                refine ⟨.inl (by decide), OrdX.OrdAt.done ?_⟩
                intro W9 hW9
                refine OrdX.on_normal ?_
                have HE9 := Lib.hid (HE.out.turn hW9)
                have HK9 := Lib.hid ((hW9.block _ (Array.getElem?_eq_some_iff.1 HK3.out).1).trans HK3.out)
                clear hW9 HE s fz
                go_wp2_with (fail)
                go_roundw
                case rel => exact ⟨i + 1, by omega, by go_num, by rw [Hst.out, ← List.append_assoc, HLIe.out]; exact HE9, by rw [Hst.out, ← List.append_assoc, HLIe.out]; exact Lib.hid (by rw [List.length_append, List.length_singleton]; have := HLi.out; omega), HK9⟩
                case measure => simp [intOf]; omega
              | false =>
                simp only [dFn, Bool.false_eq_true, if_false] at D5 HCL
                refine OrdX.wp_region_ordN 13 [(0, true), (1, true), (2, true), (3, true), (4, true), (5, true), (6, true), (7, true), (8, true), (9, true), (10, true), (11, true), (12, false), (13, false), (14, false)] (by kernel_rfl) (by kernel_rfl) ?_
                intro Wc hWc
                apply OrdX.OrdAt.op OrdX.on_put rfl rfl rfl
                · intro X hB
                  have s := OrdX.rd (hWc.g.tr hB) (HIn.out _) (HV.out.cell)
                  go_simp
                  try rfl
                · dsimp only [List.set_cons_zero, List.set_cons_succ]
                apply OrdX.OrdAt.op OrdX.on_put rfl rfl rfl
                · intro X hB
                  go_simp
                  try rfl
                · dsimp only [List.set_cons_zero, List.set_cons_succ]
                apply OrdX.OrdAt.op OrdX.on_put rfl rfl rfl
                · intro X hB
                  have s := OrdX.rd (hWc.g.tr hB) (HIn.out _) (D5.out)
                  go_simp
                  try rfl
                · dsimp only [List.set_cons_zero, List.set_cons_succ]
                iterate 3
                  apply OrdX.OrdAt.op OrdX.on_put rfl rfl rfl
                  · intro X hB
                    go_simp
                    try rfl
                  · dsimp only [List.set_cons_zero, List.set_cons_succ]
                apply OrdX.OrdAt.op OrdX.on_put rfl rfl rfl
                · intro X hB
                  have s := OrdX.rd (hWc.g.tr hB) (HIn.out _) (Z0.out)
                  have s1 := OrdX.rd (hWc.g.tr hB) (HIn.out _) (Z1.out)
                  have s2 := OrdX.rd (hWc.g.tr hB) (HIn.out _) (Z2.out)
                  go_simp
                  try rfl
                · dsimp only [List.set_cons_zero, List.set_cons_succ]
                apply OrdX.OrdAt.op OrdX.on_put rfl rfl rfl
                · intro X hB
                  go_simp
                  try rfl
                · dsimp only [List.set_cons_zero, List.set_cons_succ]
                apply OrdX.OrdAt.op OrdX.on_put rfl rfl rfl
                · intro X hB
                  have s := OrdX.rd (hWc.g.tr hB) (HIn.out _) (KB.out)
                  go_simp
                  try rfl
                · dsimp only [List.set_cons_zero, List.set_cons_succ]
                apply OrdX.OrdAt.op OrdX.on_put rfl rfl rfl
                · intro X hB
                  go_simp
                  try rfl
                · dsimp only [List.set_cons_zero, List.set_cons_succ]
                apply OrdX.OrdAt.op OrdX.on_put rfl rfl rfl
                · intro X hB
                  have s := OrdX.rd (hWc.g.tr hB) (HIn.out _) (X0.out)
                  go_simp
                  try rfl
                · dsimp only [List.set_cons_zero, List.set_cons_succ]
                apply OrdX.OrdAt.call OrdX.on_put rfl rfl rfl
                · intro X hB
                  go_simp
                  first | exact ⟨rfl, rfl⟩ | rfl
                · intro X hB
                  refine (HCL.out X (fun e => by cases e)).mono ?_; rintro e W1 ⟨rfl, hb⟩; exact ⟨rfl, hb⟩
                · dsimp only [List.set_cons_zero, List.set_cons_succ]
                refine OrdX.OrdAt.seq rfl rfl ?_
                intro X hB
                go_wp2_with (fail)
                refine ⟨.inr (World.grownBy_alloc X _ _), ?_⟩
                have hbx := hWc.trans (hB.mono hWc.size)
                have hba : Below X.heap.size X (X.alloc (.cells #[.int .i64 y0, .int .i64 y1, .int .u32 y2, .int .i64 y3, .int .i64 y4, .int .i64 y5] 45)) := (Below.refl _ _).alloc (Nat.le_refl _) _
                have hbb := hbx.trans (hba.mono hbx.size)
                have HBB := Lib.hid hbb
                have HM : Hid (GR.One CT.Side.cells 45 (X.alloc (.cells #[.int .i64 y0, .int .i64 y1, .int .u32 y2, .int .i64 y3, .int .i64 y4, .int .i64 y5] 45)) X.heap.size ⟨y0, y1, y2, y3, y4, y5⟩) := Lib.hid (GR.One.new (enc := CT.Side.cells) 45 X ⟨y0, y1, y2, y3, y4, y5⟩)
                clear hbx hba hbb hB hWc
                generalize X.alloc (.cells #[.int .i64 y0, .int .i64 y1, .int .u32 y2, .int .i64 y3, .int .i64 y4, .int .i64 y5] 45) = Y at *
                generalize X.heap.size = M at *
                refine OrdX.OrdAt.seq rfl rfl ?_
                intro X hB
                have hbx := HBB.out.trans (hB.mono HBB.out.size)
                have HVX : Hid (Boxed X Bo 79 v) := Lib.hid ((hbx.block _ HV.out.lt).trans HV.out)
                have HBX := Lib.hid (HBL.out.trans (hbx.mono (Nat.le_of_lt HV.out.lt)))
                have HKX := Lib.hid ((hbx.block _ (Array.getElem?_eq_some_iff.1 HK2.out).1).trans HK2.out)
                refine GR.wp_app_one Side.len Side.one (by decide) (T := 79) (e := 45) (bytes := 48) (by kernel_rfl) info45 rfl (Bo + 1) _ _ rfl v LI.length LI rfl (GR.own_turn HR.out hbx) M 1 _ rfl (HM.out.turn hB) (by have := HLF.out; omega) (by decide) (by have := HVX.out.lt; omega) ?_
                intro v' W1 h1 h2 h3
                obtain ⟨bv, cv, rfl⟩ := own_some h1 (Nat.succ_ne_zero _)
                have HK1 := Lib.hid (row_keep (GR.own_turn HR.out hbx) h3 HKX.out (by decide))
                have H1 := Lib.hid h1
                have H2 := Lib.hid h2
                refine ⟨.inl (by decide), ?_⟩
                clear h1 h2 h3 hbx hB
                simp only [Act.put, List.setIfInBounds_toArray, List.set_cons_zero, List.set_cons_succ]
                refine OrdX.OrdAt.seq rfl rfl ?_
                intro X hB
                have H2X := Lib.hid (H2.out.trans (hB.mono (by have := H2.out.size; have := HVX.out.lt; omega)))
                have HV1 : Boxed X Bo 79 v := (H2X.out.block _ (by omega)).trans HVX.out
                have s := HV1.cell
                have fz := HV1.frozen
                have hown := GR.own_turn H1.out hB
                have HE := Lib.hid (Ask.app HBX.out ⟨_, HVX.out⟩ hown (by simp) H2X.out)
                have HK3 : Hid ((X.setCell ⟨Bo, 0, none⟩ (.slice (some ⟨bv, 0, none⟩) (LI.length + 1) cv)).heap[K0]? = _) := Lib.hid (set_keep HV1 ((hB.block _ (Array.getElem?_eq_some_iff.1 HK1.out).1).trans HK1.out) (by decide))
                clear hown HV1 hB
                go_wp2_with (fail)
                refine ⟨.inl (by decide), OrdX.OrdAt.done ?_⟩
                intro W9 hW9
                refine OrdX.on_normal ?_
                have HE9 := Lib.hid (HE.out.turn hW9)
                have HK9 := Lib.hid ((hW9.block _ (Array.getElem?_eq_some_iff.1 HK3.out).1).trans HK3.out)
                clear hW9 HE s fz
                go_wp2_with (fail)
                go_roundw
                case rel => exact ⟨i + 1, by omega, by go_num, by rw [Hst.out, ← List.append_assoc, HLIe.out]; exact HE9, by rw [Hst.out, ← List.append_assoc, HLIe.out]; exact Lib.hid (by rw [List.length_append, List.length_singleton]; have := HLi.out; omega), HK9⟩
                case measure => simp [intOf]; omega
            · have t2 : decide (m < x1) = false := decide_eq_false hm2
              have hr0 : rimRun st m line by_ ⟨x0, x1, x2, x3, x4, x5, x6, x7, x8, x9, x10, x11, x12, x13⟩ = [] := if_neg (by dsimp only; omega)
              have HA2 := Lib.hid (HAi.out.turn HW.out)
              have HK2 := Lib.hid ((HW.out.block _ (Array.getElem?_eq_some_iff.1 HKi.out).1).trans HKi.out)
              rw [hr0, List.append_nil] at Hst
              have Hr0 := Lib.hid hr0
              clear hr0
              go_wp2_with (fail)
              go_roundw
              case rel => exact ⟨i + 1, by omega, by go_num, by rw [Hst.out]; exact HA2, by rw [Hst.out]; exact Lib.hid (Nat.le_trans HLi.out (by omega)), HK2⟩
              case measure => simp [intOf]; omega
          · have t1 : decide (x0 ≤ m) = false := decide_eq_false hm1
            have hr0 : rimRun st m line by_ ⟨x0, x1, x2, x3, x4, x5, x6, x7, x8, x9, x10, x11, x12, x13⟩ = [] := if_neg (by dsimp only; omega)
            have HA2 := Lib.hid (HAi.out.turn HW.out)
            have HK2 := Lib.hid ((HW.out.block _ (Array.getElem?_eq_some_iff.1 HKi.out).1).trans HKi.out)
            rw [hr0, List.append_nil] at Hst
            have Hr0 := Lib.hid hr0
            clear hr0
            go_wp2_with (fail)
            go_roundw
            case rel => exact ⟨i + 1, by omega, by go_num, by rw [Hst.out]; exact HA2, by rw [Hst.out]; exact Lib.hid (Nat.le_trans HLi.out (by omega)), HK2⟩
            case measure => simp [intOf]; omega
        · obtain rfl : i = xs.length := by omega
          have ti2 : decide ((xs.length : Int) < (xs.length : Int)) = false := decide_eq_false (by omega)
          have f10 : IntKind.i64.wrap ((j : Int) + 1) = (j : Int) + 1 := IntWalk.i64_in _ (by omega)
          have Hn := Lib.hid (take_kind Hj.out l fun k => k.1.flatMap (rimRun st m line k.2))
          go_wp2_with (fail)
          go_roundw
          case rel =>
            refine ⟨j + 1, by omega, by go_num, ?_, ?_⟩
            · rw [show ovr f st = btw f (!st) from rfl, Hn.out, show l ++ ((btw f (!st)).take j).flatMap (fun k => k.1.flatMap (rimRun st m line k.2)) = lj from Hlj.out]
              have h := HAi.out
              rw [List.take_length] at h
              exact Lib.hid h
            · rw [show ovr f st = btw f (!st) from rfl, Hn.out, show l ++ ((btw f (!st)).take j).flatMap (fun k => k.1.flatMap (rimRun st m line k.2)) = lj from Hlj.out]
              have h := HLi.out
              rw [List.take_length] at h
              exact Lib.hid (Nat.le_trans h (by omega))
          case measure => simp [intOf]; omega
    · obtain rfl : j = 2 := by omega
      have ti : decide ((2 : Int) < 2) = false := rfl
      have hFW := HF.out.turn (HAj.out.bl.mono HBo.out)
      obtain ⟨z, b2, off2, hzk, e2, hat2, _⟩ := (four_lines (q := f.t) hFW.table hFW.lt).get line hk
      cases e2
      have u6 : (line : Int) < 4 := by omega
      have FB : Hid (wr.cell? ⟨Bf, 0, none⟩ = some (.pointer (some ⟨B, 0, none⟩))) := Lib.hid (Boxed.cell (show Boxed wr Bf 66 _ from ((HAj.out.bl.mono HBo.out).block _ Hf.out.lt).trans Hf.out))
      obtain ⟨LJ, hLJ⟩ : ∃ LJ, l ++ ((ovr f st).take 2).flatMap (fun k => k.1.flatMap (rimRun st m line k.2)) = LJ := ⟨_, rfl⟩
      have hrim : l ++ rim f st m line = LJ ++ [⟨z.style, z.width, z.color, 5, 0, 0⟩] := by
        unfold rim tableSide lineOf
        rw [← hLJ, hzk.out, List.take_of_length_le (by cases st <;> exact Nat.le_refl _), List.append_assoc]
      have Hrim := Lib.hid hrim
      rw [hLJ] at HAj HLj
      obtain ⟨z0, z1, z2⟩ := z
      have Z0 : Hid (wr.cell? ⟨B, 8 + line * 3, none⟩ = some (.int .i64 z0)) := Lib.hid (hat2 0 _ rfl)
      have Z1 := Lib.hid (hat2 1 _ rfl)
      have Z2 := Lib.hid (hat2 2 _ rfl)
      obtain ⟨v, hv, hrow⟩ := HAj.out.row
      have HV := Lib.hid hv
      have HR := Lib.hid hrow
      have HBL := Lib.hid HAj.out.bl
      have HLF : Hid (LJ.length ≤ 900000) := Lib.hid (by have := HLj.out; omega)
      clear hv hrow hat2 hzk hrim hLJ hFW
      obtain ⟨I, hI0⟩ : ∃ I : OrdX.Off, I.row = none := ⟨⟨_⟩, rfl⟩
      have HIn : Hid (∀ b : Nat, some b ≠ OrdX.Off.row) := Lib.hid fun b e => by rw [hI0] at e; cases e
      clear hI0
      go_wp2_with (fail)
      refine OrdX.wp_region_ordN 10 [(0, true), (1, true), (2, true), (3, true), (4, true), (5, true), (6, true), (7, true), (8, true), (9, false), (10, false), (11, false)] (by kernel_rfl) (by kernel_rfl) ?_
      intro Wc hWc
      apply OrdX.OrdAt.op OrdX.on_put rfl rfl rfl
      · intro X hB
        have s := OrdX.rd (hWc.g.tr hB) (HIn.out _) (HV.out.cell)
        go_simp
        try rfl
      · dsimp only [List.set_cons_zero, List.set_cons_succ]
      apply OrdX.OrdAt.op OrdX.on_put rfl rfl rfl
      · intro X hB
        have s := OrdX.rd (hWc.g.tr hB) (HIn.out _) (FB.out)
        go_simp
        try rfl
      · dsimp only [List.set_cons_zero, List.set_cons_succ]
      iterate 5
        apply OrdX.OrdAt.op OrdX.on_put rfl rfl rfl
        · intro X hB
          go_simp
          try rfl
        · dsimp only [List.set_cons_zero, List.set_cons_succ]
      apply OrdX.OrdAt.op OrdX.on_put rfl rfl rfl
      · intro X hB
        have s := OrdX.rd (hWc.g.tr hB) (HIn.out _) (Z0.out)
        have s1 := OrdX.rd (hWc.g.tr hB) (HIn.out _) (Z1.out)
        have s2 := OrdX.rd (hWc.g.tr hB) (HIn.out _) (Z2.out)
        go_simp
        try rfl
      · dsimp only [List.set_cons_zero, List.set_cons_succ]
      apply OrdX.OrdAt.op OrdX.on_put rfl rfl rfl
      · intro X hB
        go_simp
        try rfl
      · dsimp only [List.set_cons_zero, List.set_cons_succ]
      refine OrdX.OrdAt.seq rfl rfl ?_
      intro X hB
      go_wp2_with (fail)
      refine ⟨.inr (World.grownBy_alloc X _ _), ?_⟩
      have hbx := hWc.trans (hB.mono hWc.size)
      have hba : Below X.heap.size X (X.alloc (.cells #[.int .i64 z0, .int .i64 z1, .int .u32 z2, .int .i64 5, .int .i64 0, .int .i64 0] 45)) := (Below.refl _ _).alloc (Nat.le_refl _) _
      have hbb := hbx.trans (hba.mono hbx.size)
      have HBB := Lib.hid hbb
      have HM : Hid (GR.One CT.Side.cells 45 (X.alloc (.cells #[.int .i64 z0, .int .i64 z1, .int .u32 z2, .int .i64 5, .int .i64 0, .int .i64 0] 45)) X.heap.size ⟨z0, z1, z2, 5, 0, 0⟩) := Lib.hid (GR.One.new (enc := CT.Side.cells) 45 X ⟨z0, z1, z2, 5, 0, 0⟩)
      clear hbx hba hbb hB hWc
      generalize X.alloc (.cells #[.int .i64 z0, .int .i64 z1, .int .u32 z2, .int .i64 5, .int .i64 0, .int .i64 0] 45) = Y at *
      generalize X.heap.size = M at *
      refine OrdX.OrdAt.seq rfl rfl ?_
      intro X hB
      have hbx := HBB.out.trans (hB.mono HBB.out.size)
      have HVX : Hid (Boxed X Bo 79 v) := Lib.hid ((hbx.block _ HV.out.lt).trans HV.out)
      have HBX := Lib.hid (HBL.out.trans (hbx.mono (Nat.le_of_lt HV.out.lt)))
      skip
      refine GR.wp_app_one Side.len Side.one (by decide) (T := 79) (e := 45) (bytes := 48) (by kernel_rfl) info45 rfl (Bo + 1) _ _ rfl v LJ.length LJ rfl (GR.own_turn HR.out hbx) M 1 _ rfl (HM.out.turn hB) (by have := HLF.out; omega) (by decide) (by have := HVX.out.lt; omega) ?_
      intro v' W1 h1 h2 h3
      obtain ⟨bv, cv, rfl⟩ := own_some h1 (Nat.succ_ne_zero _)
      skip
      have H1 := Lib.hid h1
      have H2 := Lib.hid h2
      refine ⟨.inl (by decide), ?_⟩
      clear h1 h2 h3 hbx hB
      simp only [Act.put, List.setIfInBounds_toArray, List.set_cons_zero, List.set_cons_succ]
      refine OrdX.OrdAt.seq rfl rfl ?_
      intro X hB
      have H2X := Lib.hid (H2.out.trans (hB.mono (by have := H2.out.size; have := HVX.out.lt; omega)))
      have HV1 : Boxed X Bo 79 v := (H2X.out.block _ (by omega)).trans HVX.out
      have s := HV1.cell
      have fz := HV1.frozen
      have hown := GR.own_turn H1.out hB
      have HE := Lib.hid (Ask.app HBX.out ⟨_, HVX.out⟩ hown (by simp) H2X.out)
      skip
      clear hown HV1 hB
      go_wp2_with (fail)
      refine ⟨.inl (by decide), OrdX.OrdAt.done ?_⟩
      intro W9 hW9
      refine OrdX.on_normal ?_
      have HE9 := Lib.hid (HE.out.turn hW9)
      skip
      clear hW9 HE s fz
      exact ⟨rfl, _, results_none rfl _ _ _, ⟨_, rfl⟩, by rw [Hrim.out]; exact HE9.out⟩
end Go.Proofs.Ytmlcjiabnmdfeaa
