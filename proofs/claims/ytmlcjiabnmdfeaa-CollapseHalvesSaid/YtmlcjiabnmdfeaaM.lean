/- Contract of what a cell asks for at an edge. -/
import Derived.Test.YtmlcjiabnmdfeaaL
namespace Go.Proofs.Ytmlcjiabnmdfeaa
open Go Go.RowKit Go.Shelf CT
set_option linter.unusedVariables false

theorem Side.len : ∀ x : CT.Side, (CT.Side.cells x).length = 6 := fun _ => rfl
theorem Side.one : ∀ x : CT.Side, ∀ u ∈ CT.Side.cells x, u.oneCell' = true := fun x u hu => by
  simp only [CT.Side.cells, List.mem_cons, List.not_mem_nil, or_false] at hu
  rcases hu with rfl | rfl | rfl | rfl | rfl | rfl <;> rfl
theorem info45 : (Try.prog.info? 45).map (fun i => (i.zero, i.size, i.bytes)) = some (some (.agg #[.int .i64 0, .int .i64 0, .int .u32 0, .int .i64 0, .int .i64 0, .int .i64 0]), 6, 48) := by kernel_rfl
/-- what has been asked for lies in a slice of its own -/
structure Ask (W0 W : World) (Bo : Nat) (l : List CT.Side) : Prop where
  row : ∃ v, Boxed W Bo 79 v ∧ W.ownsRow (Bo + 1) 45 6 v l.length (GR.flat CT.Side.cells l)
  bl : Below Bo W0 W
theorem Ask.turn {W0 W W' : World} {Bo : Nat} {l : List CT.Side} (h : Ask W0 W Bo l) (hb : Below W.heap.size W W') : Ask W0 W' Bo l := by
  obtain ⟨v, h1, h2⟩ := h.row
  exact ⟨⟨v, (hb.block _ h1.lt).trans h1, GR.own_turn h2 hb⟩, h.bl.trans (hb.mono (Nat.le_of_lt h1.lt))⟩
theorem Ask.app {W0 W W1 : World} {Bo n : Nat} {l : List CT.Side} {v' : Value} (hbl : Below Bo W0 W) (hbx : ∃ v, Boxed W Bo 79 v) (hown : W1.ownsRow (Bo + 1) 45 6 v' n (GR.flat CT.Side.cells l)) (hn : n = l.length) (hb : Below (Bo + 1) W W1) : Ask W0 (W1.setCell ⟨Bo, 0, none⟩ v') Bo l := by
  subst hn
  obtain ⟨v, hv⟩ := hbx
  have h1 : Boxed W1 Bo 79 v := (hb.block _ (by omega)).trans hv
  refine ⟨⟨v', h1.set v', GR.own_keep hown fun g hg _ => heap_set_other W1 0 v' fun e => ?_⟩, (hbl.trans (hb.mono (by omega))).setCell (p := ⟨Bo, 0, none⟩) (Nat.le_refl _) v'⟩
  have := (GR.own_block hown hg).1
  omega
/-- one of a box's lines -/
def lineOf (q : L4) (k : Nat) : Line := q.lines[k]?.getD default
def cellSide (f : Fr) (p k : Nat) : CT.Side :=
  ⟨(lineOf (f.cl[p]?.getD default) k).style, (lineOf (f.cl[p]?.getD default) k).width, (lineOf (f.cl[p]?.getD default) k).color, 0, (f.pl[p]?.getD default).row, (f.pl[p]?.getD default).col⟩
def cellAsk (f : Fr) (p : Int) (k : Nat) : List CT.Side := if p < 0 then [] else [cellSide f p.toNat k]

set_option maxRecDepth 100000 in
set_option maxHeartbeats 8000000 in
/-- asked: of a cell -/
theorem c62 (f : Fr) (B g base : Nat) (vs : Nat → Value) (p : Int) (k Bo Bf : Nat) (l : List CT.Side) (W0 W : World) (hF : FrM f W0 B g base vs) (hf : Boxed W0 Bf 66 (.pointer (some ⟨B, 0, none⟩))) (hBo : W0.heap.size ≤ Bo) (hA : Ask W0 W Bo l) (hk : k < 4) (hp : p < f.pl.length) (hlen : f.cl.length = f.pl.length) (hl : l.length ≤ 900000) :
    Calls Try.prog 62 #[.int .i64 p, .int .i64 k, .pointer (some ⟨Bo, 0, none⟩), .pointer (some ⟨Bf, 0, none⟩)] W fun e W' => (∃ v, e = .returned v) ∧ Ask W0 W' Bo (l ++ cellAsk f p k) := by
  by_cases hn : p < 0
  · have hc : cellAsk f p k = [] := by unfold cellAsk; rw [if_pos hn]
    rw [hc, List.append_nil]
    have t1 : decide (0 ≤ p) = false := decide_eq_false (by omega)
    have HA := Lib.hid hA
    clear hA hf hF hc
    go_enter Try.func62, Try.ntmps62
    go_wp2_with (fail)
    exact ⟨rfl, _, results_none rfl _ _ _, ⟨_, rfl⟩, HA.out⟩
  · obtain ⟨q, rfl⟩ := Int.eq_ofNat_of_zero_le (show 0 ≤ p by omega)
    have hc : cellAsk f q k = [cellSide f q k] := by unfold cellAsk; rw [if_neg hn, Int.toNat_natCast]
    rw [hc]
    have hFW := hF.turn (hA.bl.mono hBo)
    obtain ⟨x, b, off, hxk, hca, hat, hlt⟩ := hFW.in_.c.get q (by omega)
    obtain ⟨y, b', off', hyk, hpa, hat', _⟩ := hFW.in_.p.get q (by omega)
    obtain ⟨z, b2, off2, hzk, e2, hat2, _⟩ := (four_lines (q := x) hat hlt).get k hk
    cases e2
    have hside : cellSide f q k = ⟨z.style, z.width, z.color, 0, y.row, y.col⟩ := by unfold cellSide lineOf; rw [hxk.out, hyk.out, hzk.out]
    rw [hside]
    obtain ⟨z0, z1, z2⟩ := z
    obtain ⟨y0, y1, y2, y3, y4⟩ := y
    have t1 : decide ((0 : Int) ≤ (q : Int)) = true := decide_eq_true (by omega)
    obtain ⟨v, hv, hrow⟩ := hA.row
    have HV := Lib.hid hv
    have HR := Lib.hid hrow
    have HBL := Lib.hid hA.bl
    have HLF : Hid (l.length ≤ 900000) := Lib.hid hl
    have u1 : decide ((q : Int) < (f.cl.length : Int)) = true := decide_eq_true (by omega)
    have u2 : decide ((q : Int) < (f.pl.length : Int)) = true := decide_eq_true (by omega)
    have u3 : q < f.cl.length := by omega
    have u4 : q < f.pl.length := by omega
    have u6 : (k : Int) < 4 := by omega
    have FB : Hid (W.cell? ⟨Bf, 0, none⟩ = some (.pointer (some ⟨B, 0, none⟩))) := Lib.hid (Boxed.cell (show Boxed W Bf 66 _ from ((hA.bl.mono hBo).block _ hf.lt).trans hf))
    have F3 : Hid (W.cell? ⟨B, 3, none⟩ = some (.slice (some ⟨b, off, none⟩) f.cl.length f.cc)) := Lib.hid (by rw [← hca]; exact hFW.eight.2.2.2.1)
    have F2 : Hid (W.cell? ⟨B, 2, none⟩ = some (.slice (some ⟨b', off', none⟩) f.pl.length f.pc)) := Lib.hid (by rw [← hpa]; exact hFW.eight.2.2.1)
    have L0 : Hid (W.cell? ⟨b, off + q * 12 + k * 3, none⟩ = some (.int .i64 z0)) := Lib.hid (hat2 0 _ rfl)
    have L1 : Hid (W.cell? ⟨b, off + q * 12 + k * 3 + 1, none⟩ = some (.int .i64 z1)) := Lib.hid (hat2 1 _ rfl)
    have L2 : Hid (W.cell? ⟨b, off + q * 12 + k * 3 + 2, none⟩ = some (.int .u32 z2)) := Lib.hid (hat2 2 _ rfl)
    have P1 : Hid (W.cell? ⟨b', off' + q * 5 + 1, none⟩ = some (.int .i64 y1)) := Lib.hid (hat' 1 _ rfl)
    have P2 : Hid (W.cell? ⟨b', off' + q * 5 + 2, none⟩ = some (.int .i64 y2)) := Lib.hid (hat' 2 _ rfl)
    clear hA hf hF hFW hat hat' hat2 hxk hyk hzk hca hpa hlt hrow hc hside hlen hp hl hv hn
    obtain ⟨I, hI0⟩ : ∃ I : OrdX.Off, I.row = none := ⟨⟨_⟩, rfl⟩
    have HIn : Hid (∀ b : Nat, some b ≠ OrdX.Off.row) := Lib.hid fun b e => by rw [hI0] at e; cases e
    clear hI0
    go_enter Try.func62, Try.ntmps62
    go_wp2_with (fail)
    refine OrdX.wp_region_ordN 31 [(0, true), (1, true), (2, true), (3, true), (4, true), (5, true), (6, true), (7, true), (8, true), (9, true), (10, true), (11, true), (12, true), (13, true), (14, true), (15, true), (16, true), (17, true), (18, true), (19, true), (20, true), (21, true), (22, true), (23, true), (24, true), (25, true), (26, true), (27, true), (28, true), (29, true), (30, false), (31, false), (32, false)] (by kernel_rfl) (by kernel_rfl) ?_
    intro Wc hWc
    apply OrdX.OrdAt.op OrdX.on_put rfl rfl rfl
    · intro X hB
      have s := OrdX.rd (hWc.g.tr hB) (HIn.out _) (Boxed.cell HV.out)
      go_simp
      try rfl
    · dsimp only [List.set_cons_zero, List.set_cons_succ]
    apply OrdX.OrdAt.op OrdX.on_put rfl rfl rfl
    · intro X hB
      have s := OrdX.rd (hWc.g.tr hB) (HIn.out _) (FB.out)
      go_simp
      try rfl
    · dsimp only [List.set_cons_zero, List.set_cons_succ]
    iterate 3
      apply OrdX.OrdAt.op OrdX.on_put rfl rfl rfl
      · intro X hB
        go_simp
        try rfl
      · dsimp only [List.set_cons_zero, List.set_cons_succ]
    apply OrdX.OrdAt.op OrdX.on_put rfl rfl rfl
    · intro X hB
      have s := OrdX.rd (hWc.g.tr hB) (HIn.out _) (F3.out)
      go_simp
      try rfl
    · dsimp only [List.set_cons_zero, List.set_cons_succ]
    iterate 4
      apply OrdX.OrdAt.op OrdX.on_put rfl rfl rfl
      · intro X hB
        go_simp
        try rfl
      · dsimp only [List.set_cons_zero, List.set_cons_succ]
    apply OrdX.OrdAt.op OrdX.on_put rfl rfl rfl
    · intro X hB
      have s := OrdX.rd (hWc.g.tr hB) (HIn.out _) (L0.out)
      have s1 := OrdX.rd (hWc.g.tr hB) (HIn.out _) (L1.out)
      have s2 := OrdX.rd (hWc.g.tr hB) (HIn.out _) (L2.out)
      go_simp
      try rfl
    · dsimp only [List.set_cons_zero, List.set_cons_succ]
    apply OrdX.OrdAt.op OrdX.on_put rfl rfl rfl
    · intro X hB
      have s := OrdX.rd (hWc.g.tr hB) (HIn.out _) (FB.out)
      go_simp
      try rfl
    · dsimp only [List.set_cons_zero, List.set_cons_succ]
    iterate 3
      apply OrdX.OrdAt.op OrdX.on_put rfl rfl rfl
      · intro X hB
        go_simp
        try rfl
      · dsimp only [List.set_cons_zero, List.set_cons_succ]
    apply OrdX.OrdAt.op OrdX.on_put rfl rfl rfl
    · intro X hB
      have s := OrdX.rd (hWc.g.tr hB) (HIn.out _) (F2.out)
      go_simp
      try rfl
    · dsimp only [List.set_cons_zero, List.set_cons_succ]
    iterate 3
      apply OrdX.OrdAt.op OrdX.on_put rfl rfl rfl
      · intro X hB
        go_simp
        try rfl
      · dsimp only [List.set_cons_zero, List.set_cons_succ]
    apply OrdX.OrdAt.op OrdX.on_put rfl rfl rfl
    · intro X hB
      have s := OrdX.rd (hWc.g.tr hB) (HIn.out _) (P1.out)
      go_simp
      try rfl
    · dsimp only [List.set_cons_zero, List.set_cons_succ]
    apply OrdX.OrdAt.op OrdX.on_put rfl rfl rfl
    · intro X hB
      have s := OrdX.rd (hWc.g.tr hB) (HIn.out _) (FB.out)
      go_simp
      try rfl
    · dsimp only [List.set_cons_zero, List.set_cons_succ]
    iterate 3
      apply OrdX.OrdAt.op OrdX.on_put rfl rfl rfl
      · intro X hB
        go_simp
        try rfl
      · dsimp only [List.set_cons_zero, List.set_cons_succ]
    apply OrdX.OrdAt.op OrdX.on_put rfl rfl rfl
    · intro X hB
      have s := OrdX.rd (hWc.g.tr hB) (HIn.out _) (F2.out)
      go_simp
      try rfl
    · dsimp only [List.set_cons_zero, List.set_cons_succ]
    iterate 3
      apply OrdX.OrdAt.op OrdX.on_put rfl rfl rfl
      · intro X hB
        go_simp
        try rfl
      · dsimp only [List.set_cons_zero, List.set_cons_succ]
    apply OrdX.OrdAt.op OrdX.on_put rfl rfl rfl
    · intro X hB
      have s := OrdX.rd (hWc.g.tr hB) (HIn.out _) (P2.out)
      go_simp
      try rfl
    · dsimp only [List.set_cons_zero, List.set_cons_succ]
    apply OrdX.OrdAt.op OrdX.on_put rfl rfl rfl
    · intro X hB
      go_simp
      try rfl
    · dsimp only [List.set_cons_zero, List.set_cons_succ]
    refine OrdX.OrdAt.seq rfl rfl ?_
    intro X hB
    go_wp2_with (fail)
    refine ⟨.inr (World.grownBy_alloc X _ _), ?_⟩
    have hbx := hWc.trans (hB.mono hWc.size)
    have hba : Below X.heap.size X (X.alloc (.cells #[.int .i64 z0, .int .i64 z1, .int .u32 z2, .int .i64 0, .int .i64 y1, .int .i64 y2] 45)) := (Below.refl _ _).alloc (Nat.le_refl _) _
    have hbb := hbx.trans (hba.mono hbx.size)
    have HBB := Lib.hid hbb
    have HM : Hid (GR.One CT.Side.cells 45 (X.alloc (.cells #[.int .i64 z0, .int .i64 z1, .int .u32 z2, .int .i64 0, .int .i64 y1, .int .i64 y2] 45)) X.heap.size ⟨z0, z1, z2, 0, y1, y2⟩) := Lib.hid (GR.One.new (enc := CT.Side.cells) 45 X ⟨z0, z1, z2, 0, y1, y2⟩)
    clear hbx hba hbb hB hWc
    generalize X.alloc (.cells #[.int .i64 z0, .int .i64 z1, .int .u32 z2, .int .i64 0, .int .i64 y1, .int .i64 y2] 45) = Y at *
    generalize X.heap.size = M at *
    refine OrdX.OrdAt.seq rfl rfl ?_
    intro X hB
    have hbx := HBB.out.trans (hB.mono HBB.out.size)
    have HVX : Hid (Boxed X Bo 79 v) := Lib.hid ((hbx.block _ HV.out.lt).trans HV.out)
    have HBX := Lib.hid (HBL.out.trans (hbx.mono (Nat.le_of_lt HV.out.lt)))
    refine GR.wp_app_one Side.len Side.one (by decide) (T := 79) (e := 45) (bytes := 48) (by kernel_rfl) info45 rfl (Bo + 1) _ _ rfl v l.length l rfl (GR.own_turn HR.out hbx) M 1 _ rfl (HM.out.turn hB) (by have := HLF.out; omega) (by decide) (by have := HVX.out.lt; omega) ?_
    intro v' W1 h1 h2 h3
    obtain ⟨bv, cv, rfl⟩ := own_some h1 (Nat.succ_ne_zero _)
    have H1 := Lib.hid h1
    have H2 := Lib.hid h2
    refine ⟨.inl (by decide), ?_⟩
    clear h1 h2 h3 hbx hB
    simp only [Act.put, List.setIfInBounds_toArray, List.set_cons_zero, List.set_cons_succ]
    refine OrdX.OrdAt.seq rfl rfl ?_
    intro X hB
    have H2X := Lib.hid (H2.out.trans (hB.mono (by have := H2.out.size; have := HVX.out.lt; omega)))
    have HV1 : Boxed X Bo 79 v := (H2X.out.block _ (by omega)).trans HVX.out
    have s := HV1.cell
    have fz := HV1.frozen
    have hown := GR.own_turn H1.out hB
    have HE := Lib.hid (Ask.app HBX.out ⟨_, HVX.out⟩ hown (by simp) H2X.out)
    clear hown HV1 hB
    go_wp2_with (fail)
    refine ⟨.inl (by decide), OrdX.OrdAt.done ?_⟩
    intro W9 hW9
    refine OrdX.on_normal ?_
    have HE9 := Lib.hid (HE.out.turn hW9)
    clear hW9 HE s fz
    exact ⟨rfl, _, results_none rfl _ _ _, ⟨_, rfl⟩, HE9.out⟩

end Go.Proofs.Ytmlcjiabnmdfeaa
