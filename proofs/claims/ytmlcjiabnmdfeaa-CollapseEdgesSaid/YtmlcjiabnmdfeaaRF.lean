/- The reference's at and cell. -/
import Derived.Test.YtmlcjiabnmdfeaaRE
import Derived.Test.YtmlcjiabnmdfeaaM
import Derived.Test.YtmlcjiabnmdfeaaR
namespace Go.Proofs.Ytmlcjiabnmdfeaa
open Go Go.RowKit Go.Shelf CT
set_option linter.unusedVariables false

set_option maxRecDepth 100000 in
set_option maxHeartbeats 4000000 in
/-- who has a slot: the reference -/
theorem c33 (f : Fr) (base : Nat) (v : Value) (vs : Nat → Value) (r c : Int) (W : World) (h : TabR W base v f.R.toNat vs (fun _ => f.C.toNat) (whoTo f.pl f.pl.length)) (h0 : (0 ≤ f.R ∧ 0 ≤ f.C) ∧ f.R ≤ 8 ∧ f.C ≤ 8) :
    Calls Try.prog 33 #[v, .int .i64 r, .int .i64 c] W fun e W' => e = .returned (.int .i64 (who f r c)) ∧ W = W' := by
  obtain ⟨x, hx⟩ : ∃ x, who f r c = x := ⟨_, rfl⟩
  rw [hx]
  unfold who at hx
  obtain ⟨R, hR⟩ := Int.eq_ofNat_of_zero_le h0.1.1
  obtain ⟨C, hC⟩ := Int.eq_ofNat_of_zero_le h0.1.2
  rw [hR, hC] at h0 hx
  rw [hR, hC, Int.toNat_natCast, Int.toNat_natCast] at h
  obtain ⟨A, cp, hv⟩ := own_slice h.own
  have HX := Lib.hid hx
  have H := Lib.hid h
  clear hx h hR hC
  by_cases c1 : r < 0
  · obtain rfl : x = -1 := by rw [← HX.out, if_pos (.inl c1)]
    have t1 : decide (r < 0) = true := decide_eq_true c1
    subst hv
    clear H HX h0
    go_enter Try.func33, Try.ntmps33
    go_wp2_with (fail)
    go_ret
    exact ⟨rfl, rfl⟩
  have t1 : decide (r < 0) = false := decide_eq_false c1
  by_cases c2 : (R : Int) ≤ r
  · obtain rfl : x = -1 := by rw [← HX.out, if_pos (.inr (.inl c2))]
    have t2 : decide ((R : Int) ≤ r) = true := decide_eq_true c2
    subst hv
    clear H HX h0 c1
    go_enter Try.func33, Try.ntmps33
    go_wp2_with (fail)
    go_ret
    exact ⟨rfl, rfl⟩
  have t2 : decide ((R : Int) ≤ r) = false := decide_eq_false c2
  by_cases c3 : c < 0
  · obtain rfl : x = -1 := by rw [← HX.out, if_pos (.inr (.inr (.inl c3)))]
    have t3 : decide (c < 0) = true := decide_eq_true c3
    subst hv
    clear H HX h0 c1 c2
    go_enter Try.func33, Try.ntmps33
    go_wp2_with (fail)
    go_ret
    exact ⟨rfl, rfl⟩
  have t3 : decide (c < 0) = false := decide_eq_false c3
  obtain ⟨k, rfl⟩ := Int.eq_ofNat_of_zero_le (show 0 ≤ r by omega)
  obtain ⟨j, rfl⟩ := Int.eq_ofNat_of_zero_le (show 0 ≤ c by omega)
  have hk : k < R := by omega
  have s2 : decide (R ≤ k) = false := decide_eq_false (by omega)
  have tk : decide ((k : Int) < (R : Int)) = true := decide_eq_true (by omega)
  obtain ⟨g, cg, hv2, hgc⟩ := H.out.cell hk
  subst hv
  cases hv2
  obtain ⟨Ab, cb, hb⟩ := own_slice (H.out.row k hk)
  by_cases c4 : (C : Int) ≤ (j : Int)
  · obtain rfl : x = -1 := by rw [← HX.out, if_pos (.inr (.inr (.inr c4)))]
    have t4 : decide ((C : Int) ≤ (j : Int)) = true := decide_eq_true c4
    have s4 : decide (C ≤ j) = true := decide_eq_true (by omega)
    rw [hb] at hgc
    clear H HX h0 c1 c2 c3 hb
    go_enter Try.func33, Try.ntmps33
    go_wp2_with (fail)
    go_ret
    exact ⟨rfl, rfl⟩
  have t4 : decide ((C : Int) ≤ (j : Int)) = false := decide_eq_false c4
  have s4 : decide (C ≤ j) = false := decide_eq_false (by omega)
  have tj : decide ((j : Int) < (C : Int)) = true := decide_eq_true (by omega)
  have hj : j < C := by omega
  obtain ⟨b, cb2, hb2, _, _, hbc, _⟩ := H.out.at_ hk (show j < C by omega)
  have hx : whoTo f.pl f.pl.length k j = x := by
    have e := HX.out
    rw [if_neg (by omega)] at e
    exact e
  rw [hx] at hbc
  rw [hb2] at hgc
  clear H HX h0 c1 c2 c3 c4 hb hb2 hx
  go_enter Try.func33, Try.ntmps33
  go_wp2_with (fail)
  go_ret
  exact ⟨rfl, rfl⟩

/-- a list of sides, in a row of the call's own -/
structure Got (w0 W : World) (u : Value) (l : List CT.Side) : Prop where
  own : W.ownsRow w0.heap.size 45 6 u l.length (GR.flat CT.Side.cells l)
  bl : Below w0.heap.size w0 W
theorem Got.turn {w0 W W' : World} {u : Value} {l : List CT.Side} (h : Got w0 W u l) (hb : Below W.heap.size W W') : Got w0 W' u l := ⟨GR.own_turn h.own hb, h.bl.trans (hb.mono h.bl.size)⟩
theorem Got.nil {w0 W : World} (hb : Below w0.heap.size w0 W) : Got w0 W (.slice none 0 0) [] := ⟨GR.own_nil _ _ _ _, hb⟩

set_option maxRecDepth 100000 in
set_option maxHeartbeats 8000000 in
/-- what a cell asks for: the reference -/
theorem c54 (f : Fr) (p : Int) (k : Nat) (u : Value) (l : List CT.Side) (w0 W : World) (hI : f.In w0) (hG : Got w0 W u l) (hk : k < 4) (hp : p < f.pl.length) (hlen : f.cl.length = f.pl.length) (hl : l.length ≤ 900000) :
    Calls Try.prog 54 #[u, .agg f.arr, .int .i64 p, .int .i64 k] W fun e W' => ∃ u', e = .returned u' ∧ Got w0 W' u' (l ++ cellAsk f p k) := by
  have hba : Below W.heap.size W (W.alloc (.cells f.arr 30)) := (Below.refl _ _).alloc (Nat.le_refl _) _
  have hA := Fr.At.new f W
  have hG1 := hG.turn hba
  have hI1 := hI.turn hG1.bl
  obtain ⟨Au, cu, hu⟩ := own_slice hG.own
  subst hu
  obtain ⟨N, hN⟩ : ∃ N, l.length = N := ⟨_, rfl⟩
  by_cases hn : p < 0
  · have hc : cellAsk f p k = [] := by unfold cellAsk; rw [if_pos hn]
    rw [hc, List.append_nil]
    have t1 : decide (p < 0) = true := decide_eq_true hn
    have HG := Lib.hid hG1
    clear hA hI hG hG1 hI1 hc hN hba
    go_enter Try.func54, Try.ntmps54
    go_wp2_with (fail)
    go_ret
    exact ⟨_, rfl, HG.out⟩
  · obtain ⟨q, rfl⟩ := Int.eq_ofNat_of_zero_le (show 0 ≤ p by omega)
    have hc : cellAsk f q k = [cellSide f q k] := by unfold cellAsk; rw [if_neg hn, Int.toNat_natCast]
    rw [hc]
    obtain ⟨w1, hw1⟩ : ∃ w1, W.alloc (.cells f.arr 30) = w1 := ⟨_, rfl⟩
    rw [hw1] at hA hG1 hI1
    obtain ⟨x, b, off, hxk, hca, hat, hlt⟩ := hI1.c.get q (by omega)
    obtain ⟨y, b', off', hyk, hpa, hat', _⟩ := hI1.p.get q (by omega)
    obtain ⟨z, b2, off2, hzk, e2, hat2, _⟩ := (four_lines (q := x) hat hlt).get k hk
    cases e2
    have hside : cellSide f q k = ⟨z.style, z.width, z.color, 0, y.row, y.col⟩ := by unfold cellSide lineOf; rw [hxk.out, hyk.out, hzk.out]
    rw [hside]
    obtain ⟨z0, z1, z2⟩ := z
    obtain ⟨y0, y1, y2, y3, y4⟩ := y
    have t1 : decide ((q : Int) < 0) = false := decide_eq_false (by omega)
    have HG := Lib.hid hG1
    have HLF : Hid (N ≤ 900000) := Lib.hid (by omega)
    have HN := Lib.hid hN
    have u1 : decide ((q : Int) < (f.cl.length : Int)) = true := decide_eq_true (by omega)
    have u2 : decide ((q : Int) < (f.pl.length : Int)) = true := decide_eq_true (by omega)
    have u3 : q < f.cl.length := by omega
    have u4 : q < f.pl.length := by omega
    have u6 : (k : Int) < 4 := by omega
    have F3 : Hid (w1.cell? ⟨W.heap.size, 3, none⟩ = some (.slice (some ⟨b, off, none⟩) f.cl.length f.cc)) := Lib.hid (by rw [← hca]; exact hA.eight.2.2.2.1)
    have F2 : Hid (w1.cell? ⟨W.heap.size, 2, none⟩ = some (.slice (some ⟨b', off', none⟩) f.pl.length f.pc)) := Lib.hid (by rw [← hpa]; exact hA.eight.2.2.1)
    have L0 : Hid (w1.cell? ⟨b, off + q * 12 + k * 3, none⟩ = some (.int .i64 z0)) := Lib.hid (hat2 0 _ rfl)
    have L1 : Hid (w1.cell? ⟨b, off + q * 12 + k * 3 + 1, none⟩ = some (.int .i64 z1)) := Lib.hid (hat2 1 _ rfl)
    have L2 : Hid (w1.cell? ⟨b, off + q * 12 + k * 3 + 2, none⟩ = some (.int .u32 z2)) := Lib.hid (hat2 2 _ rfl)
    have P1 : Hid (w1.cell? ⟨b', off' + q * 5 + 1, none⟩ = some (.int .i64 y1)) := Lib.hid (hat' 1 _ rfl)
    have P2 : Hid (w1.cell? ⟨b', off' + q * 5 + 2, none⟩ = some (.int .i64 y2)) := Lib.hid (hat' 2 _ rfl)
    have HW1 := Lib.hid hw1
    have HS0 : Hid (w0.heap.size ≤ w1.heap.size) := Lib.hid hG1.bl.size
    clear hA hI hI1 hG hG1 hba hat hat' hat2 hxk hyk hzk hca hpa hlt hc hside hlen hp hl hn hw1 hN
    obtain ⟨I, hI0⟩ : ∃ I : OrdX.Off, I.row = none := ⟨⟨_⟩, rfl⟩
    have HIn : Hid (∀ b : Nat, some b ≠ OrdX.Off.row) := Lib.hid fun b e => by rw [hI0] at e; cases e
    clear hI0
    rw [HN.out]
    go_enter Try.func54, Try.ntmps54
    go_wp2_with (fail)
    rw [HW1.out]
    clear HW1
    refine OrdX.wp_region_ordN 22 [(0, true), (1, true), (2, true), (3, true), (4, true), (5, true), (6, true), (7, true), (8, true), (9, true), (10, true), (11, true), (12, true), (13, true), (14, true), (15, true), (16, true), (17, true), (18, true), (19, true), (20, true), (21, false), (22, false), (23, false)] (by kernel_rfl) (by kernel_rfl) ?_
    intro Wc hWc
    iterate 2
      apply OrdX.OrdAt.op OrdX.on_put rfl rfl rfl
      · intro X hB
        go_simp
        try rfl
      · dsimp only [List.set_cons_zero, List.set_cons_succ]
    apply OrdX.OrdAt.op OrdX.on_put rfl rfl rfl
    · intro X hB
      have s := OrdX.rd (hWc.g.tr hB) (HIn.out _) (F3.out)
      go_simp
      try rfl
    · dsimp only [List.set_cons_zero, List.set_cons_succ]
    iterate 4
      apply OrdX.OrdAt.op OrdX.on_put rfl rfl rfl
      · intro X hB
        go_simp
        try rfl
      · dsimp only [List.set_cons_zero, List.set_cons_succ]
    apply OrdX.OrdAt.op OrdX.on_put rfl rfl rfl
    · intro X hB
      have s := OrdX.rd (hWc.g.tr hB) (HIn.out _) (L0.out)
      have s1 := OrdX.rd (hWc.g.tr hB) (HIn.out _) (L1.out)
      have s2 := OrdX.rd (hWc.g.tr hB) (HIn.out _) (L2.out)
      go_simp
      try rfl
    · dsimp only [List.set_cons_zero, List.set_cons_succ]
    apply OrdX.OrdAt.op OrdX.on_put rfl rfl rfl
    · intro X hB
      go_simp
      try rfl
    · dsimp only [List.set_cons_zero, List.set_cons_succ]
    apply OrdX.OrdAt.op OrdX.on_put rfl rfl rfl
    · intro X hB
      have s := OrdX.rd (hWc.g.tr hB) (HIn.out _) (F2.out)
      go_simp
      try rfl
    · dsimp only [List.set_cons_zero, List.set_cons_succ]
    iterate 3
      apply OrdX.OrdAt.op OrdX.on_put rfl rfl rfl
      · intro X hB
        go_simp
        try rfl
      · dsimp only [List.set_cons_zero, List.set_cons_succ]
    apply OrdX.OrdAt.op OrdX.on_put rfl rfl rfl
    · intro X hB
      have s := OrdX.rd (hWc.g.tr hB) (HIn.out _) (P1.out)
      go_simp
      try rfl
    · dsimp only [List.set_cons_zero, List.set_cons_succ]
    apply OrdX.OrdAt.op OrdX.on_put rfl rfl rfl
    · intro X hB
      go_simp
      try rfl
    · dsimp only [List.set_cons_zero, List.set_cons_succ]
    apply OrdX.OrdAt.op OrdX.on_put rfl rfl rfl
    · intro X hB
      have s := OrdX.rd (hWc.g.tr hB) (HIn.out _) (F2.out)
      go_simp
      try rfl
    · dsimp only [List.set_cons_zero, List.set_cons_succ]
    iterate 3
      apply OrdX.OrdAt.op OrdX.on_put rfl rfl rfl
      · intro X hB
        go_simp
        try rfl
      · dsimp only [List.set_cons_zero, List.set_cons_succ]
    apply OrdX.OrdAt.op OrdX.on_put rfl rfl rfl
    · intro X hB
      have s := OrdX.rd (hWc.g.tr hB) (HIn.out _) (P2.out)
      go_simp
      try rfl
    · dsimp only [List.set_cons_zero, List.set_cons_succ]
    apply OrdX.OrdAt.op OrdX.on_put rfl rfl rfl
    · intro X hB
      go_simp
      try rfl
    · dsimp only [List.set_cons_zero, List.set_cons_succ]
    refine OrdX.OrdAt.seq rfl rfl ?_
    intro X hB
    go_wp2_with (fail)
    refine ⟨.inr (World.grownBy_alloc X _ _), ?_⟩
    have hbx := hWc.trans (hB.mono hWc.size)
    have hba : Below X.heap.size X (X.alloc (.cells #[.int .i64 z0, .int .i64 z1, .int .u32 z2, .int .i64 0, .int .i64 y1, .int .i64 y2] 45)) := (Below.refl _ _).alloc (Nat.le_refl _) _
    have HG5 := Lib.hid (HG.out.turn (hbx.trans (hba.mono hbx.size)))
    have HM : Hid (GR.One CT.Side.cells 45 (X.alloc (.cells #[.int .i64 z0, .int .i64 z1, .int .u32 z2, .int .i64 0, .int .i64 y1, .int .i64 y2] 45)) X.heap.size ⟨z0, z1, z2, 0, y1, y2⟩) := Lib.hid (GR.One.new (enc := CT.Side.cells) 45 X ⟨z0, z1, z2, 0, y1, y2⟩)
    clear hbx hba hB hWc
    generalize X.alloc (.cells #[.int .i64 z0, .int .i64 z1, .int .u32 z2, .int .i64 0, .int .i64 y1, .int .i64 y2] 45) = Y at *
    generalize X.heap.size = M at *
    refine OrdX.OrdAt.seq rfl rfl ?_
    intro X hB
    have hG5 := HG5.out.turn hB
    refine GR.wp_app_one Side.len Side.one (by decide) (T := 79) (e := 45) (bytes := 48) (by kernel_rfl) info45 rfl w0.heap.size _ _ rfl _ N l rfl (by have h := hG5.own; rw [HN.out] at h; exact h) M 1 _ rfl (HM.out.turn hB) (by have := HLF.out; omega) (by decide) hG5.bl.size ?_
    intro v' W1 h1 h2 h3
    have H1 : Hid (Got w0 W1 v' (l ++ [⟨z0, z1, z2, 0, y1, y2⟩])) := Lib.hid ⟨by rw [List.length_append, HN.out]; exact h1, hG5.bl.trans h2⟩
    refine ⟨.inl (by decide), ?_⟩
    clear h1 h2 h3 hG5 hB
    simp only [Act.put, List.setIfInBounds_toArray, List.set_cons_zero, List.set_cons_succ]
    refine OrdX.OrdAt.seq rfl rfl ?_
    intro X hB
    have HE := Lib.hid (H1.out.turn hB)
    clear hB
    go_wp2_with (fail)
    refine ⟨.inl (by decide), OrdX.OrdAt.done ?_⟩
    intro W9 hW9
    refine OrdX.on_normal ?_
    have HE9 := Lib.hid (HE.out.turn hW9)
    clear hW9 HE
    go_wp2_with (fail)
    go_ret
    exact ⟨_, rfl, HE9.out⟩
end Go.Proofs.Ytmlcjiabnmdfeaa
