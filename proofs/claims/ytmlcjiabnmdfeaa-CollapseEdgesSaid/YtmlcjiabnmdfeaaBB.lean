/- Contracts of the reference's Same (of equal lists), the law's back. -/
import Derived.Test.YtmlcjiabnmdfeaaAC
namespace Go.Proofs.Ytmlcjiabnmdfeaa
open Go Go.RowKit Go.Shelf CT
set_option linter.unusedVariables false
theorem eq47 (x : Edge) (w : World) : (Op.equalIn 10000 47 (.agg x.arr) (.agg x.arr)).run Try.prog w = .ok true w := by
  obtain ⟨e0, e1, e2, e3, e4, e5, e6, e7, e8, e9⟩ := x
  unfold Edge.arr
  dsimp only
  have := eq30 ⟨e3, e4, e5, e6, e7, e8⟩ ⟨e3, e4, e5, e6, e7, e8⟩ w
  rw [decide_eq_true rfl] at this
  go_simp
set_option maxRecDepth 100000 in
set_option maxHeartbeats 8000000 in
/-- the reference's Same, of equal lists -/
theorem c15s (A1 A2 : Option Addr) (xs : List Edge) (cp1 cp2 : Nat) (w : World) (h1 : GR.Many Edge.cells 10 w A1 xs) (h2 : GR.Many Edge.cells 10 w A2 xs) (hl : xs.length ≤ 1000000) :
    Calls Try.prog 15 #[.slice A1 xs.length cp1, .slice A2 xs.length cp2] w fun e w' => e = .returned (.bool true) ∧ Below w.heap.size w w' := by
  have H1 := Lib.hid h1
  have H2 := Lib.hid h2
  obtain ⟨n, hn⟩ : ∃ n, xs.length = n := ⟨_, rfl⟩
  have HN := Lib.hid hn
  have hn6 : n ≤ 1000000 := by omega
  rw [hn]
  have tn : ((n : Int) != (n : Int)) = false := by simp
  clear h1 h2 hl hn
  go_enter Try.func15, Try.ntmps15
  go_wp2_with (fail)
  clear tn
  go_loopw [5] (fun a wr => ∃ i : Nat, i ≤ n ∧ a = .int .i64 i ∧ Hid (Below w.heap.size w wr)) (fun a _ => n - (intOf a).toNat)
  case atStart => exact ⟨0, by omega, rfl, Lib.hid (Below.refl _ _)⟩
  case round =>
    obtain ⟨i, hi, rfl, HBi⟩ := hrel
    by_cases hlt : i < n
    · have ti : decide ((i : Int) < (n : Int)) = true := decide_eq_true (by omega)
      obtain ⟨x, b1, o1, hx1, e1', hat1, _⟩ := (H1.out.below HBi.out).get i (by rw [HN.out]; exact hlt)
      obtain ⟨y, b2, o2, hx2, e2', hat2, _⟩ := (H2.out.below HBi.out).get i (by rw [HN.out]; exact hlt)
      have hxy : y = x := hx2.out.symm.trans hx1.out
      subst hxy
      subst e1'
      subst e2'
      have f9 : IntKind.i64.wrap ((i : Int) + 1) = (i : Int) + 1 := IntWalk.i64_in _ (by omega)
      clear hx1 hx2
      obtain ⟨e0, e1, e2, e3, e4, e5, e6, e7, e8, e9⟩ := y
      have A0 : Hid (wr.cell? ⟨b1, o1 + i * 10, none⟩ = some (Value.int .i64 e0)) := Lib.hid (hat1 0 _ rfl)
      have A1 : Hid (wr.cell? ⟨b1, o1 + i * 10 + 1, none⟩ = some (Value.int .i64 e1)) := Lib.hid (hat1 1 _ rfl)
      have A2 : Hid (wr.cell? ⟨b1, o1 + i * 10 + 2, none⟩ = some (Value.bool e2)) := Lib.hid (hat1 2 _ rfl)
      have A3 : Hid (wr.cell? ⟨b1, o1 + i * 10 + 3, none⟩ = some (Value.int .i64 e3)) := Lib.hid (hat1 3 _ rfl)
      have A4 : Hid (wr.cell? ⟨b1, o1 + i * 10 + 4, none⟩ = some (Value.int .i64 e4)) := Lib.hid (hat1 4 _ rfl)
      have A5 : Hid (wr.cell? ⟨b1, o1 + i * 10 + 5, none⟩ = some (Value.int .u32 e5)) := Lib.hid (hat1 5 _ rfl)
      have A6 : Hid (wr.cell? ⟨b1, o1 + i * 10 + 6, none⟩ = some (Value.int .i64 e6)) := Lib.hid (hat1 6 _ rfl)
      have A7 : Hid (wr.cell? ⟨b1, o1 + i * 10 + 7, none⟩ = some (Value.int .i64 e7)) := Lib.hid (hat1 7 _ rfl)
      have A8 : Hid (wr.cell? ⟨b1, o1 + i * 10 + 8, none⟩ = some (Value.int .i64 e8)) := Lib.hid (hat1 8 _ rfl)
      have A9 : Hid (wr.cell? ⟨b1, o1 + i * 10 + 9, none⟩ = some (Value.int .i64 e9)) := Lib.hid (hat1 9 _ rfl)
      have B0 : Hid (wr.cell? ⟨b2, o2 + i * 10, none⟩ = some (Value.int .i64 e0)) := Lib.hid (hat2 0 _ rfl)
      have B1 : Hid (wr.cell? ⟨b2, o2 + i * 10 + 1, none⟩ = some (Value.int .i64 e1)) := Lib.hid (hat2 1 _ rfl)
      have B2 : Hid (wr.cell? ⟨b2, o2 + i * 10 + 2, none⟩ = some (Value.bool e2)) := Lib.hid (hat2 2 _ rfl)
      have B3 : Hid (wr.cell? ⟨b2, o2 + i * 10 + 3, none⟩ = some (Value.int .i64 e3)) := Lib.hid (hat2 3 _ rfl)
      have B4 : Hid (wr.cell? ⟨b2, o2 + i * 10 + 4, none⟩ = some (Value.int .i64 e4)) := Lib.hid (hat2 4 _ rfl)
      have B5 : Hid (wr.cell? ⟨b2, o2 + i * 10 + 5, none⟩ = some (Value.int .u32 e5)) := Lib.hid (hat2 5 _ rfl)
      have B6 : Hid (wr.cell? ⟨b2, o2 + i * 10 + 6, none⟩ = some (Value.int .i64 e6)) := Lib.hid (hat2 6 _ rfl)
      have B7 : Hid (wr.cell? ⟨b2, o2 + i * 10 + 7, none⟩ = some (Value.int .i64 e7)) := Lib.hid (hat2 7 _ rfl)
      have B8 : Hid (wr.cell? ⟨b2, o2 + i * 10 + 8, none⟩ = some (Value.int .i64 e8)) := Lib.hid (hat2 8 _ rfl)
      have B9 : Hid (wr.cell? ⟨b2, o2 + i * 10 + 9, none⟩ = some (Value.int .i64 e9)) := Lib.hid (hat2 9 _ rfl)
      clear hat1 hat2
      obtain ⟨I, hI0⟩ : ∃ I : OrdX.Off, I.row = none := ⟨⟨_⟩, rfl⟩
      have HIn : Hid (∀ b : Nat, some b ≠ OrdX.Off.row) := Lib.hid fun b e => by rw [hI0] at e; cases e
      clear hI0
      go_wp2_with (fail)
      refine OrdX.wp_region_ordN 9 [(0, true), (1, true), (2, true), (3, true), (4, true), (5, true), (6, true), (7, true), (8, true)] (by kernel_rfl) (by kernel_rfl) ?_
      intro Wc hWc
      iterate 3
        apply OrdX.OrdAt.op OrdX.on_put rfl rfl rfl
        · intro X hB
          go_simp
          try rfl
        · dsimp only [List.set_cons_zero, List.set_cons_succ]
      apply OrdX.OrdAt.op OrdX.on_put rfl rfl rfl
      · intro X hB
        have s0 := OrdX.rd (hWc.g.tr hB) (HIn.out _) (A0.out)
        have s1 := OrdX.rd (hWc.g.tr hB) (HIn.out _) (A1.out)
        have s2 := OrdX.rd (hWc.g.tr hB) (HIn.out _) (A2.out)
        have s3 := OrdX.rd (hWc.g.tr hB) (HIn.out _) (A3.out)
        have s4 := OrdX.rd (hWc.g.tr hB) (HIn.out _) (A4.out)
        have s5 := OrdX.rd (hWc.g.tr hB) (HIn.out _) (A5.out)
        have s6 := OrdX.rd (hWc.g.tr hB) (HIn.out _) (A6.out)
        have s7 := OrdX.rd (hWc.g.tr hB) (HIn.out _) (A7.out)
        have s8 := OrdX.rd (hWc.g.tr hB) (HIn.out _) (A8.out)
        have s9 := OrdX.rd (hWc.g.tr hB) (HIn.out _) (A9.out)
        go_simp
        try rfl
      · dsimp only [List.set_cons_zero, List.set_cons_succ]
      iterate 3
        apply OrdX.OrdAt.op OrdX.on_put rfl rfl rfl
        · intro X hB
          go_simp
          try rfl
        · dsimp only [List.set_cons_zero, List.set_cons_succ]
      apply OrdX.OrdAt.op OrdX.on_put rfl rfl rfl
      · intro X hB
        have s0 := OrdX.rd (hWc.g.tr hB) (HIn.out _) (B0.out)
        have s1 := OrdX.rd (hWc.g.tr hB) (HIn.out _) (B1.out)
        have s2 := OrdX.rd (hWc.g.tr hB) (HIn.out _) (B2.out)
        have s3 := OrdX.rd (hWc.g.tr hB) (HIn.out _) (B3.out)
        have s4 := OrdX.rd (hWc.g.tr hB) (HIn.out _) (B4.out)
        have s5 := OrdX.rd (hWc.g.tr hB) (HIn.out _) (B5.out)
        have s6 := OrdX.rd (hWc.g.tr hB) (HIn.out _) (B6.out)
        have s7 := OrdX.rd (hWc.g.tr hB) (HIn.out _) (B7.out)
        have s8 := OrdX.rd (hWc.g.tr hB) (HIn.out _) (B8.out)
        have s9 := OrdX.rd (hWc.g.tr hB) (HIn.out _) (B9.out)
        go_simp
        try rfl
      · dsimp only [List.set_cons_zero, List.set_cons_succ]
      apply OrdX.OrdAt.op OrdX.on_put rfl rfl rfl
      · intro X hB
        have sq := eq47 ⟨e0, e1, e2, e3, e4, e5, e6, e7, e8, e9⟩ X
        unfold Edge.arr at sq
        dsimp only at sq
        go_simp
        try rfl
      · dsimp only [List.set_cons_zero, List.set_cons_succ]
      refine OrdX.OrdAt.done ?_
      intro W9 hW9
      refine OrdX.on_normal ?_
      have hx := hWc.trans (hW9.mono hWc.size)
      have HB9 := Lib.hid (HBi.out.trans (hx.mono HBi.out.size))
      clear hx hW9 hWc
      go_wp2_with (fail)
      go_roundw
      case rel => exact ⟨i + 1, by omega, by go_num, HB9⟩
      case measure => simp [intOf]; omega
    · obtain rfl : i = n := by omega
      have ti : decide ((i : Int) < (i : Int)) = false := decide_eq_false (by omega)
      go_wp2_with (fail)
      go_ret
      exact ⟨rfl, HBi.out⟩
theorem info84 : (Try.prog.info? 84).map (fun i => (i.zero, i.size, i.bytes)) = some (some (.agg #[.int .i64 0, .int .i64 0, .int .i64 0, .int .i64 0, .int .u32 0, .int .i64 0, .int .i64 0, .int .u32 0, .int .i64 0, .int .i64 0, .int .u32 0, .int .i64 0, .int .i64 0, .int .u32 0]), 14, 112) := by kernel_rfl
theorem rev_take (xs : List Run) {r : Nat} (h : r + 1 ≤ xs.length) : xs.reverse.take (xs.length - r) = xs.reverse.take (xs.length - (r + 1)) ++ [xs[r]?.getD default] := by
  have e : xs.length - r = (xs.length - (r + 1)) + 1 := by omega
  rw [e, List.take_add_one, List.getElem?_reverse (by omega)]
  rw [show xs.length - 1 - (xs.length - (r + 1)) = r by omega, List.getElem?_eq_getElem (by omega)]
  rfl
set_option maxRecDepth 100000 in
set_option maxHeartbeats 8000000 in
/-- back -/
theorem c17 (A : Option Addr) (xs : List Run) (cp : Nat) (w : World) (hx : GR.Many Run.cells 14 w A xs) (hl : xs.length ≤ 1000) :
    Calls Try.prog 17 #[.slice A xs.length cp] w fun e w' => ∃ v, e = .returned v ∧ w'.ownsRow w.heap.size 84 14 v xs.length (GR.flat Run.cells xs.reverse) ∧ Below w.heap.size w w' := by
  have HX := Lib.hid hx
  obtain ⟨n, hn⟩ : ∃ n, xs.length = n := ⟨_, rfl⟩
  have HN := Lib.hid hn
  have hn6 : n ≤ 1000 := by omega
  have f0 : IntKind.i64.wrap ((n : Int) - 1) = (n : Int) - 1 := IntWalk.i64_in _ (by omega)
  rw [hn]
  clear hx hl hn
  go_enter Try.func17, Try.ntmps17
  go_wp2_with (fail)
  clear f0
  go_loopw [3, 4] (fun v a wr => ∃ r : Nat, r ≤ n ∧ a = .int .i64 ((r : Int) - 1) ∧ Hid (wr.ownsRow w.heap.size 84 14 v (n - r) (GR.flat Run.cells (xs.reverse.take (n - r)))) ∧ Hid (Below w.heap.size w wr)) (fun _ a _ => (intOf a + 1).toNat)
  case atStart => exact ⟨n, by omega, rfl, Lib.hid (by rw [Nat.sub_self]; exact GR.own_nil _ _ _ _), Lib.hid (Below.refl _ _)⟩
  case round =>
    obtain ⟨r, hr, rfl, HOr, HBr⟩ := hrel
    rcases r with _ | r
    · have ti : decide ((0 : Int) ≤ ((0 : Nat) : Int) - 1) = false := rfl
      rw [Nat.sub_zero] at HOr
      have hrev : xs.reverse.take n = xs.reverse := List.take_of_length_le (by rw [List.length_reverse]; exact Nat.le_of_eq HN.out)
      rw [hrev] at HOr
      clear hrev
      go_wp2_with (fail)
      go_ret
      exact ⟨_, rfl, HOr.out, HBr.out⟩
    · rw [show (((r + 1 : Nat) : Int) - 1) = (r : Int) by omega]
      have ti : decide ((0 : Int) ≤ (r : Int)) = true := decide_eq_true (by omega)
      obtain ⟨x, bb, off, hxk, hA, hat, _⟩ := (HX.out.below HBr.out).get r (by rw [HN.out]; omega)
      subst hA
      have hrt := rev_take xs (r := r) (by rw [HN.out]; exact hr)
      rw [hxk.out, HN.out] at hrt
      have Hrt := Lib.hid hrt
      have f9 : IntKind.i64.wrap ((r : Int) - 1) = (r : Int) - 1 := IntWalk.i64_in _ (by omega)
      have u1 : decide ((r : Int) < (n : Int)) = true := decide_eq_true (by omega)
      have u2 : r < n := by omega
      have hba : Below wr.heap.size wr (wr.alloc (.cells x.arr 84)) := (Below.refl _ _).alloc (Nat.le_refl _) _
      have HO5 := Lib.hid (GR.own_turn HOr.out hba)
      have HB5 := Lib.hid (HBr.out.trans (hba.mono HBr.out.size))
      have HM : Hid (GR.One Run.cells 84 (wr.alloc (.cells x.arr 84)) wr.heap.size x) := Lib.hid (GR.One.new (enc := Run.cells) 84 wr x)
      clear hba hrt hxk
      obtain ⟨x0, x1, x2, x3, x4, x5, x6, x7, x8, x9, x10, x11, x12, x13⟩ := x
      unfold Run.arr at *
      dsimp only at HO5 HB5 HM
      have g0 : wr.cell? ⟨bb, off + r * 14, none⟩ = some (.int .i64 x0) := hat 0 _ rfl
      have g1 : wr.cell? ⟨bb, off + r * 14 + 1, none⟩ = some (.int .i64 x1) := hat 1 _ rfl
      have g2 : wr.cell? ⟨bb, off + r * 14 + 2, none⟩ = some (.int .i64 x2) := hat 2 _ rfl
      have g3 : wr.cell? ⟨bb, off + r * 14 + 3, none⟩ = some (.int .i64 x3) := hat 3 _ rfl
      have g4 : wr.cell? ⟨bb, off + r * 14 + 4, none⟩ = some (.int .u32 x4) := hat 4 _ rfl
      have g5 : wr.cell? ⟨bb, off + r * 14 + 5, none⟩ = some (.int .i64 x5) := hat 5 _ rfl
      have g6 : wr.cell? ⟨bb, off + r * 14 + 6, none⟩ = some (.int .i64 x6) := hat 6 _ rfl
      have g7 : wr.cell? ⟨bb, off + r * 14 + 7, none⟩ = some (.int .u32 x7) := hat 7 _ rfl
      have g8 : wr.cell? ⟨bb, off + r * 14 + 8, none⟩ = some (.int .i64 x8) := hat 8 _ rfl
      have g9 : wr.cell? ⟨bb, off + r * 14 + 9, none⟩ = some (.int .i64 x9) := hat 9 _ rfl
      have g10 : wr.cell? ⟨bb, off + r * 14 + 10, none⟩ = some (.int .u32 x10) := hat 10 _ rfl
      have g11 : wr.cell? ⟨bb, off + r * 14 + 11, none⟩ = some (.int .i64 x11) := hat 11 _ rfl
      have g12 : wr.cell? ⟨bb, off + r * 14 + 12, none⟩ = some (.int .i64 x12) := hat 12 _ rfl
      have g13 : wr.cell? ⟨bb, off + r * 14 + 13, none⟩ = some (.int .u32 x13) := hat 13 _ rfl
      clear hat
      go_wp2_with (at_builtin; go_must (refine GR.wpList_app_one (enc := Run.cells) (k := 14) rfl Run.len Run.one (by decide) (T := 24) (e := 84) (bytes := 112) (by kernel_rfl) info84 rfl w.heap.size _ _ rfl _ (n - (r + 1)) _ rfl HO5.out wr.heap.size 1 _ rfl HM.out (by omega) (by decide) HB5.out.size ?_); intro v' W1 h1 h2 h3; have H1 := Lib.hid h1; have H2 := Lib.hid (HB5.out.trans h2); clear h1 h2 h3)
      go_roundw
      case rel =>
        refine ⟨r, by omega, by go_num, ?_, H2⟩
        rw [Hrt.out, show n - r = n - (r + 1) + 1 by omega]
        exact H1
      case measure => simp [intOf]
end Go.Proofs.Ytmlcjiabnmdfeaa
