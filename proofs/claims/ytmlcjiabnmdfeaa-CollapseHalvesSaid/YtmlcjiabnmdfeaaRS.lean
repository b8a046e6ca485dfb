/- The reference's SameFours, of equal lists. -/
import Derived.Test.YtmlcjiabnmdfeaaZA
import Derived.Test.YtmlcjiabnmdfeaaOX
namespace Go.Proofs.Ytmlcjiabnmdfeaa
open Go Go.RowKit Go.Shelf CT
set_option linter.unusedVariables false

set_option maxRecDepth 100000 in
set_option maxHeartbeats 8000000 in
/-- the reference's SameFours, of equal lists -/
theorem c21s (A1 A2 : Option Addr) (xs : List I4) (cp1 cp2 : Nat) (w : World) (h1 : GR.Many I4.cells 4 w A1 xs) (h2 : GR.Many I4.cells 4 w A2 xs) (hl : xs.length ≤ 1000000) :
    Calls Try.prog 21 #[.slice A1 xs.length cp1, .slice A2 xs.length cp2] w fun e w' => e = .returned (.bool true) ∧ Below w.heap.size w w' := by
  have H1 := Lib.hid h1
  have H2 := Lib.hid h2
  obtain ⟨n, hn⟩ : ∃ n, xs.length = n := ⟨_, rfl⟩
  have HN := Lib.hid hn
  have hn6 : n ≤ 1000000 := by omega
  rw [hn]
  have tn : ((n : Int) != (n : Int)) = false := by simp
  clear h1 h2 hl hn
  go_enter Try.func21, Try.ntmps21
  go_wp2_with (fail)
  clear tn
  go_loopw [5] (fun a wr => ∃ i : Nat, i ≤ n ∧ a = .int .i64 i ∧ Hid (Below w.heap.size w wr)) (fun a _ => n - (intOf a).toNat)
  case atStart => exact ⟨0, by omega, rfl, Lib.hid (Below.refl _ _)⟩
  case round =>
    obtain ⟨i, hi, rfl, HBi⟩ := hrel
    by_cases hlt : i < n
    · have ti : decide ((i : Int) < (n : Int)) = true := decide_eq_true (by omega)
      obtain ⟨x, b1, o1, hx1, e1', hat1, _⟩ := (H1.out.below HBi.out).get i (by rw [HN.out]; exact hlt)
      obtain ⟨y, b2, o2, hx2, e2', hat2, _⟩ := (H2.out.below HBi.out).get i (by rw [HN.out]; exact hlt)
      have hxy : y = x := hx2.out.symm.trans hx1.out
      subst hxy
      subst e1'
      subst e2'
      have f9 : IntKind.i64.wrap ((i : Int) + 1) = (i : Int) + 1 := IntWalk.i64_in _ (by omega)
      clear hx1 hx2
      obtain ⟨e0, e1, e2, e3⟩ := y
      have A0 : Hid (wr.cell? ⟨b1, o1 + i * 4, none⟩ = some (Value.int .i64 e0)) := Lib.hid (hat1 0 _ rfl)
      have A1 : Hid (wr.cell? ⟨b1, o1 + i * 4 + 1, none⟩ = some (Value.int .i64 e1)) := Lib.hid (hat1 1 _ rfl)
      have A2 : Hid (wr.cell? ⟨b1, o1 + i * 4 + 2, none⟩ = some (Value.int .i64 e2)) := Lib.hid (hat1 2 _ rfl)
      have A3 : Hid (wr.cell? ⟨b1, o1 + i * 4 + 3, none⟩ = some (Value.int .i64 e3)) := Lib.hid (hat1 3 _ rfl)
      have B0 : Hid (wr.cell? ⟨b2, o2 + i * 4, none⟩ = some (Value.int .i64 e0)) := Lib.hid (hat2 0 _ rfl)
      have B1 : Hid (wr.cell? ⟨b2, o2 + i * 4 + 1, none⟩ = some (Value.int .i64 e1)) := Lib.hid (hat2 1 _ rfl)
      have B2 : Hid (wr.cell? ⟨b2, o2 + i * 4 + 2, none⟩ = some (Value.int .i64 e2)) := Lib.hid (hat2 2 _ rfl)
      have B3 : Hid (wr.cell? ⟨b2, o2 + i * 4 + 3, none⟩ = some (Value.int .i64 e3)) := Lib.hid (hat2 3 _ rfl)
      clear hat1 hat2
      obtain ⟨I, hI0⟩ : ∃ I : OrdX.Off, I.row = none := ⟨⟨_⟩, rfl⟩
      have HIn : Hid (∀ b : Nat, some b ≠ OrdX.Off.row) := Lib.hid fun b e => by rw [hI0] at e; cases e
      clear hI0
      go_wp2_with (fail)
      refine OrdX.wp_region_ordN 9 [(0, true), (1, true), (2, true), (3, true), (4, true), (5, true), (6, true), (7, true), (8, true)] (by kernel_rfl) (by kernel_rfl) ?_
      intro Wc hWc
      iterate 3
        apply OrdX.OrdAt.op OrdX.on_put rfl rfl rfl
        · intro X hB
          go_simp
          try rfl
        · dsimp only [List.set_cons_zero, List.set_cons_succ]
      apply OrdX.OrdAt.op OrdX.on_put rfl rfl rfl
      · intro X hB
        have s0 := OrdX.rd (hWc.g.tr hB) (HIn.out _) (A0.out)
        have s1 := OrdX.rd (hWc.g.tr hB) (HIn.out _) (A1.out)
        have s2 := OrdX.rd (hWc.g.tr hB) (HIn.out _) (A2.out)
        have s3 := OrdX.rd (hWc.g.tr hB) (HIn.out _) (A3.out)
        go_simp
        try rfl
      · dsimp only [List.set_cons_zero, List.set_cons_succ]
      iterate 3
        apply OrdX.OrdAt.op OrdX.on_put rfl rfl rfl
        · intro X hB
          go_simp
          try rfl
        · dsimp only [List.set_cons_zero, List.set_cons_succ]
      apply OrdX.OrdAt.op OrdX.on_put rfl rfl rfl
      · intro X hB
        have s0 := OrdX.rd (hWc.g.tr hB) (HIn.out _) (B0.out)
        have s1 := OrdX.rd (hWc.g.tr hB) (HIn.out _) (B1.out)
        have s2 := OrdX.rd (hWc.g.tr hB) (HIn.out _) (B2.out)
        have s3 := OrdX.rd (hWc.g.tr hB) (HIn.out _) (B3.out)
        go_simp
        try rfl
      · dsimp only [List.set_cons_zero, List.set_cons_succ]
      apply OrdX.OrdAt.op OrdX.on_put rfl rfl rfl
      · intro X hB
        have sq := eq52 e0 e1 e2 e3 e0 e1 e2 e3 X
        go_simp
        try rfl
      · dsimp only [List.set_cons_zero, List.set_cons_succ]
      refine OrdX.OrdAt.done ?_
      intro W9 hW9
      refine OrdX.on_normal ?_
      have hx := hWc.trans (hW9.mono hWc.size)
      have HB9 := Lib.hid (HBi.out.trans (hx.mono HBi.out.size))
      clear hx hW9 hWc
      go_wp2_with (fail)
      go_roundw
      case rel => exact ⟨i + 1, by omega, by go_num, HB9⟩
      case measure => simp [intOf]; omega
    · obtain rfl : i = n := by omega
      have ti : decide ((i : Int) < (i : Int)) = false := decide_eq_false (by omega)
      go_wp2_with (fail)
      go_ret
      exact ⟨rfl, HBi.out⟩
end Go.Proofs.Ytmlcjiabnmdfeaa
