/- The walk of the law RectTiles: any rectangle, any rectangles. -/
import Derived.Test.YtnlojbkjhlhogaaYB
namespace Go.Proofs.Ytnlojbkjhlhogaa
open Go Go.RowKit IV
set_option linter.unusedVariables false

set_option maxRecDepth 100000 in
set_option maxHeartbeats 4000000 in
theorem tiles_walk (r : Rect) (A : Option Addr) (xs : List Rect) (c : Nat) (w : World) (hx : Rects w A xs) (hc : xs.length ≤ c) (hl : xs.length ≤ 17592186044416) :
    Calls Try.prog 5 #[.agg r.arr, .slice A xs.length c] w fun e w' => e = .returned (.bool true) ∧ Below w.heap.size w w' := by
  have HB0 := Lib.hid ((Below.refl _ w).alloc (Nat.le_refl _) (.cells r.arr 23))
  have HR0 := Lib.hid (RRow.new w r)
  have HY0 := Lib.hid ((hx.take 60).below HB0.out)
  have hl6 : (xs.take 60).length ≤ 60 := by rw [List.length_take]; omega
  have C1 := Lib.hid (fun W => c17 A xs c W hl hc)
  have C2 := Lib.hid (fun W h => c19 r A (xs.take 60) c W h (by omega))
  have C3 := Lib.hid (fun W h => c20 r A (xs.take 60) c W h (by omega))
  clear hx hc
  generalize tiles r (xs.take 60) = t at *
  generalize erT r (xs.take 60) = er at *
  generalize xs.take 60 = ys at *
  obtain ⟨x, y, u, v⟩ := r
  unfold Rect.arr at *
  dsimp only at *
  go_enter Try.func5, Try.ntmps5
  go_wp2_with (fail)
  generalize (w.alloc (.cells #[.int .i64 x, .int .i64 y, .int .i64 u, .int .i64 v] 23)) = w0 at *
  refine (shown w0).mono ?_
  rintro e w1 ⟨rfl, hb⟩
  have HB1 := Lib.hid (HB0.out.trans (hb.mono HB0.out.size))
  have HY1 := Lib.hid (HY0.out.below hb)
  have HR1 := Lib.hid (HR0.out.turn hb)
  have A0 := Lib.hid HR1.out.cells.1
  have A1 := Lib.hid HR1.out.cells.2.1
  have A2 := Lib.hid HR1.out.cells.2.2.1
  have A3 := Lib.hid HR1.out.cells.2.2.2
  clear hb HB0 HY0 HR0
  go_wp2_with (fail)
  refine wp_region_ord 9 [(0, true), (1, true), (2, true), (3, true), (4, true), (5, true), (6, true), (7, true), (8, true)] (by kernel_rfl) (by kernel_rfl) ?_
  intro Wc hWc
  apply OrdAt.op (fun _ _ _ h => h) rfl rfl rfl
  · intro X hB
    have s0 := rd (hWc.tr hB) A0.out
    have s1 := rd (hWc.tr hB) A1.out
    have s2 := rd (hWc.tr hB) A2.out
    have s3 := rd (hWc.tr hB) A3.out
    go_simp
    try rfl
  · dsimp only [List.set_cons_zero, List.set_cons_succ]
  apply OrdAt.op (fun _ _ _ h => h) rfl rfl rfl
  · intro X hB
    go_simp
    try rfl
  · dsimp only [List.set_cons_zero, List.set_cons_succ]
  apply OrdAt.call (fun _ _ _ h => h) rfl rfl rfl
  · intro X hB
    go_simp
    first | exact ⟨rfl, rfl⟩ | rfl
  · intro X hB
    refine (C1.out _).mono ?_; rintro e W1 ⟨rfl, rfl⟩; exact ⟨rfl, Below.refl _ _⟩
  · dsimp only [List.set_cons_zero, List.set_cons_succ]
  apply OrdAt.call (fun _ _ _ h => h) rfl rfl rfl
  · intro X hB
    go_simp
    first | exact ⟨rfl, rfl⟩ | rfl
  · intro X hB
    refine (C2.out _ (HY1.out.below (hWc.tr hB))).mono ?_; rintro e W1 ⟨rfl, hb⟩; exact ⟨rfl, hb⟩
  · dsimp only [List.set_cons_zero, List.set_cons_succ]
  iterate 5
    apply OrdAt.op (fun _ _ _ h => h) rfl rfl rfl
    · intro X hB
      go_simp
      try rfl
    · dsimp only [List.set_cons_zero, List.set_cons_succ]
  refine OrdAt.done ?_
  intro W5 hW5
  have hW5 := hWc.tr hW5
  have HB2 := Lib.hid (HB1.out.trans (hW5.mono HB1.out.size))
  have HY2 := Lib.hid (HY1.out.below hW5)
  have HR2 := Lib.hid (HR1.out.turn hW5)
  have B0 := Lib.hid HR2.out.cells.1
  have B1 := Lib.hid HR2.out.cells.2.1
  have B2 := Lib.hid HR2.out.cells.2.2.1
  have B3 := Lib.hid HR2.out.cells.2.2.2
  clear hW5 hWc HB1 HY1 HR1 A0 A1 A2 A3
  go_wp2_with (fail)
  refine wp_region_ord 9 [(0, true), (1, true), (2, true), (3, true), (4, true), (5, true), (6, true), (7, true), (8, true)] (by kernel_rfl) (by kernel_rfl) ?_
  intro Wc hWc
  apply OrdAt.op (fun _ _ _ h => h) rfl rfl rfl
  · intro X hB
    have s0 := rd (hWc.tr hB) B0.out
    have s1 := rd (hWc.tr hB) B1.out
    have s2 := rd (hWc.tr hB) B2.out
    have s3 := rd (hWc.tr hB) B3.out
    go_simp
    try rfl
  · dsimp only [List.set_cons_zero, List.set_cons_succ]
  apply OrdAt.op (fun _ _ _ h => h) rfl rfl rfl
  · intro X hB
    go_simp
    try rfl
  · dsimp only [List.set_cons_zero, List.set_cons_succ]
  apply OrdAt.call (fun _ _ _ h => h) rfl rfl rfl
  · intro X hB
    go_simp
    first | exact ⟨rfl, rfl⟩ | rfl
  · intro X hB
    refine (C1.out _).mono ?_; rintro e W1 ⟨rfl, rfl⟩; exact ⟨rfl, Below.refl _ _⟩
  · dsimp only [List.set_cons_zero, List.set_cons_succ]
  apply OrdAt.call (fun _ _ _ h => h) rfl rfl rfl
  · intro X hB
    go_simp
    first | exact ⟨rfl, rfl⟩ | rfl
  · intro X hB
    refine (C3.out _ (HY2.out.below (hWc.tr hB))).mono ?_; rintro e W1 ⟨rfl, hb⟩; exact ⟨rfl, hb⟩
  · dsimp only [List.set_cons_zero, List.set_cons_succ]
  iterate 5
    apply OrdAt.op (fun _ _ _ h => h) rfl rfl rfl
    · intro X hB
      go_simp
      try rfl
    · dsimp only [List.set_cons_zero, List.set_cons_succ]
  refine OrdAt.done ?_
  intro W6 hW6
  have hW6 := hWc.tr hW6
  have HB3 := Lib.hid (HB2.out.trans (hW6.mono HB2.out.size))
  clear hW6 hWc HB2 HY2 HR2 B0 B1 B2 B3
  go_wp2_with (fail)
  go_ret
  exact ⟨rfl, HB3.out⟩
end Go.Proofs.Ytnlojbkjhlhogaa
