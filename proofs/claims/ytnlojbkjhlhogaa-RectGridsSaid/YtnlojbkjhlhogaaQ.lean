/- The walk of the law RectMeets: any two rectangles. -/
import Derived.Test.YtnlojbkjhlhogaaP
namespace Go.Proofs.Ytnlojbkjhlhogaa
open Go Go.RowKit IV
set_option linter.unusedVariables false

theorem two_new (w : World) (a b : Rect) : RRow ((w.alloc (.cells a.arr 23)).alloc (.cells b.arr 23)) w.heap.size a ∧ RRow ((w.alloc (.cells a.arr 23)).alloc (.cells b.arr 23)) (w.heap.size + 1) b ∧ Below w.heap.size w ((w.alloc (.cells a.arr 23)).alloc (.cells b.arr 23)) := by
  have hb : Below (w.alloc (.cells a.arr 23)).heap.size (w.alloc (.cells a.arr 23)) ((w.alloc (.cells a.arr 23)).alloc (.cells b.arr 23)) := (Below.refl _ _).alloc (Nat.le_refl _) _
  have h2 := RRow.new (w.alloc (.cells a.arr 23)) b
  rw [World.size_alloc] at h2
  exact ⟨(RRow.new w a).turn hb, h2, ((Below.refl _ w).alloc (Nat.le_refl _) _).alloc (by simp) _⟩

set_option maxRecDepth 100000 in
set_option maxHeartbeats 4000000 in
theorem meets_walk (a b : Rect) (w : World) : Calls Try.prog 3 #[.agg a.arr, .agg b.arr] w fun e w' => e = .returned (.bool true) ∧ Below w.heap.size w w' := by
  obtain ⟨q0, q1, hB⟩ := two_new w a b
  have Q0 := Lib.hid q0
  have Q1 := Lib.hid q1
  have HB := Lib.hid hB
  have C12 := Lib.hid (fun W => c12 a b W)
  have C13 := Lib.hid (fun W => c13 a b W)
  have C14 := Lib.hid (fun W => c14 a W)
  have C15 := Lib.hid (fun W => c15 a W)
  clear q0 q1 hB
  generalize meet a b = m at *
  generalize erM a b = er at *
  generalize right a = rr at *
  obtain ⟨x, y, u, v⟩ := a
  obtain ⟨x', y', u', v'⟩ := b
  obtain ⟨i, j, k, l⟩ := m
  unfold Rect.arr at *
  dsimp only at *
  go_enter Try.func3, Try.ntmps3
  go_wp2_with (fail)
  generalize ((w.alloc (.cells #[.int .i64 x, .int .i64 y, .int .i64 u, .int .i64 v] 23)).alloc (.cells #[.int .i64 x', .int .i64 y', .int .i64 u', .int .i64 v'] 23)) = w0 at *
  refine (shown w0).mono ?_
  rintro e w1 ⟨rfl, hb⟩
  have R0 := Lib.hid (Q0.out.turn hb)
  have R1 := Lib.hid (Q1.out.turn hb)
  have HB1 := Lib.hid (HB.out.trans (hb.mono HB.out.size))
  clear hb Q0 Q1 HB
  have p0 : w1.cell? ⟨w.heap.size, 0, none⟩ = some (.int .i64 x) := R0.out.cells.1
  have p1 : w1.cell? ⟨w.heap.size, 1, none⟩ = some (.int .i64 y) := R0.out.cells.2.1
  have p2 : w1.cell? ⟨w.heap.size, 2, none⟩ = some (.int .i64 u) := R0.out.cells.2.2.1
  have p3 : w1.cell? ⟨w.heap.size, 3, none⟩ = some (.int .i64 v) := R0.out.cells.2.2.2
  have q0 : w1.cell? ⟨w.heap.size + 1, 0, none⟩ = some (.int .i64 x') := R1.out.cells.1
  have q1 : w1.cell? ⟨w.heap.size + 1, 1, none⟩ = some (.int .i64 y') := R1.out.cells.2.1
  have q2 : w1.cell? ⟨w.heap.size + 1, 2, none⟩ = some (.int .i64 u') := R1.out.cells.2.2.1
  have q3 : w1.cell? ⟨w.heap.size + 1, 3, none⟩ = some (.int .i64 v') := R1.out.cells.2.2.2
  go_wp2_with (fail)
  refine (C12.out _).mono ?_
  rintro e w2 ⟨rfl, hb2⟩
  have hb3 : Below w2.heap.size w2 (w2.alloc (.cells (Rect.arr ⟨i, j, k, l⟩) 23)) := (Below.refl _ w2).alloc (Nat.le_refl _) _
  have hbb := hb2.trans (hb3.mono hb2.size)
  have S0 := Lib.hid (R0.out.turn hbb)
  have S1 := Lib.hid (R1.out.turn hbb)
  have S2 := Lib.hid (RRow.new w2 ⟨i, j, k, l⟩)
  have HB2 := Lib.hid (HB1.out.trans (hbb.mono HB1.out.size))
  unfold Rect.arr at S0 S1 S2 HB2
  dsimp only at S0 S1 S2 HB2
  clear hb2 hb3 hbb R0 R1 HB1 C12 p0 p1 p2 p3 q0 q1 q2 q3
  have p0 : (w2.alloc (.cells #[.int .i64 i, .int .i64 j, .int .i64 k, .int .i64 l] 23)).cell? ⟨w.heap.size, 0, none⟩ = some (.int .i64 x) := S0.out.cells.1
  have p1 : (w2.alloc (.cells #[.int .i64 i, .int .i64 j, .int .i64 k, .int .i64 l] 23)).cell? ⟨w.heap.size, 1, none⟩ = some (.int .i64 y) := S0.out.cells.2.1
  have p2 : (w2.alloc (.cells #[.int .i64 i, .int .i64 j, .int .i64 k, .int .i64 l] 23)).cell? ⟨w.heap.size, 2, none⟩ = some (.int .i64 u) := S0.out.cells.2.2.1
  have p3 : (w2.alloc (.cells #[.int .i64 i, .int .i64 j, .int .i64 k, .int .i64 l] 23)).cell? ⟨w.heap.size, 3, none⟩ = some (.int .i64 v) := S0.out.cells.2.2.2
  have q0 : (w2.alloc (.cells #[.int .i64 i, .int .i64 j, .int .i64 k, .int .i64 l] 23)).cell? ⟨w.heap.size + 1, 0, none⟩ = some (.int .i64 x') := S1.out.cells.1
  have q1 : (w2.alloc (.cells #[.int .i64 i, .int .i64 j, .int .i64 k, .int .i64 l] 23)).cell? ⟨w.heap.size + 1, 1, none⟩ = some (.int .i64 y') := S1.out.cells.2.1
  have q2 : (w2.alloc (.cells #[.int .i64 i, .int .i64 j, .int .i64 k, .int .i64 l] 23)).cell? ⟨w.heap.size + 1, 2, none⟩ = some (.int .i64 u') := S1.out.cells.2.2.1
  have q3 : (w2.alloc (.cells #[.int .i64 i, .int .i64 j, .int .i64 k, .int .i64 l] 23)).cell? ⟨w.heap.size + 1, 3, none⟩ = some (.int .i64 v') := S1.out.cells.2.2.2
  go_wp2_with (fail)
  refine (C13.out _).mono ?_
  rintro e w4 ⟨rfl, hb4⟩
  have hb5 : Below w4.heap.size w4 (w4.alloc (.cells (Rect.arr ⟨i, j, k, l⟩) 23)) := (Below.refl _ w4).alloc (Nat.le_refl _) _
  have hbb := hb4.trans (hb5.mono hb4.size)
  have T0 := Lib.hid (S0.out.turn hbb)
  have T2 := Lib.hid (S2.out.turn hbb)
  have T3 := Lib.hid (RRow.new w4 ⟨i, j, k, l⟩)
  have HB4 := Lib.hid (HB2.out.trans (hbb.mono HB2.out.size))
  unfold Rect.arr at T0 T2 T3 HB4
  dsimp only at T0 T2 T3 HB4
  clear hb4 hb5 hbb S0 S1 S2 HB2 C13 p0 p1 p2 p3 q0 q1 q2 q3
  go_wp2_with (fail)
  generalize w4.alloc (.cells #[.int .i64 i, .int .i64 j, .int .i64 k, .int .i64 l] 23) = w5 at *
  generalize w4.heap.size = b8 at *
  generalize w2.heap.size = b6 at *
  have A0 : Hid (w5.cell? ⟨w.heap.size, 0, none⟩ = some (.int .i64 x)) := Lib.hid T0.out.cells.1
  have A1 : Hid (w5.cell? ⟨w.heap.size, 1, none⟩ = some (.int .i64 y)) := Lib.hid T0.out.cells.2.1
  have A2 : Hid (w5.cell? ⟨w.heap.size, 2, none⟩ = some (.int .i64 u)) := Lib.hid T0.out.cells.2.2.1
  have A3 : Hid (w5.cell? ⟨w.heap.size, 3, none⟩ = some (.int .i64 v)) := Lib.hid T0.out.cells.2.2.2
  have M0 : Hid (w5.cell? ⟨b6, 0, none⟩ = some (.int .i64 i)) := Lib.hid T2.out.cells.1
  have M1 : Hid (w5.cell? ⟨b6, 1, none⟩ = some (.int .i64 j)) := Lib.hid T2.out.cells.2.1
  have M2 : Hid (w5.cell? ⟨b6, 2, none⟩ = some (.int .i64 k)) := Lib.hid T2.out.cells.2.2.1
  have M3 : Hid (w5.cell? ⟨b6, 3, none⟩ = some (.int .i64 l)) := Lib.hid T2.out.cells.2.2.2
  have N0 : Hid (w5.cell? ⟨b8, 0, none⟩ = some (.int .i64 i)) := Lib.hid T3.out.cells.1
  have N1 : Hid (w5.cell? ⟨b8, 1, none⟩ = some (.int .i64 j)) := Lib.hid T3.out.cells.2.1
  have N2 : Hid (w5.cell? ⟨b8, 2, none⟩ = some (.int .i64 k)) := Lib.hid T3.out.cells.2.2.1
  have N3 : Hid (w5.cell? ⟨b8, 3, none⟩ = some (.int .i64 l)) := Lib.hid T3.out.cells.2.2.2
  refine wp_region_ord 19 [(0, true), (1, true), (2, true), (3, true), (4, true), (5, true), (6, true), (7, true), (8, true), (9, true), (10, true), (11, true), (12, true), (13, true), (14, true), (15, true), (16, true), (17, true), (18, true)] (by kernel_rfl) (by kernel_rfl) ?_
  intro Wc hWc
  iterate 2
    apply OrdAt.op (fun _ _ _ h => h) rfl rfl rfl
    · intro X hB
      go_simp
      try rfl
    · dsimp only [List.set_cons_zero, List.set_cons_succ]
  apply OrdAt.op_if (fun _ _ _ h => h) rfl rfl rfl
  · intro X hB
    have s0 := rd (hWc.tr hB) A0.out
    have s1 := rd (hWc.tr hB) A1.out
    have s2 := rd (hWc.tr hB) A2.out
    have s3 := rd (hWc.tr hB) A3.out
    go_simp
    try rfl
  · dsimp only [List.set_cons_zero, List.set_cons_succ]
  apply OrdAt.call (fun _ _ _ h => h) rfl rfl rfl
  · intro X hB
    go_simp
    first | exact ⟨rfl, rfl⟩ | rfl
  · intro X hB
    refine (C14.out _).mono ?_; rintro e W1 ⟨rfl, hb⟩; exact ⟨rfl, hb⟩
  · dsimp only [List.set_cons_zero, List.set_cons_succ]
  apply OrdAt.op_if (fun _ _ _ h => h) rfl rfl rfl
  · intro X hB
    have s0 := rd (hWc.tr hB) A0.out
    have s1 := rd (hWc.tr hB) A1.out
    have s2 := rd (hWc.tr hB) A2.out
    have s3 := rd (hWc.tr hB) A3.out
    go_simp
    try rfl
  · dsimp only [List.set_cons_zero, List.set_cons_succ]
  apply OrdAt.call (fun _ _ _ h => h) rfl rfl rfl
  · intro X hB
    go_simp
    first | exact ⟨rfl, rfl⟩ | rfl
  · intro X hB
    refine (C15.out _).mono ?_; rintro e W1 ⟨rfl, hb⟩; exact ⟨rfl, hb⟩
  · dsimp only [List.set_cons_zero, List.set_cons_succ]
  apply OrdAt.op_if (fun _ _ _ h => h) rfl rfl rfl
  · intro X hB
    go_simp
    try rfl
  · dsimp only [List.set_cons_zero, List.set_cons_succ]
  iterate 2
    apply OrdAt.op (fun _ _ _ h => h) rfl rfl rfl
    · intro X hB
      go_simp
      try rfl
    · dsimp only [List.set_cons_zero, List.set_cons_succ]
  apply OrdAt.op_if (fun _ _ _ h => h) rfl rfl rfl
  · intro X hB
    have s0 := rd (hWc.tr hB) M0.out
    have s1 := rd (hWc.tr hB) M1.out
    have s2 := rd (hWc.tr hB) M2.out
    have s3 := rd (hWc.tr hB) M3.out
    go_simp
    try rfl
  · dsimp only [List.set_cons_zero, List.set_cons_succ]
  apply OrdAt.op_if (fun _ _ _ h => h) rfl rfl rfl
  · intro X hB
    have s0 := rd (hWc.tr hB) N0.out
    have s1 := rd (hWc.tr hB) N1.out
    have s2 := rd (hWc.tr hB) N2.out
    have s3 := rd (hWc.tr hB) N3.out
    go_simp
    try rfl
  · dsimp only [List.set_cons_zero, List.set_cons_succ]
  apply OrdAt.op_if (fun _ _ _ h => h) rfl rfl rfl
  · intro X hB
    go_simp
    try rfl
  · dsimp only [List.set_cons_zero, List.set_cons_succ]
  iterate 2
    apply OrdAt.op (fun _ _ _ h => h) rfl rfl rfl
    · intro X hB
      go_simp
      try rfl
    · dsimp only [List.set_cons_zero, List.set_cons_succ]
  iterate 3
    apply OrdAt.op_if (fun _ _ _ h => h) rfl rfl rfl
    · intro X hB
      go_simp
      try rfl
    · dsimp only [List.set_cons_zero, List.set_cons_succ]
  iterate 2
    apply OrdAt.op (fun _ _ _ h => h) rfl rfl rfl
    · intro X hB
      go_simp
      try rfl
    · dsimp only [List.set_cons_zero, List.set_cons_succ]
  refine OrdAt.done ?_
  intro Wd hWd0
  have hWd := hWc.tr hWd0
  have HBd := Lib.hid (HB4.out.trans (hWd.mono HB4.out.size))
  clear hWd hWd0
  go_wp2_with (fail)
  go_ret
  exact ⟨rfl, HBd.out⟩

end Go.Proofs.Ytnlojbkjhlhogaa
