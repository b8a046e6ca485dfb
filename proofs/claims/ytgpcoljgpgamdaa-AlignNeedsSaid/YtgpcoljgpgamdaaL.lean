/- The contracts of the closures in align.Downs. -/
import Derived.Test.YtgpcoljgpgamdaaK
namespace Go.Proofs.Ytgpcoljgpgamdaa
open Go.RowKit Go.Shelf
set_option linter.unusedVariables false

/-- how far a cell's content is moved down, of so much more room -/
def downF (L : List Int) (c : Cell) (more : Int) : Int :=
  if c.al = 0 then (if c.hb = true then lineAt L c - c.base else 0) else if c.al = 2 then more / 2 else if c.al = 3 then more else 0
def downOf (L rows : List Int) (gap : Int) (c : Cell) : Int := downF L c (max (sp gap rows c.row.toNat c.rows.toNat - c.high) 0)

set_option maxRecDepth 100000 in
set_option maxHeartbeats 1000000 in
theorem d30 (L : List Int) (c : Cell) (more : Int) (B g : Nat) (w : World) (R : Nat) (hLR : L.length = R) (hok : okCell R c = true) (hL : ∀ i : Nat, 0 ≤ L[i]?.getD 0 ∧ L[i]?.getD 0 ≤ 1125899906842623) (ha : c.al = 0)
    (hb : w.cell? ⟨B, 0, none⟩ = some (.slice (some ⟨g, 0, none⟩) R R)) (hg : RowB w g L) :
    Calls Try.prog 30 #[.agg c.arr, .int .i64 more, .pointer (some ⟨B, 0, none⟩)] w fun e w' => e = .returned (.int .i64 (downF L c more)) ∧ Below w.heap.size w w' := by
  have hbase := inR_iff.1 (okCell_base hok)
  unfold okCell at hok
  rw [Bool.and_eq_true] at hok
  have hw := of_decide_eq_true hok.1
  have hB0 : Below w.heap.size w (w.alloc (.cells c.arr 41)) := (Below.refl _ w).alloc (Nat.le_refl _) _
  have hf : downF L c more = if c.hb = true then lineAt L c - c.base else 0 := by unfold downF; rw [if_pos ha]
  rw [hf]
  have HB0 := Lib.hid hB0
  have hnew := heap_alloc_new w (.cells c.arr 41)
  unfold lineAt
  obtain ⟨node, row, col, rws, cols, mn, mx, high, base, hbb, al⟩ := c
  dsimp only at hw hbase ⊢
  obtain ⟨row, rfl⟩ := Int.eq_ofNat_of_zero_le hw.1
  rw [Int.toNat_natCast]
  have hrow : row < R := by omega
  have hl := hL row
  have zL := rd hB0 (hg.cell row (by omega))
  have zB := rd hB0 hb
  unfold Cell.arr at *
  dsimp only at hnew zL zB ⊢
  have z1 : (w.alloc (.cells #[.int .i64 node, .int .i64 row, .int .i64 col, .int .i64 rws, .int .i64 cols, .int .i64 mn, .int .i64 mx, .int .i64 high, .int .i64 base, .bool hbb, .int .i64 al] 41)).cell? ⟨w.heap.size, 1, none⟩ = some (.int .i64 row) := by unfold World.cell?; rw [hnew]; rfl
  have z8 : (w.alloc (.cells #[.int .i64 node, .int .i64 row, .int .i64 col, .int .i64 rws, .int .i64 cols, .int .i64 mn, .int .i64 mx, .int .i64 high, .int .i64 base, .bool hbb, .int .i64 al] 41)).cell? ⟨w.heap.size, 8, none⟩ = some (.int .i64 base) := by unfold World.cell?; rw [hnew]; rfl
  generalize L[row]?.getD 0 = vl at *
  have WN := Lib.hid (IntWalk.i64_in (vl - base) (by omega))
  have ZL := Lib.hid zL
  have ZB := Lib.hid zB
  have Z1 := Lib.hid z1
  have Z8 := Lib.hid z8
  clear zL zB z1 z8 hB0 hnew hb hg hLR hL hok hf hw
  clear ha
  cases hbb with
  | true =>
    go_enter Try.func30, Try.ntmps30
    go_wp2_with (fail)
    refine wp_region_ord 11 [(0, true), (1, true), (2, true), (3, true), (4, true), (5, true), (6, true), (7, true), (8, true), (9, true), (10, true)] (by kernel_rfl) (by kernel_rfl) ?_
    generalize hW1 : w.alloc (.cells #[.int .i64 node, .int .i64 row, .int .i64 col, .int .i64 rws, .int .i64 cols, .int .i64 mn, .int .i64 mx, .int .i64 high, .int .i64 base, .bool true, .int .i64 al] 41) = W1 at *
    clear hW1
    intro Wc hWc
    apply OrdAt.op (fun _ _ _ h => h) rfl rfl rfl
    · intro X hB
      have s := rd (hWc.tr hB) ZB.out
      go_simp
      try rfl
    · dsimp only [List.set_cons_zero, List.set_cons_succ]
    iterate 2
      apply OrdAt.op (fun _ _ _ h => h) rfl rfl rfl
      · intro X hB
        go_simp
        try rfl
      · dsimp only [List.set_cons_zero, List.set_cons_succ]
    apply OrdAt.op (fun _ _ _ h => h) rfl rfl rfl
    · intro X hB
      have s := rd (hWc.tr hB) Z1.out
      go_simp
      try rfl
    · dsimp only [List.set_cons_zero, List.set_cons_succ]
    apply OrdAt.op (fun _ _ _ h => h) rfl rfl rfl
    · intro X hB
      go_simp
      try rfl
    · dsimp only [List.set_cons_zero, List.set_cons_succ]
    apply OrdAt.op (fun _ _ _ h => h) rfl rfl rfl
    · intro X hB
      have s := rd (hWc.tr hB) ZL.out
      go_simp
      try rfl
    · dsimp only [List.set_cons_zero, List.set_cons_succ]
    iterate 2
      apply OrdAt.op (fun _ _ _ h => h) rfl rfl rfl
      · intro X hB
        go_simp
        try rfl
      · dsimp only [List.set_cons_zero, List.set_cons_succ]
    apply OrdAt.op (fun _ _ _ h => h) rfl rfl rfl
    · intro X hB
      have s := rd (hWc.tr hB) Z8.out
      go_simp
      try rfl
    · dsimp only [List.set_cons_zero, List.set_cons_succ]
    apply OrdAt.op (fun _ _ _ h => h) rfl rfl rfl
    · intro X hB
      have s := WN.out
      go_simp
      try rfl
    · dsimp only [List.set_cons_zero, List.set_cons_succ]
    apply OrdAt.op (fun _ _ _ h => h) rfl rfl rfl
    · intro X hB
      go_simp
      try rfl
    · dsimp only [List.set_cons_zero, List.set_cons_succ]
    refine OrdAt.done ?_
    intro W2 hW2
    have HB2 := Lib.hid ((HB0.out.trans (hWc.mono HB0.out.size)).trans (hW2.mono (by have := HB0.out.size; have := hWc.size; omega)))
    clear hWc hW2
    go_wp2_with (fail)
    go_ret
    exact ⟨by simp, HB2.out⟩
  | false =>
    go_enter Try.func30, Try.ntmps30
    go_wp2_with (fail)
    go_ret
    exact ⟨by simp, HB0.out⟩

theorem d31 (L : List Int) (c : Cell) (more : Int) (w : World) (ha : c.al = 1) : Calls Try.prog 31 #[.agg c.arr, .int .i64 more] w fun e w' => e = .returned (.int .i64 (downF L c more)) ∧ Below w.heap.size w w' := by
  have hB0 : Below w.heap.size w (w.alloc (.cells c.arr 41)) := (Below.refl _ w).alloc (Nat.le_refl _) _
  have hf : downF L c more = 0 := by unfold downF; rw [if_neg (by omega), if_neg (by omega), if_neg (by omega)]
  rw [hf]
  have HB0 := Lib.hid hB0
  clear hB0 hf ha
  unfold Cell.arr at *
  go_enter Try.func31, Try.ntmps31
  go_wp2
  go_ret
  exact ⟨rfl, HB0.out⟩
theorem d32 (L : List Int) (c : Cell) (more : Int) (w : World) (ha : c.al = 2) (hm : 0 ≤ more) (hm2 : more ≤ 1152921504606846976) : Calls Try.prog 32 #[.agg c.arr, .int .i64 more] w fun e w' => e = .returned (.int .i64 (downF L c more)) ∧ Below w.heap.size w w' := by
  have hB0 : Below w.heap.size w (w.alloc (.cells c.arr 41)) := (Below.refl _ w).alloc (Nat.le_refl _) _
  have hf : downF L c more = more / 2 := by unfold downF; rw [if_neg (by omega), if_pos ha]
  rw [hf]
  have HB0 := Lib.hid hB0
  clear hB0 hf ha
  unfold Cell.arr at *
  go_enter Try.func32, Try.ntmps32
  go_wp2
  go_ret
  exact ⟨rfl, HB0.out⟩
theorem d33 (L : List Int) (c : Cell) (more : Int) (w : World) (ha : c.al = 3) : Calls Try.prog 33 #[.agg c.arr, .int .i64 more] w fun e w' => e = .returned (.int .i64 (downF L c more)) ∧ Below w.heap.size w w' := by
  have hB0 : Below w.heap.size w (w.alloc (.cells c.arr 41)) := (Below.refl _ w).alloc (Nat.le_refl _) _
  have hf : downF L c more = more := by unfold downF; rw [if_neg (by omega), if_neg (by omega), if_pos ha]
  rw [hf]
  have HB0 := Lib.hid hB0
  clear hB0 hf ha
  unfold Cell.arr at *
  go_enter Try.func33, Try.ntmps33
  go_wp2
  go_ret
  exact ⟨rfl, HB0.out⟩

end Go.Proofs.Ytgpcoljgpgamdaa
