/- Contract of a frame's standing direction. -/
import Derived.Test.YtmlcjiabnmdfeaaK
namespace Go.Proofs.Ytmlcjiabnmdfeaa
open Go Go.RowKit Go.Shelf CT
set_option linter.unusedVariables false
attribute [local go_sem] run_store_func

theorem res47 {tmps : Array Value} {W : World} {H : Nat} {a b c d e f : Value} (h2 : tmps[2]?.getD undef = .pointer (some ⟨H, 0, none⟩)) (h : W.heap[H]? = some (.cells #[a, b, c, d, e, f] 104 (0, 0))) :
    (results Try.f47 tmps).run Try.prog W = .ok (.agg #[a, b, c, d, e, f]) W := by
  have c0 : W.cell? ⟨H, 0, none⟩ = some a := cell_of h rfl
  have c1 : W.cell? ⟨H, 1, none⟩ = some b := cell_of h rfl
  have c2 : W.cell? ⟨H, 2, none⟩ = some c := cell_of h rfl
  have c3 : W.cell? ⟨H, 3, none⟩ = some d := cell_of h rfl
  have c4 : W.cell? ⟨H, 4, none⟩ = some e := cell_of h rfl
  have c5 : W.cell? ⟨H, 5, none⟩ = some f := cell_of h rfl
  simp [results, Try.results47, go_sem, h2, c0, c1, c2, c3, c4, c5]

set_option maxRecDepth 100000 in
set_option maxHeartbeats 4000000 in
/-- standing -/
theorem c47 (f : Fr) (B g base : Nat) (vs : Nat → Value) (W : World) (h : FrM f W B g base vs) :
    Calls Try.prog 47 #[.pointer (some ⟨B, 0, none⟩)] W fun e W' => ∃ k1 k2 Bs, W.heap.size ≤ k1 ∧ W.heap.size ≤ k2 ∧ W.heap.size ≤ Bs ∧
      e = .returned (.agg #[.slice (some ⟨k2, 0, none⟩) 2 2, .slice (some ⟨k1, 0, none⟩) 2 2, .int .i64 f.C, .int .i64 1, .int .i64 3, .func (.func 65) #[] #[.pointer (some ⟨Bs, 0, none⟩)]]) ∧ Kinds f W' k1 k2 ∧
      W'.heap[Bs]? = some (.cells #[.func (.func 64) #[] #[]] 102 (0, 0)) ∧ Below W.heap.size W W' := by
  obtain ⟨I, hI0⟩ : ∃ I : OrdX.Off, I.row = none := ⟨⟨_⟩, rfl⟩
  have HIn : Hid (∀ b : Nat, some b ≠ OrdX.Off.row) := Lib.hid fun b e => by rw [hI0] at e; cases e
  clear hI0
  have hb0 : Below W.heap.size W (W.alloc (.cells #[.slice none 0 0, .slice none 0 0, .int .i64 0, .int .i64 0, .int .i64 0, .nilFunc] 104)) := (Below.refl _ _).alloc (Nat.le_refl _) _
  have HF1 := Lib.hid (h.turn hb0)
  have HB1 := Lib.hid hb0
  have HZ1 := Lib.hid (heap_alloc_new W (.cells #[.slice none 0 0, .slice none 0 0, .int .i64 0, .int .i64 0, .int .i64 0, .nilFunc] 104))
  clear h hb0
  go_enter Try.func47, Try.ntmps47
  go_wp2_with (fail)
  generalize W.alloc (Obj.cells #[.slice none 0 0, .slice none 0 0, .int .i64 0, .int .i64 0, .int .i64 0, .nilFunc] 104) = w1 at *
  refine (c46 f B g base vs w1 HF1.out).mono ?_
  rintro e w2 ⟨k1, k2, hk1, hk2, rfl, hK, hb⟩
  have hbd : Below w2.heap.size w2 ((w2.alloc (.cells #[.slice (some ⟨k1, 0, none⟩) 2 2, .slice (some ⟨k2, 0, none⟩) 2 2, .int .i64 f.R, .int .i64 2, .int .i64 0, .func (.func 64) #[] #[]] 104)).alloc (.cells #[.func (.func 64) #[] #[]] 102)) := ((Below.refl _ w2).alloc (Nat.le_refl _) _).alloc (by simp) _
  have hb2 := hb.trans (hbd.mono hb.size)
  have HF4 := Lib.hid (HF1.out.turn hb2)
  have HB4 := Lib.hid (HB1.out.trans (hb2.mono HB1.out.size))
  have HZ4 := Lib.hid ((hb2.block _ (Array.getElem?_eq_some_iff.1 HZ1.out).1).trans HZ1.out)
  have HK4 := Lib.hid (hK.turn hbd)
  have HD : Hid (((w2.alloc (.cells #[.slice (some ⟨k1, 0, none⟩) 2 2, .slice (some ⟨k2, 0, none⟩) 2 2, .int .i64 f.R, .int .i64 2, .int .i64 0, .func (.func 64) #[] #[]] 104)).alloc (.cells #[.func (.func 64) #[] #[]] 102)).heap[w2.heap.size]? = some (.cells #[.slice (some ⟨k1, 0, none⟩) 2 2, .slice (some ⟨k2, 0, none⟩) 2 2, .int .i64 f.R, .int .i64 2, .int .i64 0, .func (.func 64) #[] #[]] 104 (0, 0))) := Lib.hid ((Below.heap_alloc _ _ _ (by simp)).trans (heap_alloc_new _ _))
  have HX4 : Hid (((w2.alloc (.cells #[.slice (some ⟨k1, 0, none⟩) 2 2, .slice (some ⟨k2, 0, none⟩) 2 2, .int .i64 f.R, .int .i64 2, .int .i64 0, .func (.func 64) #[] #[]] 104)).alloc (.cells #[.func (.func 64) #[] #[]] 102)).heap[w2.heap.size + 1]? = some (.cells #[.func (.func 64) #[] #[]] 102 (0, 0))) := Lib.hid (by have h := heap_alloc_new (w2.alloc (.cells #[.slice (some ⟨k1, 0, none⟩) 2 2, .slice (some ⟨k2, 0, none⟩) 2 2, .int .i64 f.R, .int .i64 2, .int .i64 0, .func (.func 64) #[] #[]] 104)) (.cells #[.func (.func 64) #[] #[]] 102); rw [World.size_alloc] at h; exact h)
  have Hk : Hid (W.heap.size ≤ k1 ∧ W.heap.size ≤ k2 ∧ W.heap.size ≤ w2.heap.size + 1) := Lib.hid ⟨Nat.le_trans HB1.out.size hk1, Nat.le_trans HB1.out.size hk2, by have := HB1.out.size; have := hb.size; omega⟩
  clear hk1 hk2 hK hb hbd hb2 HF1 HB1 HZ1
  go_wp2_with (fail)
  generalize (w2.alloc (Obj.cells #[.slice (some ⟨k1, 0, none⟩) 2 2, .slice (some ⟨k2, 0, none⟩) 2 2, .int .i64 f.R, .int .i64 2, .int .i64 0, .func (.func 64) #[] #[]] 104)).alloc (Obj.cells #[.func (.func 64) #[] #[]] 102) = w4 at *
  generalize w2.heap.size = M at *
  refine OrdX.wp_region_ordN 11 [(0, true), (1, true), (2, true), (3, true), (4, true), (5, true), (6, true), (7, true), (8, true), (9, true), (10, true), (11, false)] (by kernel_rfl) (by kernel_rfl) ?_
  intro Wc hWc
  apply OrdX.OrdAt.op OrdX.on_put rfl rfl rfl
  · intro X hB
    go_simp
    try rfl
  · dsimp only [List.set_cons_zero, List.set_cons_succ]
  apply OrdX.OrdAt.op OrdX.on_put rfl rfl rfl
  · intro X hB
    have s := OrdX.rd (hWc.g.tr hB) (HIn.out _) (cell_of (j := 1) HD.out rfl)
    go_simp
    try rfl
  · dsimp only [List.set_cons_zero, List.set_cons_succ]
  apply OrdX.OrdAt.op OrdX.on_put rfl rfl rfl
  · intro X hB
    go_simp
    try rfl
  · dsimp only [List.set_cons_zero, List.set_cons_succ]
  apply OrdX.OrdAt.op OrdX.on_put rfl rfl rfl
  · intro X hB
    have s := OrdX.rd (hWc.g.tr hB) (HIn.out _) (cell_of (j := 0) HD.out rfl)
    go_simp
    try rfl
  · dsimp only [List.set_cons_zero, List.set_cons_succ]
  iterate 4
    apply OrdX.OrdAt.op OrdX.on_put rfl rfl rfl
    · intro X hB
      go_simp
      try rfl
    · dsimp only [List.set_cons_zero, List.set_cons_succ]
  apply OrdX.OrdAt.op OrdX.on_put rfl rfl rfl
  · intro X hB
    have s := OrdX.rd (hWc.g.tr hB) (HIn.out _) (HF4.out.eight.2.1)
    go_simp
    try rfl
  · dsimp only [List.set_cons_zero, List.set_cons_succ]
  iterate 2
    apply OrdX.OrdAt.op OrdX.on_put rfl rfl rfl
    · intro X hB
      go_simp
      try rfl
    · dsimp only [List.set_cons_zero, List.set_cons_succ]
  refine OrdX.OrdAt.seq rfl rfl ?_
  intro X hB
  have hbx := hWc.trans (hB.mono hWc.size)
  have hz := (hbx.block _ (Array.getElem?_eq_some_iff.1 HZ4.out).1).trans HZ4.out
  have z0 : X.cell? ⟨W.heap.size, 0, none⟩ = some (.slice none 0 0) := cell_of hz rfl
  have y0 : X.frozen? ⟨W.heap.size, 0, none⟩ = false := frozen_of hz
  have z1 : X.cell? ⟨W.heap.size, 1, none⟩ = some (.slice none 0 0) := cell_of hz rfl
  have y1 : X.frozen? ⟨W.heap.size, 1, none⟩ = false := frozen_of hz
  have z2 : X.cell? ⟨W.heap.size, 2, none⟩ = some (.int .i64 0) := cell_of hz rfl
  have y2 : X.frozen? ⟨W.heap.size, 2, none⟩ = false := frozen_of hz
  have z3 : X.cell? ⟨W.heap.size, 3, none⟩ = some (.int .i64 0) := cell_of hz rfl
  have y3 : X.frozen? ⟨W.heap.size, 3, none⟩ = false := frozen_of hz
  have z4 : X.cell? ⟨W.heap.size, 4, none⟩ = some (.int .i64 0) := cell_of hz rfl
  have y4 : X.frozen? ⟨W.heap.size, 4, none⟩ = false := frozen_of hz
  have z5 : X.cell? ⟨W.heap.size, 5, none⟩ = some (.nilFunc) := cell_of hz rfl
  have y5 : X.frozen? ⟨W.heap.size, 5, none⟩ = false := frozen_of hz
  have HZ := Lib.hid hz
  have HKX := Lib.hid (HK4.out.turn hbx)
  have HXX := Lib.hid ((hbx.block _ (Array.getElem?_eq_some_iff.1 HX4.out).1).trans HX4.out)
  have HBX := Lib.hid (HB4.out.trans (hbx.mono HB4.out.size))
  clear hz hbx hB hWc
  go_wp2_with (fail)
  refine ⟨.inl (by decide), OrdX.OrdAt.done ?_⟩
  intro w5 hW5
  refine OrdX.on_normal ?_
  have hL := laid6 (a := .slice (some ⟨k2, 0, none⟩) 2 2) (b := .slice (some ⟨k1, 0, none⟩) 2 2) (c := .int .i64 f.C) (d := .int .i64 1) (e := .int .i64 3) (f := .func (.func 65) #[] #[.pointer (some ⟨M + 1, 0, none⟩)]) HZ.out
  have hL5 := (hW5.block _ (Array.getElem?_eq_some_iff.1 hL).1).trans hL
  have hs : ∀ (X : World) (j : Nat) (v : Value) (b : Nat), W.heap.size ≠ b → (X.setCell ⟨W.heap.size, j, none⟩ v).heap[b]? = X.heap[b]? := fun X j v b hb => heap_set_other X j v fun e => hb e.symm
  have hk : ∀ (b : Nat) (cs : Array Value) (t : TypeId), t ≠ 104 → X.heap[b]? = some (.cells cs t (0, 0)) → w5.heap[b]? = some (.cells cs t (0, 0)) := fun b cs t ht hb => by
    have hn : W.heap.size ≠ b := fun e => by rw [← e, HZ.out] at hb; exact ht (Obj.cells.inj (Option.some.inj hb)).2.1.symm
    have h6 := (hs _ 5 (.func (.func 65) #[] #[.pointer (some ⟨M + 1, 0, none⟩)]) b hn).trans ((hs _ 4 (.int .i64 3) b hn).trans ((hs _ 3 (.int .i64 1) b hn).trans ((hs _ 2 (.int .i64 f.C) b hn).trans ((hs _ 1 (.slice (some ⟨k1, 0, none⟩) 2 2) b hn).trans ((hs X 0 (.slice (some ⟨k2, 0, none⟩) 2 2) b hn).trans hb)))))
    exact (hW5.block _ (Array.getElem?_eq_some_iff.1 h6).1).trans h6
  have hB5 := (((((HBX.out.setCell (p := ⟨W.heap.size, 0, none⟩) (Nat.le_refl _) (.slice (some ⟨k2, 0, none⟩) 2 2)).setCell (p := ⟨W.heap.size, 1, none⟩) (Nat.le_refl _) (.slice (some ⟨k1, 0, none⟩) 2 2)).setCell (p := ⟨W.heap.size, 2, none⟩) (Nat.le_refl _) (.int .i64 f.C)).setCell (p := ⟨W.heap.size, 3, none⟩) (Nat.le_refl _) (.int .i64 1)).setCell (p := ⟨W.heap.size, 4, none⟩) (Nat.le_refl _) (.int .i64 3)).setCell (p := ⟨W.heap.size, 5, none⟩) (Nat.le_refl _) (.func (.func 65) #[] #[.pointer (some ⟨M + 1, 0, none⟩)])
  have HBE := Lib.hid (hB5.trans (hW5.mono hB5.size))
  have HL := Lib.hid hL5
  have HKE : Hid (Kinds f w5 k1 k2) := Lib.hid ⟨hk _ _ _ (by decide) HKX.out.r, hk _ _ _ (by decide) HKX.out.c⟩
  have HXE : Hid (w5.heap[M + 1]? = some (.cells #[.func (.func 64) #[] #[]] 102 (0, 0))) := Lib.hid (hk _ _ _ (by decide) HXX.out)
  clear hL hL5 hs hk hB5 hW5
  go_wp2_with (fail)
  exact ⟨rfl, _, res47 rfl HL.out, k1, k2, M + 1, Hk.out.1, Hk.out.2.1, Hk.out.2.2, rfl, HKE.out, HXE.out, HBE.out⟩

end Go.Proofs.Ytmlcjiabnmdfeaa
