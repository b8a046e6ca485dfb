/- Contracts of a frame's directions. -/
import Derived.Test.YtmlcjiabnmdfeaaI
namespace Go.Proofs.Ytmlcjiabnmdfeaa
open Go Go.RowKit Go.Shelf CT
set_option linter.unusedVariables false

/-- runs of rows, of columns, as a direction holds them -/
def kindR (f : Fr) : Array Value := #[.slice f.ra f.rl.length f.rc, .int .i64 1, .slice f.ga f.gl.length f.gc, .int .i64 2]
def kindC (f : Fr) : Array Value := #[.slice f.ka f.kl.length f.kc, .int .i64 3, .slice f.ha f.hl.length f.hc, .int .i64 4]
/-- both lists of runs lie in blocks of their own -/
structure Kinds (f : Fr) (W : World) (k1 k2 : Nat) : Prop where
  r : W.heap[k1]? = some (.cells (kindR f) 120 (0, 0))
  c : W.heap[k2]? = some (.cells (kindC f) 120 (0, 0))
theorem Kinds.turn {f : Fr} {W W' : World} {k1 k2 : Nat} (h : Kinds f W k1 k2) (hb : Below W.heap.size W W') : Kinds f W' k1 k2 :=
  ⟨(hb.block _ (Array.getElem?_eq_some_iff.1 h.r).1).trans h.r, (hb.block _ (Array.getElem?_eq_some_iff.1 h.c).1).trans h.c⟩

theorem run_store_func {P : Program} {w : World} {a : Addr} {m : Mode} (f : Fn) (x y : Array Value) : (store a (.func f x y) m).run P w = stored P w a (.func f x y) m := run_store P w a _ m rfl
attribute [local go_sem] run_store_func
/-- six values laid in a block -/
theorem laid6 {W : World} {H : Nat} {t : TypeId} {a b c d e f u0 u1 u2 u3 u4 u5 : Value} (h : W.heap[H]? = some (.cells #[u0, u1, u2, u3, u4, u5] t (0, 0))) :
    ((((((W.setCell ⟨H, 0, none⟩ a).setCell ⟨H, 1, none⟩ b).setCell ⟨H, 2, none⟩ c).setCell ⟨H, 3, none⟩ d).setCell ⟨H, 4, none⟩ e).setCell ⟨H, 5, none⟩ f).heap[H]? = some (.cells #[a, b, c, d, e, f] t (0, 0)) :=
  heap_set_self (heap_set_self (heap_set_self (heap_set_self (heap_set_self (heap_set_self h 0 a) 1 b) 2 c) 3 d) 4 e) 5 f
theorem res46 {tmps : Array Value} {W : World} {H : Nat} {a b c d e f : Value} (h2 : tmps[2]?.getD undef = .pointer (some ⟨H, 0, none⟩)) (h : W.heap[H]? = some (.cells #[a, b, c, d, e, f] 104 (0, 0))) :
    (results Try.f46 tmps).run Try.prog W = .ok (.agg #[a, b, c, d, e, f]) W := by
  have c0 : W.cell? ⟨H, 0, none⟩ = some a := by simp [World.cell?, h]
  have c1 : W.cell? ⟨H, 1, none⟩ = some b := by simp [World.cell?, h]
  have c2 : W.cell? ⟨H, 2, none⟩ = some c := by simp [World.cell?, h]
  have c3 : W.cell? ⟨H, 3, none⟩ = some d := by simp [World.cell?, h]
  have c4 : W.cell? ⟨H, 4, none⟩ = some e := by simp [World.cell?, h]
  have c5 : W.cell? ⟨H, 5, none⟩ = some f := by simp [World.cell?, h]
  simp [results, Try.results46, go_sem, h2, c0, c1, c2, c3, c4, c5]

set_option maxRecDepth 100000 in
set_option maxHeartbeats 4000000 in
/-- lying -/
theorem c46 (f : Fr) (B g base : Nat) (vs : Nat → Value) (W : World) (h : FrM f W B g base vs) :
    Calls Try.prog 46 #[.pointer (some ⟨B, 0, none⟩)] W fun e W' => ∃ k1 k2, W.heap.size ≤ k1 ∧ W.heap.size ≤ k2 ∧
      e = .returned (.agg #[.slice (some ⟨k1, 0, none⟩) 2 2, .slice (some ⟨k2, 0, none⟩) 2 2, .int .i64 f.R, .int .i64 2, .int .i64 0, .func (.func 64) #[] #[]]) ∧ Kinds f W' k1 k2 ∧ Below W.heap.size W W' := by
  obtain ⟨I, hI0⟩ : ∃ I : OrdX.Off, I.row = none := ⟨⟨_⟩, rfl⟩
  have HIn : Hid (∀ b : Nat, some b ≠ OrdX.Off.row) := Lib.hid fun b e => by rw [hI0] at e; cases e
  clear hI0
  have hb0 : Below W.heap.size W (W.alloc (.cells #[.slice none 0 0, .slice none 0 0, .int .i64 0, .int .i64 0, .int .i64 0, .nilFunc] 104)) := (Below.refl _ _).alloc (Nat.le_refl _) _
  have HF1 := Lib.hid (h.turn hb0)
  have HB1 := Lib.hid hb0
  have HZ1 := Lib.hid (heap_alloc_new W (.cells #[.slice none 0 0, .slice none 0 0, .int .i64 0, .int .i64 0, .int .i64 0, .nilFunc] 104))
  clear h hb0
  go_enter Try.func46, Try.ntmps46
  go_wp2_with (fail)
  generalize W.alloc (Obj.cells #[.slice none 0 0, .slice none 0 0, .int .i64 0, .int .i64 0, .int .i64 0, .nilFunc] 104) = w1 at *
  refine OrdX.wp_region_ordN 14 [(0, true), (1, true), (2, true), (3, true), (4, true), (5, true), (6, true), (7, true), (8, true), (9, true), (10, true), (11, true), (12, false), (13, true)] (by kernel_rfl) (by kernel_rfl) ?_
  intro Wc hWc
  iterate 4
    apply OrdX.OrdAt.op OrdX.on_put rfl rfl rfl
    · intro X hB
      go_simp
      try rfl
    · dsimp only [List.set_cons_zero, List.set_cons_succ]
  apply OrdX.OrdAt.op OrdX.on_put rfl rfl rfl
  · intro X hB
    have s := OrdX.rd (hWc.g.tr hB) (HIn.out _) (HF1.out.eight.2.2.2.2.1)
    go_simp
    try rfl
  · dsimp only [List.set_cons_zero, List.set_cons_succ]
  iterate 5
    apply OrdX.OrdAt.op OrdX.on_put rfl rfl rfl
    · intro X hB
      go_simp
      try rfl
    · dsimp only [List.set_cons_zero, List.set_cons_succ]
  apply OrdX.OrdAt.op OrdX.on_put rfl rfl rfl
  · intro X hB
    have s := OrdX.rd (hWc.g.tr hB) (HIn.out _) (HF1.out.eight.2.2.2.2.2.1)
    go_simp
    try rfl
  · dsimp only [List.set_cons_zero, List.set_cons_succ]
  apply OrdX.OrdAt.op OrdX.on_put rfl rfl rfl
  · intro X hB
    go_simp
    try rfl
  · dsimp only [List.set_cons_zero, List.set_cons_succ]
  refine OrdX.OrdAt.seq rfl rfl ?_
  intro X hB
  go_wp2_with (fail)
  refine ⟨.inr (World.grownBy_alloc X _ _), ?_⟩
  have hbx : Below w1.heap.size w1 X := hWc.trans (hB.mono hWc.size)
  have hba : Below X.heap.size X (X.alloc (.cells #[.slice f.ra f.rl.length f.rc, .int .i64 1, .slice f.ga f.gl.length f.gc, .int .i64 2] 120)) := (Below.refl _ _).alloc (Nat.le_refl _) _
  have hbb := hbx.trans (hba.mono hbx.size)
  have HBB := Lib.hid hbb
  have HK1 := Lib.hid (heap_alloc_new X (.cells #[.slice f.ra f.rl.length f.rc, .int .i64 1, .slice f.ga f.gl.length f.gc, .int .i64 2] 120))
  have HM1 : Hid (w1.heap.size ≤ X.heap.size) := Lib.hid hbx.size
  clear hbx hba hbb hB hWc
  generalize X.alloc (.cells #[.slice f.ra f.rl.length f.rc, .int .i64 1, .slice f.ga f.gl.length f.gc, .int .i64 2] 120) = Y1 at *
  generalize X.heap.size = k1 at *
  apply OrdX.OrdAt.op OrdX.on_put rfl rfl rfl
  · intro X hB
    go_simp
    try rfl
  · dsimp only [List.set_cons_zero, List.set_cons_succ]
  refine OrdX.OrdAt.done ?_
  intro w2 hW
  refine OrdX.on_normal ?_
  have hbw := HBB.out.trans (hW.mono HBB.out.size)
  have HF2 := Lib.hid (HF1.out.turn hbw)
  have HB2 := Lib.hid (HB1.out.trans (hbw.mono HB1.out.size))
  have HZ2 := Lib.hid ((hbw.block _ (Array.getElem?_eq_some_iff.1 HZ1.out).1).trans HZ1.out)
  have HK1 := Lib.hid ((hW.block _ (Array.getElem?_eq_some_iff.1 HK1.out).1).trans HK1.out)
  clear hbw hW HBB
  go_wp2_with (fail)
  refine OrdX.wp_region_ordN 14 [(0, true), (1, true), (2, true), (3, true), (4, true), (5, true), (6, true), (7, true), (8, true), (9, true), (10, true), (11, true), (12, false), (13, true)] (by kernel_rfl) (by kernel_rfl) ?_
  intro Wc hWc
  iterate 4
    apply OrdX.OrdAt.op OrdX.on_put rfl rfl rfl
    · intro X hB
      go_simp
      try rfl
    · dsimp only [List.set_cons_zero, List.set_cons_succ]
  apply OrdX.OrdAt.op OrdX.on_put rfl rfl rfl
  · intro X hB
    have s := OrdX.rd (hWc.g.tr hB) (HIn.out _) (HF2.out.eight.2.2.2.2.2.2.1)
    go_simp
    try rfl
  · dsimp only [List.set_cons_zero, List.set_cons_succ]
  iterate 5
    apply OrdX.OrdAt.op OrdX.on_put rfl rfl rfl
    · intro X hB
      go_simp
      try rfl
    · dsimp only [List.set_cons_zero, List.set_cons_succ]
  apply OrdX.OrdAt.op OrdX.on_put rfl rfl rfl
  · intro X hB
    have s := OrdX.rd (hWc.g.tr hB) (HIn.out _) (HF2.out.eight.2.2.2.2.2.2.2.1)
    go_simp
    try rfl
  · dsimp only [List.set_cons_zero, List.set_cons_succ]
  apply OrdX.OrdAt.op OrdX.on_put rfl rfl rfl
  · intro X hB
    go_simp
    try rfl
  · dsimp only [List.set_cons_zero, List.set_cons_succ]
  refine OrdX.OrdAt.seq rfl rfl ?_
  intro X hB
  go_wp2_with (fail)
  refine ⟨.inr (World.grownBy_alloc X _ _), ?_⟩
  have hbx : Below w2.heap.size w2 X := hWc.trans (hB.mono hWc.size)
  have hba : Below X.heap.size X (X.alloc (.cells #[.slice f.ka f.kl.length f.kc, .int .i64 3, .slice f.ha f.hl.length f.hc, .int .i64 4] 120)) := (Below.refl _ _).alloc (Nat.le_refl _) _
  have hbb := hbx.trans (hba.mono hbx.size)
  have HBB := Lib.hid hbb
  have HK2 := Lib.hid (heap_alloc_new X (.cells #[.slice f.ka f.kl.length f.kc, .int .i64 3, .slice f.ha f.hl.length f.hc, .int .i64 4] 120))
  have HM2 : Hid (w2.heap.size ≤ X.heap.size) := Lib.hid hbx.size
  clear hbx hba hbb hB hWc
  generalize X.alloc (.cells #[.slice f.ka f.kl.length f.kc, .int .i64 3, .slice f.ha f.hl.length f.hc, .int .i64 4] 120) = Y2 at *
  generalize X.heap.size = k2 at *
  apply OrdX.OrdAt.op OrdX.on_put rfl rfl rfl
  · intro X hB
    go_simp
    try rfl
  · dsimp only [List.set_cons_zero, List.set_cons_succ]
  refine OrdX.OrdAt.done ?_
  intro w3 hW
  refine OrdX.on_normal ?_
  have hbw := HBB.out.trans (hW.mono HBB.out.size)
  have HF3 := Lib.hid (HF2.out.turn hbw)
  have HB3 := Lib.hid (HB2.out.trans (hbw.mono HB2.out.size))
  have HZ3 := Lib.hid ((hbw.block _ (Array.getElem?_eq_some_iff.1 HZ2.out).1).trans HZ2.out)
  have HK2 := Lib.hid ((hW.block _ (Array.getElem?_eq_some_iff.1 HK2.out).1).trans HK2.out)
  have HK1 := Lib.hid ((hbw.block _ (Array.getElem?_eq_some_iff.1 HK1.out).1).trans HK1.out)
  clear hbw hW HBB
  obtain ⟨p0, _⟩ := HF3.out.eight
  have hz := HZ3.out
  have z0 : w3.cell? ⟨W.heap.size, 0, none⟩ = some (.slice none 0 0) := by simp [World.cell?, hz]
  have z1 : w3.cell? ⟨W.heap.size, 1, none⟩ = some (.slice none 0 0) := by simp [World.cell?, hz]
  have z2 : w3.cell? ⟨W.heap.size, 2, none⟩ = some (.int .i64 0) := by simp [World.cell?, hz]
  have z3 : w3.cell? ⟨W.heap.size, 3, none⟩ = some (.int .i64 0) := by simp [World.cell?, hz]
  have z4 : w3.cell? ⟨W.heap.size, 4, none⟩ = some (.int .i64 0) := by simp [World.cell?, hz]
  have z5 : w3.cell? ⟨W.heap.size, 5, none⟩ = some .nilFunc := by simp [World.cell?, hz]
  have y0 : w3.frozen? ⟨W.heap.size, 0, none⟩ = false := by simp [World.frozen?, hz]
  have y1 : w3.frozen? ⟨W.heap.size, 1, none⟩ = false := by simp [World.frozen?, hz]
  have y2 : w3.frozen? ⟨W.heap.size, 2, none⟩ = false := by simp [World.frozen?, hz]
  have y3 : w3.frozen? ⟨W.heap.size, 3, none⟩ = false := by simp [World.frozen?, hz]
  have y4 : w3.frozen? ⟨W.heap.size, 4, none⟩ = false := by simp [World.frozen?, hz]
  have y5 : w3.frozen? ⟨W.heap.size, 5, none⟩ = false := by simp [World.frozen?, hz]
  have HZ := HZ3
  clear hz HZ3
  go_wp2_with (fail)
  have hL := laid6 (a := .slice (some ⟨k1, 0, none⟩) 2 2) (b := .slice (some ⟨k2, 0, none⟩) 2 2) (c := .int .i64 f.R) (d := .int .i64 2) (e := .int .i64 0) (f := .func (.func 64) #[] #[]) HZ.out
  have hk1 : W.heap.size ≠ k1 := fun e => by have := HK1.out; rw [← e, HZ.out] at this; exact absurd (Obj.cells.inj (Option.some.inj this)).2.1 (by decide)
  have hk2 : W.heap.size ≠ k2 := fun e => by have := HK2.out; rw [← e, HZ.out] at this; exact absurd (Obj.cells.inj (Option.some.inj this)).2.1 (by decide)
  have hs : ∀ (X : World) (j : Nat) (v : Value) (b : Nat), W.heap.size ≠ b → (X.setCell ⟨W.heap.size, j, none⟩ v).heap[b]? = X.heap[b]? := fun X j v b hb => heap_set_other X j v fun e => hb e.symm
  refine ⟨rfl, _, res46 rfl hL, k1, k2, ?_, ?_, rfl, ⟨?_, ?_⟩, ?_⟩
  · exact Nat.le_trans HB1.out.size HM1.out
  · exact Nat.le_trans HB2.out.size HM2.out
  · rw [hs _ _ _ _ hk1, hs _ _ _ _ hk1, hs _ _ _ _ hk1, hs _ _ _ _ hk1, hs _ _ _ _ hk1, hs _ _ _ _ hk1]; exact HK1.out
  · rw [hs _ _ _ _ hk2, hs _ _ _ _ hk2, hs _ _ _ _ hk2, hs _ _ _ _ hk2, hs _ _ _ _ hk2, hs _ _ _ _ hk2]; exact HK2.out
  · exact (((((HB3.out.setCell (p := ⟨W.heap.size, 0, none⟩) (Nat.le_refl _) _).setCell (p := ⟨W.heap.size, 1, none⟩) (Nat.le_refl _) _).setCell (p := ⟨W.heap.size, 2, none⟩) (Nat.le_refl _) _).setCell (p := ⟨W.heap.size, 3, none⟩) (Nat.le_refl _) _).setCell (p := ⟨W.heap.size, 4, none⟩) (Nat.le_refl _) _).setCell (p := ⟨W.heap.size, 5, none⟩) (Nat.le_refl _) _

end Go.Proofs.Ytmlcjiabnmdfeaa
