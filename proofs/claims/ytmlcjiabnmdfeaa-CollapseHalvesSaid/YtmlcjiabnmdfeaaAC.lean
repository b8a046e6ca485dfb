/- Contract of the laws' cut of a framing. -/
import Derived.Test.YtmlcjiabnmdfeaaZA
import Derived.Test.YtmlcjiabnmdfeaaAR
namespace Go.Proofs.Ytmlcjiabnmdfeaa
open Go Go.RowKit Go.Shelf CT
set_option linter.unusedVariables false

/-- the first ten of each list -/
def cutF (f : Fr) : Fr := { f with pl := f.pl.take 10, cl := f.cl.take 10, rl := f.rl.take 10, gl := f.gl.take 10, kl := f.kl.take 10, hl := f.hl.take 10 }
theorem cutF_in {f : Fr} {W : World} (h : f.Arg W) : (cutF f).In W := ⟨h.p.take 10, h.c.take 10, h.r.take 10, h.g.take 10, h.k.take 10, h.h.take 10, by simp [cutF]; omega⟩
theorem cutF_wf {f : Fr} (h : f.wf) : (cutF f).wf := ⟨fun q hq => h.c q (List.mem_of_mem_take hq), h.t, fun q hq => h.r q (List.mem_of_mem_take hq), fun q hq => h.g q (List.mem_of_mem_take hq), fun q hq => h.k q (List.mem_of_mem_take hq), fun q hq => h.h q (List.mem_of_mem_take hq)⟩
theorem min_ten (n : Nat) : (if (10 : Int) < (n : Int) then (10 : Int) else (n : Int)) = ((min 10 n : Nat) : Int) := by split <;> omega
theorem wp_store {P : Program} {o : Oper} {a : Act} {w : World} {K : Act → World → Prop} {Q : Exit → Act → World → Prop} {x y : Operand} {ty t B : Nat} {old cs : Array Value} (ho : o.op = .store ty x y) (hx : a.eval x = .pointer (some ⟨B, 0, none⟩)) (hy : a.eval y = .agg cs) (hg : w.heap[B]? = some (.cells old t (0, 0)))
    (hi : (P.info? ty).map (·.size) = some cs.size) (hs : old.size = cs.size) (h1 : cs.all (·.oneCell') = true) (h : K (a.put o.dst undef) (w.setRow B cs)) : o.wp P a w K Q := by
  unfold Oper.wp execOp
  simp only [ho, hx, hy, Instr.storeAt, Instr.sureAddr, Sem.run_bind, Sem.run_pure, Result.andThen_ok, run_storeVar_row w B t ty old cs hg hi hs h1]
  exact h
theorem res11 {tmps : Array Value} {W : World} {H : Nat} {f : Fr} {b : Value} (h2 : tmps[2]?.getD undef = .pointer (some ⟨H, 0, none⟩)) (h3 : tmps[3]?.getD undef = b) (h : W.heap[H]? = some (.cells f.arr 30 (0, 0))) :
    (results Try.f11 tmps).run Try.prog W = .ok (.tuple #[.agg f.arr, b]) W := by
  have hl := run_loadVar_row (P := Try.prog) W H 30 30 f.arr (0, 0) _ h Try.underlying30 rfl (size30 f)
  simp [results, Try.results11, h2, h3, hl, asAddr]

set_option maxRecDepth 100000 in
set_option maxHeartbeats 8000000 in
/-- cut -/
theorem c11 (f : Fr) (w : World) (hroom : f.pl.length ≤ f.pc ∧ f.cl.length ≤ f.cc ∧ f.rl.length ≤ f.rc ∧ f.gl.length ≤ f.gc ∧ f.kl.length ≤ f.kc ∧ f.hl.length ≤ f.hc) :
    Calls Try.prog 11 #[.agg f.arr] w fun e w' => e = .returned (.tuple #[.agg (cutF f).arr, .bool (decide (f.R ≤ 8) && decide (f.C ≤ 8))]) ∧ Below w.heap.size w w' := by
  obtain ⟨w2, hw2⟩ : ∃ w2, (w.alloc (.cells f.arr 30)).alloc (.cells #[.int .i64 0, .int .i64 0, .slice none 0 0, .slice none 0 0, .slice none 0 0, .slice none 0 0, .slice none 0 0, .slice none 0 0, .int .i64 0, .int .i64 0, .int .u32 0, .int .i64 0, .int .i64 0, .int .u32 0, .int .i64 0, .int .i64 0, .int .u32 0, .int .i64 0, .int .i64 0, .int .u32 0] 30) = w2 := ⟨_, rfl⟩
  have s1 : (w.alloc (.cells f.arr 30)).heap.size = w.heap.size + 1 := alloc_size rfl _
  have hg : w2.heap[w.heap.size]? = some (.cells f.arr 30 (0, 0)) := by rw [← hw2]; exact alloc_keep s1 (alloc_here rfl _ _) _
  have hz : w2.heap[w.heap.size + 1]? = some (.cells zeroF.arr 30 (0, 0)) := by rw [← hw2]; exact alloc_here s1 _ _
  have hb : Below w.heap.size w w2 := by rw [← hw2]; exact ((Below.refl _ w).alloc (Nat.le_refl _) _).alloc (by omega) _
  have HW2 := Lib.hid hw2
  have HG := Lib.hid hg
  have HZ := Lib.hid hz
  have HB := Lib.hid hb
  have z2 : w2.cell? ⟨w.heap.size, 2, none⟩ = some (.slice f.pa f.pl.length f.pc) := cell_of hg rfl
  have y2 : w2.frozen? ⟨w.heap.size, 2, none⟩ = false := frozen_of hg
  have z3 : w2.cell? ⟨w.heap.size, 3, none⟩ = some (.slice f.ca f.cl.length f.cc) := cell_of hg rfl
  have y3 : w2.frozen? ⟨w.heap.size, 3, none⟩ = false := frozen_of hg
  have z4 : w2.cell? ⟨w.heap.size, 4, none⟩ = some (.slice f.ra f.rl.length f.rc) := cell_of hg rfl
  have y4 : w2.frozen? ⟨w.heap.size, 4, none⟩ = false := frozen_of hg
  have z5 : w2.cell? ⟨w.heap.size, 5, none⟩ = some (.slice f.ga f.gl.length f.gc) := cell_of hg rfl
  have y5 : w2.frozen? ⟨w.heap.size, 5, none⟩ = false := frozen_of hg
  have z6 : w2.cell? ⟨w.heap.size, 6, none⟩ = some (.slice f.ka f.kl.length f.kc) := cell_of hg rfl
  have y6 : w2.frozen? ⟨w.heap.size, 6, none⟩ = false := frozen_of hg
  have z7 : w2.cell? ⟨w.heap.size, 7, none⟩ = some (.slice f.ha f.hl.length f.hc) := cell_of hg rfl
  have y7 : w2.frozen? ⟨w.heap.size, 7, none⟩ = false := frozen_of hg
  clear hg hz hb s1 hw2
  have m2 := min_ten f.pl.length
  have u2 : min 10 f.pl.length ≤ f.pc := by omega
  have m3 := min_ten f.cl.length
  have u3 : min 10 f.cl.length ≤ f.cc := by omega
  have m4 := min_ten f.rl.length
  have u4 : min 10 f.rl.length ≤ f.rc := by omega
  have m5 := min_ten f.gl.length
  have u5 : min 10 f.gl.length ≤ f.gc := by omega
  have m6 := min_ten f.kl.length
  have u6 : min 10 f.kl.length ≤ f.kc := by omega
  have m7 := min_ten f.hl.length
  have u7 : min 10 f.hl.length ≤ f.hc := by omega
  obtain ⟨r1, hr1⟩ : ∃ c, decide (f.R ≤ 8) = c := ⟨_, rfl⟩
  obtain ⟨c1, hc1⟩ : ∃ c, decide (f.C ≤ 8) = c := ⟨_, rfl⟩
  rw [hr1, hc1]
  have HR1 := Lib.hid hr1
  have HC1 := Lib.hid hc1
  clear hr1 hc1
  go_enter Try.func11, Try.ntmps11
  go_wp2_with (refine at_dst 4 rfl ?_; rw [HW2.out])
  clear z2 y2 m2 u2 z3 y3 m3 u3 z4 y4 m4 u4 z5 y5 m5 u5 z6 y6 m6 u6 z7 y7 m7 u7
  have harr : ((((((f.arr.setIfInBounds 2 (.slice f.pa (min 10 f.pl.length) f.pc)).setIfInBounds 3 (.slice f.ca (min 10 f.cl.length) f.cc)).setIfInBounds 4 (.slice f.ra (min 10 f.rl.length) f.rc)).setIfInBounds 5 (.slice f.ga (min 10 f.gl.length) f.gc)).setIfInBounds 6 (.slice f.ka (min 10 f.kl.length) f.kc)).setIfInBounds 7 (.slice f.ha (min 10 f.hl.length) f.hc)) = (cutF f).arr := by simp [cutF, Fr.arr, List.length_take]
  have hL := (heap_set_self (heap_set_self (heap_set_self (heap_set_self (heap_set_self (heap_set_self HG.out 2 (.slice f.pa (min 10 f.pl.length) f.pc)) 3 (.slice f.ca (min 10 f.cl.length) f.cc)) 4 (.slice f.ra (min 10 f.rl.length) f.rc)) 5 (.slice f.ga (min 10 f.gl.length) f.gc)) 6 (.slice f.ka (min 10 f.kl.length) f.kc)) 7 (.slice f.ha (min 10 f.hl.length) f.hc))
  rw [harr] at hL
  have HL := Lib.hid hL
  have HZ5 := Lib.hid ((heap_set_other (b := w.heap.size) (b' := w.heap.size + 1) _ 7 (.slice f.ha (min 10 f.hl.length) f.hc) (by omega)).trans ((heap_set_other (b := w.heap.size) (b' := w.heap.size + 1) _ 6 (.slice f.ka (min 10 f.kl.length) f.kc) (by omega)).trans ((heap_set_other (b := w.heap.size) (b' := w.heap.size + 1) _ 5 (.slice f.ga (min 10 f.gl.length) f.gc) (by omega)).trans ((heap_set_other (b := w.heap.size) (b' := w.heap.size + 1) _ 4 (.slice f.ra (min 10 f.rl.length) f.rc) (by omega)).trans ((heap_set_other (b := w.heap.size) (b' := w.heap.size + 1) _ 3 (.slice f.ca (min 10 f.cl.length) f.cc) (by omega)).trans ((heap_set_other (b := w.heap.size) (b' := w.heap.size + 1) _ 2 (.slice f.pa (min 10 f.pl.length) f.pc) (by omega)).trans HZ.out))))))
  have HB5 := Lib.hid ((((((HB.out.setCell (p := ⟨w.heap.size, 2, none⟩) (Nat.le_refl _) (.slice f.pa (min 10 f.pl.length) f.pc)).setCell (p := ⟨w.heap.size, 3, none⟩) (Nat.le_refl _) (.slice f.ca (min 10 f.cl.length) f.cc)).setCell (p := ⟨w.heap.size, 4, none⟩) (Nat.le_refl _) (.slice f.ra (min 10 f.rl.length) f.rc)).setCell (p := ⟨w.heap.size, 5, none⟩) (Nat.le_refl _) (.slice f.ga (min 10 f.gl.length) f.gc)).setCell (p := ⟨w.heap.size, 6, none⟩) (Nat.le_refl _) (.slice f.ka (min 10 f.kl.length) f.kc)).setCell (p := ⟨w.heap.size, 7, none⟩) (Nat.le_refl _) (.slice f.ha (min 10 f.hl.length) f.hc))
  obtain ⟨w6, hw6⟩ : ∃ w6, ((((((w2.setCell ⟨w.heap.size, 2, none⟩ (.slice f.pa (min 10 f.pl.length) f.pc)).setCell ⟨w.heap.size, 3, none⟩ (.slice f.ca (min 10 f.cl.length) f.cc)).setCell ⟨w.heap.size, 4, none⟩ (.slice f.ra (min 10 f.rl.length) f.rc)).setCell ⟨w.heap.size, 5, none⟩ (.slice f.ga (min 10 f.gl.length) f.gc)).setCell ⟨w.heap.size, 6, none⟩ (.slice f.ka (min 10 f.kl.length) f.kc)).setCell ⟨w.heap.size, 7, none⟩ (.slice f.ha (min 10 f.hl.length) f.hc)) = w6 := ⟨_, rfl⟩
  rw [hw6] at hL HZ5 HB5 ⊢
  have HL6 := Lib.hid hL
  have HZ6 := HZ5
  have HB6 := HB5
  clear hw6 harr hL HL HZ5 HB5
  have P0 : Hid (_ = some (Value.int .i64 f.R)) := Lib.hid (cell_of (j := 0) HL6.out rfl)
  have P1 : Hid (_ = some (Value.int .i64 f.C)) := Lib.hid (cell_of (j := 1) HL6.out rfl)
  clear hroom
  obtain ⟨I, hI0⟩ : ∃ I : OrdX.Off, I.row = some (w.heap.size + 1) := ⟨⟨_⟩, rfl⟩
  have HIn : Hid (∀ b : Nat, b ≠ w.heap.size + 1 → some b ≠ OrdX.Off.row) := Lib.hid fun b hb e => by rw [hI0] at e; exact hb (Option.some.inj e)
  have HIR : Hid (OrdX.Off.row = some (w.heap.size + 1)) := Lib.hid hI0
  clear hI0
  cases r1 with
  | true =>
    refine OrdX.wp_region_ordN 11 [(0, true), (1, true), (2, true), (3, true), (4, true), (5, true), (6, true), (7, true), (8, true), (9, false), (10, true)] (by kernel_rfl) (by kernel_rfl) ?_
    intro Wc hWc
    apply OrdX.OrdAt.op OrdX.on_put rfl rfl rfl
    · intro X hB
      exact exec_load _ rfl rfl (((hWc.g.tr hB).block _ (Array.getElem?_eq_some_iff.1 HL6.out).1 (HIn.out w.heap.size (by omega))).trans HL6.out) Try.underlying30 rfl (size30 (cutF f))
    · dsimp only [List.set_cons_zero, List.set_cons_succ]
    apply OrdX.OrdAt.op OrdX.on_put rfl rfl rfl
    · intro X hB
      go_simp
      try rfl
    · dsimp only [List.set_cons_zero, List.set_cons_succ]
    apply OrdX.OrdAt.op OrdX.on_put rfl rfl rfl
    · intro X hB
      have s := OrdX.rd (hWc.g.tr hB) (HIn.out w.heap.size (by omega)) (P0.out)
      go_simp
      try rfl
    · dsimp only [List.set_cons_zero, List.set_cons_succ]
    apply OrdX.OrdAt.op OrdX.on_put rfl rfl rfl
    · intro X hB
      have sc := HR1.out
      go_simp
      try rfl
    · dsimp only [List.set_cons_zero, List.set_cons_succ]
    apply OrdX.OrdAt.op OrdX.on_put rfl rfl rfl
    · intro X hB
      go_simp
      try rfl
    · dsimp only [List.set_cons_zero, List.set_cons_succ]
    apply OrdX.OrdAt.op_if OrdX.on_put rfl rfl rfl
    · intro X hB
      go_simp
      try rfl
    · dsimp only [List.set_cons_zero, List.set_cons_succ]
    apply OrdX.OrdAt.op_if OrdX.on_put rfl rfl rfl
    · intro X hB
      have s := OrdX.rd (hWc.g.tr hB) (HIn.out w.heap.size (by omega)) (P1.out)
      go_simp
      try rfl
    · dsimp only [List.set_cons_zero, List.set_cons_succ]
    apply OrdX.OrdAt.op_if OrdX.on_put rfl rfl rfl
    · intro X hB
      have sc := HC1.out
      go_simp
      try rfl
    · dsimp only [List.set_cons_zero, List.set_cons_succ]
    apply OrdX.OrdAt.op OrdX.on_put rfl rfl rfl
    · intro X hB
      go_simp
      try rfl
    · dsimp only [List.set_cons_zero, List.set_cons_succ]
    refine OrdX.OrdAt.seq rfl rfl ?_
    intro X hB
    have hx := hWc.trans (hB.mono hWc.size)
    have HZX := Lib.hid ((hx.block _ (Array.getElem?_eq_some_iff.1 HZ6.out).1).trans HZ6.out)
    have HBX := Lib.hid (HB6.out.trans (hx.mono HB6.out.size))
    clear hx hB hWc
    refine wp_store (old := zeroF.arr) (cs := (cutF f).arr) rfl rfl rfl HZX.out (size30 _) rfl (fr_one _) ?_
    have HS := Lib.hid (setRow_heap _ _ _ (cutF f).arr _ _ HZX.out)
    have HBS : Hid (Below w.heap.size w (X.setRow (w.heap.size + 1) (cutF f).arr)) := Lib.hid (HBX.out.trans (CT.below_setRow HBX.out.size (Nat.le_succ _)))
    refine ⟨.inr ⟨rfl, rfl, rfl, Nat.le_of_eq (setRow_size _ _ _).symm, fun i hi hn => setRow_other _ _ _ _ fun e => hn (by rw [e, HIR.out])⟩, ?_⟩
    simp only [Act.put]
    apply OrdX.OrdAt.op OrdX.on_put rfl rfl rfl
    · intro X hB
      go_simp
      try rfl
    · dsimp only [List.set_cons_zero, List.set_cons_succ]
    refine OrdX.OrdAt.done ?_
    intro W9 hW9
    refine OrdX.on_normal ?_
    have HF := Lib.hid ((hW9.block _ (Array.getElem?_eq_some_iff.1 HS.out).1).trans HS.out)
    have HE := Lib.hid (HBS.out.trans (hW9.mono HBS.out.size))
    clear hW9
    go_wp2_with (fail)
    exact ⟨rfl, _, res11 rfl rfl HF.out, rfl, HE.out⟩
  | false =>
    refine OrdX.wp_region_ordN 11 [(0, true), (1, true), (2, true), (3, true), (4, true), (5, true), (6, true), (7, true), (8, true), (9, false), (10, true)] (by kernel_rfl) (by kernel_rfl) ?_
    intro Wc hWc
    apply OrdX.OrdAt.op OrdX.on_put rfl rfl rfl
    · intro X hB
      exact exec_load _ rfl rfl (((hWc.g.tr hB).block _ (Array.getElem?_eq_some_iff.1 HL6.out).1 (HIn.out w.heap.size (by omega))).trans HL6.out) Try.underlying30 rfl (size30 (cutF f))
    · dsimp only [List.set_cons_zero, List.set_cons_succ]
    apply OrdX.OrdAt.op OrdX.on_put rfl rfl rfl
    · intro X hB
      go_simp
      try rfl
    · dsimp only [List.set_cons_zero, List.set_cons_succ]
    apply OrdX.OrdAt.op OrdX.on_put rfl rfl rfl
    · intro X hB
      have s := OrdX.rd (hWc.g.tr hB) (HIn.out w.heap.size (by omega)) (P0.out)
      go_simp
      try rfl
    · dsimp only [List.set_cons_zero, List.set_cons_succ]
    apply OrdX.OrdAt.op OrdX.on_put rfl rfl rfl
    · intro X hB
      have sc := HR1.out
      go_simp
      try rfl
    · dsimp only [List.set_cons_zero, List.set_cons_succ]
    apply OrdX.OrdAt.op OrdX.on_put rfl rfl rfl
    · intro X hB
      go_simp
      try rfl
    · dsimp only [List.set_cons_zero, List.set_cons_succ]
    apply OrdX.OrdAt.op_not OrdX.on_put rfl rfl rfl
    · dsimp only [List.set_cons_zero, List.set_cons_succ]
    apply OrdX.OrdAt.op_not OrdX.on_put rfl rfl rfl
    · dsimp only [List.set_cons_zero, List.set_cons_succ]
    apply OrdX.OrdAt.op_not OrdX.on_put rfl rfl rfl
    · dsimp only [List.set_cons_zero, List.set_cons_succ]
    apply OrdX.OrdAt.op OrdX.on_put rfl rfl rfl
    · intro X hB
      go_simp
      try rfl
    · dsimp only [List.set_cons_zero, List.set_cons_succ]
    refine OrdX.OrdAt.seq rfl rfl ?_
    intro X hB
    have hx := hWc.trans (hB.mono hWc.size)
    have HZX := Lib.hid ((hx.block _ (Array.getElem?_eq_some_iff.1 HZ6.out).1).trans HZ6.out)
    have HBX := Lib.hid (HB6.out.trans (hx.mono HB6.out.size))
    clear hx hB hWc
    refine wp_store (old := zeroF.arr) (cs := (cutF f).arr) rfl rfl rfl HZX.out (size30 _) rfl (fr_one _) ?_
    have HS := Lib.hid (setRow_heap _ _ _ (cutF f).arr _ _ HZX.out)
    have HBS : Hid (Below w.heap.size w (X.setRow (w.heap.size + 1) (cutF f).arr)) := Lib.hid (HBX.out.trans (CT.below_setRow HBX.out.size (Nat.le_succ _)))
    refine ⟨.inr ⟨rfl, rfl, rfl, Nat.le_of_eq (setRow_size _ _ _).symm, fun i hi hn => setRow_other _ _ _ _ fun e => hn (by rw [e, HIR.out])⟩, ?_⟩
    simp only [Act.put]
    apply OrdX.OrdAt.op OrdX.on_put rfl rfl rfl
    · intro X hB
      go_simp
      try rfl
    · dsimp only [List.set_cons_zero, List.set_cons_succ]
    refine OrdX.OrdAt.done ?_
    intro W9 hW9
    refine OrdX.on_normal ?_
    have HF := Lib.hid ((hW9.block _ (Array.getElem?_eq_some_iff.1 HS.out).1).trans HS.out)
    have HE := Lib.hid (HBS.out.trans (hW9.mono HBS.out.size))
    clear hW9
    go_wp2_with (fail)
    exact ⟨rfl, _, res11 rfl rfl HF.out, rfl, HE.out⟩
end Go.Proofs.Ytmlcjiabnmdfeaa
