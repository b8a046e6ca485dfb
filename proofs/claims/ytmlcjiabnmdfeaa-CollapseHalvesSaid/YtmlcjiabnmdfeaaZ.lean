/- Contract of the law's framing of one cell. -/
import Derived.Test.YtmlcjiabnmdfeaaY
namespace Go.Proofs.Ytmlcjiabnmdfeaa
open Go Go.RowKit Go.Shelf CT
set_option linter.unusedVariables false

/-- a framing of one cell -/
def oneF (b1 b2 : Nat) : Fr := ⟨1, 1, some ⟨b1, 0, none⟩, [⟨0, 0, 0, 1, 1⟩], 1, some ⟨b2, 0, none⟩, [⟨3, 4, 0, 3, 4, 0, 3, 4, 0, 3, 4, 0⟩], 1, none, [], 0, none, [], 0, none, [], 0, none, [], 0, ⟨4, 6, 0, 4, 6, 0, 4, 6, 0, 4, 6, 0⟩⟩
/-- the operation at hand is the one that yields a slot -/
theorem at_dst {P : Program} {ops : Array Oper} {Q : Exit → Act → World → Prop} {o : Oper} {rest : List Oper} {a : Act} {w : World} (d : Nat) (hd : o.dst = some d) (h : wpList P ops Q (o :: rest) a w) : wpList P ops Q (o :: rest) a w := h
theorem at_store {P : Program} {ops : Array Oper} {Q : Exit → Act → World → Prop} {o : Oper} {rest : List Oper} {a : Act} {w : World} {x y : Operand} (t : Nat) (hd : o.op = .store t x y) (h : wpList P ops Q (o :: rest) a w) : wpList P ops Q (o :: rest) a w := h
theorem fr_one (f : Fr) : f.arr.all (·.oneCell') = true := by simp [Fr.arr, Value.oneCell']
theorem build30 (A B : Option Addr) (W : World) : (Instr.build 30 #[(0, .int .i64 1), (1, .int .i64 1), (2, .slice A 1 1), (3, .slice B 1 1), (8, .agg #[.int .i64 4, .int .i64 6, .int .u32 0, .int .i64 4, .int .i64 6, .int .u32 0, .int .i64 4, .int .i64 6, .int .u32 0, .int .i64 4, .int .i64 6, .int .u32 0])]).run Try.prog W =
    .ok (.agg #[.int .i64 1, .int .i64 1, .slice A 1 1, .slice B 1 1, .slice none 0 0, .slice none 0 0, .slice none 0 0, .slice none 0 0, .int .i64 4, .int .i64 6, .int .u32 0, .int .i64 4, .int .i64 6, .int .u32 0, .int .i64 4, .int .i64 6, .int .u32 0, .int .i64 4, .int .i64 6, .int .u32 0]) W := by
  kernel_rfl
theorem exec_build5 {P : Program} {o : Oper} {w : World} {ρ : Operand → Value} {t i0 i1 i2 i3 i4 : Nat} {x0 x1 x2 x3 x4 : Operand} {v0 v1 v2 v3 v4 : Value} {cs : Array Value} (ho : o.op = .build t #[(i0, x0), (i1, x1), (i2, x2), (i3, x3), (i4, x4)]) (h0 : ρ x0 = v0) (h1 : ρ x1 = v1) (h2 : ρ x2 = v2) (h3 : ρ x3 = v3) (h4 : ρ x4 = v4)
    (hb : (Instr.build t #[(i0, v0), (i1, v1), (i2, v2), (i3, v3), (i4, v4)]).run P w = .ok (.agg cs) w) : (execOp ρ o).run P w = .ok (.value (.agg cs)) w := by
  subst h0 h1 h2 h3 h4
  unfold execOp
  simp only [ho, List.map_toArray, List.map_cons, List.map_nil, Sem.run_bind, Sem.run_pure, Result.andThen_ok, hb]
theorem res24 {tmps : Array Value} {W : World} {H : Nat} {f : Fr} (h2 : tmps[0]?.getD undef = .pointer (some ⟨H, 0, none⟩)) (h : W.heap[H]? = some (.cells f.arr 30 (0, 0))) :
    (results Try.f24 tmps).run Try.prog W = .ok (.agg f.arr) W := by
  have hl := run_loadVar_row (P := Try.prog) W H 30 30 f.arr (0, 0) _ h Try.underlying30 rfl (size30 f)
  simp [results, Try.results24, h2, hl, asAddr]

theorem alloc_size {W : World} {n : Nat} (h : W.heap.size = n) (o : Obj) : (W.alloc o).heap.size = n + 1 := by rw [← h]; simp
theorem alloc_here {W : World} {n : Nat} (h : W.heap.size = n) (cs : Array Value) (t : TypeId) : (W.alloc (.cells cs t)).heap[n]? = some (.cells cs t (0, 0)) := by rw [← h]; exact heap_alloc_new W (.cells cs t)
theorem alloc_keep {W : World} {n k : Nat} {o : Obj} (h : W.heap.size = n) (hk : W.heap[k]? = some o) (o' : Obj) : (W.alloc o').heap[k]? = some o := (Below.heap_alloc _ _ _ (Array.getElem?_eq_some_iff.1 hk).1).trans hk
def zeroF : Fr := ⟨0, 0, none, [], 0, none, [], 0, none, [], 0, none, [], 0, none, [], 0, none, [], 0, ⟨0, 0, 0, 0, 0, 0, 0, 0, 0, 0, 0, 0⟩⟩

set_option maxRecDepth 100000 in
set_option maxHeartbeats 8000000 in
/-- one -/
theorem c24 (w : World) : Calls Try.prog 24 #[] w fun e w' => ∃ b1 b2, e = .returned (.agg (oneF b1 b2).arr) ∧ (oneF b1 b2).In w' ∧ Below w.heap.size w w' := by
  obtain ⟨w5, hw5⟩ : ∃ w5, (((((w.alloc (.cells #[.int .i64 0, .int .i64 0, .slice none 0 0, .slice none 0 0, .slice none 0 0, .slice none 0 0, .slice none 0 0, .slice none 0 0, .int .i64 0, .int .i64 0, .int .u32 0, .int .i64 0, .int .i64 0, .int .u32 0, .int .i64 0, .int .i64 0, .int .u32 0, .int .i64 0, .int .i64 0, .int .u32 0] 30)).alloc (.cells #[.int .i64 3, .int .i64 4, .int .u32 0] 27)).alloc (.cells #[.int .i64 4, .int .i64 6, .int .u32 0] 27)).alloc (.cells #[.int .i64 0, .int .i64 0, .int .i64 0, .int .i64 1, .int .i64 1] 43)).alloc (.cells #[.int .i64 3, .int .i64 4, .int .u32 0, .int .i64 3, .int .i64 4, .int .u32 0, .int .i64 3, .int .i64 4, .int .u32 0, .int .i64 3, .int .i64 4, .int .u32 0] 28)) = w5 := ⟨_, rfl⟩
  have s1 : (w.alloc (.cells #[.int .i64 0, .int .i64 0, .slice none 0 0, .slice none 0 0, .slice none 0 0, .slice none 0 0, .slice none 0 0, .slice none 0 0, .int .i64 0, .int .i64 0, .int .u32 0, .int .i64 0, .int .i64 0, .int .u32 0, .int .i64 0, .int .i64 0, .int .u32 0, .int .i64 0, .int .i64 0, .int .u32 0] 30)).heap.size = w.heap.size + 1 := alloc_size rfl _
  have s2 : ((w.alloc (.cells #[.int .i64 0, .int .i64 0, .slice none 0 0, .slice none 0 0, .slice none 0 0, .slice none 0 0, .slice none 0 0, .slice none 0 0, .int .i64 0, .int .i64 0, .int .u32 0, .int .i64 0, .int .i64 0, .int .u32 0, .int .i64 0, .int .i64 0, .int .u32 0, .int .i64 0, .int .i64 0, .int .u32 0] 30)).alloc (.cells #[.int .i64 3, .int .i64 4, .int .u32 0] 27)).heap.size = w.heap.size + 1 + 1 := alloc_size s1 _
  have s3 : (((w.alloc (.cells #[.int .i64 0, .int .i64 0, .slice none 0 0, .slice none 0 0, .slice none 0 0, .slice none 0 0, .slice none 0 0, .slice none 0 0, .int .i64 0, .int .i64 0, .int .u32 0, .int .i64 0, .int .i64 0, .int .u32 0, .int .i64 0, .int .i64 0, .int .u32 0, .int .i64 0, .int .i64 0, .int .u32 0] 30)).alloc (.cells #[.int .i64 3, .int .i64 4, .int .u32 0] 27)).alloc (.cells #[.int .i64 4, .int .i64 6, .int .u32 0] 27)).heap.size = w.heap.size + 1 + 1 + 1 := alloc_size s2 _
  have s4 : ((((w.alloc (.cells #[.int .i64 0, .int .i64 0, .slice none 0 0, .slice none 0 0, .slice none 0 0, .slice none 0 0, .slice none 0 0, .slice none 0 0, .int .i64 0, .int .i64 0, .int .u32 0, .int .i64 0, .int .i64 0, .int .u32 0, .int .i64 0, .int .i64 0, .int .u32 0, .int .i64 0, .int .i64 0, .int .u32 0] 30)).alloc (.cells #[.int .i64 3, .int .i64 4, .int .u32 0] 27)).alloc (.cells #[.int .i64 4, .int .i64 6, .int .u32 0] 27)).alloc (.cells #[.int .i64 0, .int .i64 0, .int .i64 0, .int .i64 1, .int .i64 1] 43)).heap.size = w.heap.size + 1 + 1 + 1 + 1 := alloc_size s3 _
  have hg : w5.heap[w.heap.size]? = some (.cells zeroF.arr 30 (0, 0)) := by rw [← hw5]; exact alloc_keep s4 (alloc_keep s3 (alloc_keep s2 (alloc_keep s1 (alloc_here rfl _ _) _) _) _) _
  have hP : w5.heap[w.heap.size + 1 + 1 + 1]? = some (.cells #[.int .i64 0, .int .i64 0, .int .i64 0, .int .i64 1, .int .i64 1] 43 (0, 0)) := by rw [← hw5]; exact alloc_keep s4 (alloc_here s3 _ _) _
  have hL : w5.heap[w.heap.size + 1 + 1 + 1 + 1]? = some (.cells #[.int .i64 3, .int .i64 4, .int .u32 0, .int .i64 3, .int .i64 4, .int .u32 0, .int .i64 3, .int .i64 4, .int .u32 0, .int .i64 3, .int .i64 4, .int .u32 0] 28 (0, 0)) := by rw [← hw5]; exact alloc_here s4 _ _
  have hb : Below w.heap.size w w5 := by rw [← hw5]; exact (((((Below.refl _ w).alloc (Nat.le_refl _) _).alloc (by omega) _).alloc (by omega) _).alloc (by omega) _).alloc (by omega) _
  have HW5 := Lib.hid hw5
  have HG := Lib.hid hg
  have HP := Lib.hid hP
  have HL := Lib.hid hL
  have HB := Lib.hid hb
  clear hw5 s1 s2 s3 s4 hg hP hL hb
  go_enter Try.func24, Try.ntmps24
  go_wp2_with (first | (refine at_dst 18 rfl ?_; refine wpList_run rfl (exec_build5 rfl rfl rfl rfl rfl rfl (build30 _ _ _)) ?_) | (refine at_store 30 rfl ?_; refine wpList_store (B := w.heap.size) (old := zeroF.arr) (cs := (oneF (w.heap.size + 1 + 1 + 1) (w.heap.size + 1 + 1 + 1 + 1)).arr) rfl rfl rfl rfl (by rw [HW5.out]; exact HG.out) (size30 (oneF (w.heap.size + 1 + 1 + 1) (w.heap.size + 1 + 1 + 1 + 1))) rfl (fr_one _) ?_; rw [HW5.out]))
  refine ⟨rfl, _, res24 rfl (setRow_heap _ _ _ _ _ _ HG.out), _, _, rfl, ?_, HB.out.trans (CT.below_setRow HB.out.size (Nat.le_refl _))⟩
  have hk : ∀ k, k ≠ w.heap.size → (w5.setRow w.heap.size (oneF (w.heap.size + 1 + 1 + 1) (w.heap.size + 1 + 1 + 1 + 1)).arr).heap[k]? = w5.heap[k]? := fun k hk => setRow_other _ _ _ _ hk
  exact ⟨GR.one_many (t := 43) ⟨(hk _ (by omega)).trans HP.out⟩, GR.one_many (t := 28) ⟨(hk _ (by omega)).trans HL.out⟩, GR.Many.nil _ _, GR.Many.nil _ _, GR.Many.nil _ _, GR.Many.nil _ _, ⟨by simp [oneF], by simp [oneF], by simp [oneF], by simp [oneF], by simp [oneF], by simp [oneF]⟩⟩
end Go.Proofs.Ytmlcjiabnmdfeaa
