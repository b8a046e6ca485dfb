/- Contracts of slices.AppendSeq, slices.Collect at a framing's edges; of collapse.Edges. -/
import Derived.Test.YtmlcjiabnmdfeaaS
import Derived.Maps.OwnIn
namespace Go.Proofs.Ytmlcjiabnmdfeaa
open Go Go.RowKit Go.Shelf CT
set_option linter.unusedVariables false
attribute [local go_sem] Oper.semAt_some

theorem info47 : (Try.prog.info? 47).map (fun i => (i.zero, i.size, i.bytes)) = some (some (.agg #[.int .i64 0, .int .i64 0, .bool false, .int .i64 0, .int .i64 0, .int .u32 0, .int .i64 0, .int .i64 0, .int .i64 0, .int .i64 0]), 10, 80) := by kernel_rfl
theorem keepsOf {n₀ : Nat} {S : Nat → Prop} {W W' : World} (hb : Below n₀ W W') (hS : ∀ k, S k → k < n₀) : CT.Keeps S W W' := ⟨hb.os, hb.tape, hb.output, hb.size, fun k hk => hb.block k (hS k hk)⟩
theorem boxed_app {W w1 : World} {n₀ B : Nat} {S : Nat → Prop} {t e : TypeId} {size : Nat} {v v' : Value} {k m : Nat} {xs ys : List Value} {tmp : Obj}
    (hv : Boxed W B t v) (hte : t ≠ e) (hrow : W.ownsRow n₀ e size v k xs) (hS : ∀ k, S k → k < n₀) (hn₀ : n₀ ≤ W.heap.size) (hB : ¬ S B)
    (hown' : w1.ownsRow n₀ e size v' m ys) (hgrow : (W.alloc tmp).grownBy w1 v.ownBlock) :
    Boxed w1 B t v ∧ Boxed (w1.setCell ⟨B, 0, none⟩ v') B t v' ∧ (w1.setCell ⟨B, 0, none⟩ v').ownsRow n₀ e size v' m ys ∧ KeepsOthers W (w1.setCell ⟨B, 0, none⟩ v') ∧ Keeps S W (w1.setCell ⟨B, 0, none⟩ v') := by
  have hv1 : Boxed w1 B t v := (hv.alloc tmp).kept hgrow (hv.not_row hte hrow)
  refine ⟨hv1, hv1.set v', hown'.kept (grownBy_setCell' w1 B v') (.inr (hv1.not_row hte hown').symm), ?_, ?_⟩
  · refine ((KeepsOthers.alloc W tmp).trans (KeepsOthers.of_grownBy hgrow fun j o ej hj => ?_)).trans (KeepsOthers.setCell _ _ _)
    rcases (hrow.alloc tmp).2 with ⟨rfl, _⟩ | ⟨g, cap, cur, rfl, _, hgb, _⟩
    · simp [Value.ownBlock] at ej
    · obtain rfl : g = j := by simpa [Value.ownBlock] using ej
      rw [hgb] at hj; cases hj; rfl
  · have hb : Below n₀ W w1 := ((Below.refl n₀ W).alloc hn₀ tmp).grown hgrow (by simp; omega) fun j ej => by
      rcases hrow.2 with ⟨rfl, _⟩ | ⟨g, cap, cur, rfl, hb, _, _⟩
      · simp [Value.ownBlock] at ej
      · obtain rfl : g = j := by simpa [Value.ownBlock] using ej
        exact hb
    exact (keepsOf hb hS).setCell (p := ⟨B, 0, none⟩) hB v'
theorem ownFrom_size' {β : Type} (m B : Nat) : OwnFrom B (fun (_ : β) W => m ≤ W.heap.size) := fun _ _ _ _ hs hg _ => Nat.le_trans hs hg.size


theorem c42_stops (n : Nat) (hn : 1 ≤ n) (Bf B g base : Nat) (vs : Nat → Value) (f : Fr) (w : World) (hF : FrM f w B g base vs) (hf : Boxed w Bf 66 (.pointer (some ⟨B, 0, none⟩))) (hR : 0 ≤ f.R ∧ f.R ≤ 8) (hC : 0 ≤ f.C ∧ f.C ≤ 8) (hlen : f.cl.length = f.pl.length) (hwf : f.wf) (w1 : World) (hw1 : Below w.heap.size w w1) :
    SeqStopsK Fence.wide n Try.prog 42 #[.pointer (some ⟨Bf, 0, none⟩)] encE (CT.Keeps (fun k => k < w.heap.size)) (fun ys => ys = allE f) (fun _ => True) 200 w1 := fun l J Jx W hW hJ hJx hY h0 =>
  c42w n l Bf B g base vs f w hF hf hR hC hlen hwf J Jx hn
    (fun s X Y hs hB => hJ s X Y none hs ⟨hB.os, hB.tape, hB.output, hB.size, fun k hk _ => hB.block k hk⟩ (fun r e => by cases e))
    (fun s X Y hs hB => hJx s X Y none hs ⟨hB.os, hB.tape, hB.output, hB.size, fun k hk _ => hB.block k hk⟩ (fun r e => by cases e))
    hY W (hw1.trans (hW.mono hw1.size)) h0

set_option maxRecDepth 100000 in
set_option maxHeartbeats 4000000 in
/-- slices.AppendSeq, of nothing yet and a framing's edges -/
theorem c41 (f : Fr) (Bs B g base : Nat) (vs : Nat → Value) (w : World) (hF : FrM f w B g base vs) (hBs : Boxed w Bs 66 (.pointer (some ⟨B, 0, none⟩))) (hR : 0 ≤ f.R ∧ f.R ≤ 8) (hC : 0 ≤ f.C ∧ f.C ≤ 8) (hlen : f.cl.length = f.pl.length) (hwf : f.wf) :
    Calls Try.prog 41 #[.slice none 0 0, .func (.func 42) #[] #[.pointer (some ⟨Bs, 0, none⟩)]] w fun e w' => ∃ v, e = .returned v ∧ w'.ownsRow w.heap.size 47 10 v (allE f).length (GR.flat Edge.cells (allE f)) ∧ Below w.heap.size w w' := by
  obtain ⟨i0, hi, hz0, hz1, hz2⟩ := info_parts info47
  have HF := Lib.hid hF
  have HBs := Lib.hid hBs
  have HR := Lib.hid hR
  have HC := Lib.hid hC
  have Hlen := Lib.hid hlen
  have Hwf := Lib.hid hwf
  clear hF hBs hR hC hlen hwf
  refine (callsIn_wide (n := 3)).1 ?_
  refine callsIn_of_wp_marks Try.func41 rfl trivial ?_ rfl
  simp only [Try.ntmps41, List.size_toArray, List.length_cons, List.length_nil, Nat.reduceAdd, Nat.reduceSub, Array.replicate_succ, Array.replicate_zero, List.push_toArray, List.append_toArray, List.nil_append, List.cons_append]
  gi_wp2_with (fail)
  obtain ⟨W0, hW0⟩ : ∃ W0, w.alloc (Obj.cells #[Value.slice none 0 0] 34) = W0 := ⟨_, rfl⟩
  have hsz : W0.heap.size = w.heap.size + 1 := by rw [← hW0]; simp
  have bx : Boxed W0 w.heap.size 34 (.slice none 0 0) := by rw [← hW0]; exact Boxed.new w 34 _
  have hB0 : Below w.heap.size w W0 := by rw [← hW0]; exact (Below.refl _ w).alloc (Nat.le_refl _) _
  have hxW0 := HF.out.turn hB0
  have hBs0 : Boxed W0 Bs 66 _ := (hB0.block _ HBs.out.lt).trans HBs.out
  rw [hW0]
  clear hW0
  have hS : ∀ k, k < w.heap.size → k < W0.heap.size := fun k hk => by omega
  refine wpIn_rangeFunc_ownH (F := Fence.wide) (n := 3) rfl (by omega) (gf := 42) (lb := #[.pointer (some ⟨Bs, 0, none⟩)]) rfl trivial (enters_of Try.func42 (by kernel_rfl) rfl)
    (c42_stops 2 (by omega) Bs B g base vs f w HF.out HBs.out HR.out HC.out Hlen.out Hwf.out W0 hB0)
    (fun h k => h.trans k) (Keeps.putObj W0 hS) (Below.refl _ _) (fun _ => rfl)
    (fun pre W => (∃ v, Boxed W w.heap.size 34 v ∧ W.ownsRow (w.heap.size + 1) 47 10 v pre.length (GR.flat Edge.cells pre) ∧ True) ∧ Below w.heap.size w W ∧ W0.heap.size ≤ W.heap.size) (fun _ _ _ => False)
    (OwnFrom.and (Own.from (holdsRow_own (w.heap.size + 1) w.heap.size 34 47 10 (fun pre : List Edge => pre.length) (fun pre => GR.flat Edge.cells pre) (fun _ _ => True)) _) (OwnFrom.and (ownFrom_below (Nat.le_refl _) (by omega)) (ownFrom_size' _ _))) (fun _ _ _ _ _ h _ _ => h.elim)
    ⟨⟨_, bx, World.ownsRow_nil _ _ _ _, trivial⟩, hB0, Nat.le_refl _⟩
    (fun x a' W => ∃ Bc, W0.heap.size ≤ Bc ∧ W.heap[Bc]? = some (.cells x.arr 47 (0, 0)) ∧ a' = { tmps := #[.slice none 0 0, .func (.func 42) #[] #[.pointer (some ⟨Bs, 0, none⟩)], .pointer (some ⟨w.heap.size, 0, none⟩), undef, .slice none 0 0, .pointer (some ⟨Bc, 0, none⟩), .func (.func 42) #[] #[.pointer (some ⟨Bs, 0, none⟩)], .agg x.arr, undef, undef, undef, undef, undef], defers := [] })
    ?hAx ?assign ?body ?done ?stop
  case hAx =>
    rintro x a' _ X Y row ⟨Bc, h1, h2, h3⟩ hg hrow
    refine ⟨Bc, h1, (hg.block Bc (Array.getElem?_eq_some_iff.1 h2).1 (fun e' => ?_)).trans h2, h3⟩
    obtain ⟨_, o, ho, hc⟩ := hrow Bc e'.symm
    rw [h2] at ho; cases ho; cases hc
  case assign =>
    rintro l pre x W K ⟨⟨v, i1, i2, -⟩, hB, hz⟩ hK
    have HK := Lib.hid hK
    have I1 := Lib.hid i1
    have I2 := Lib.hid i2
    have HB := Lib.hid hB
    clear hK i1 i2 hB hxW0 bx hB0 hS
    unfold encE at *
    obtain ⟨e0, e1, e2, e3, e4, e5, e6, e7, e8, e9⟩ := x
    unfold Edge.arr at *
    dsimp only at HK ⊢
    gi_wp2
    refine HK.out _ _ ((KeepsOthers.alloc _ _).from _) (keepsOf ((Below.refl _ W).alloc (Nat.le_refl _) _) (fun k hk => ?_)) ⟨⟨_, I1.out.alloc _, I2.out.alloc _, trivial⟩, HB.out.alloc HB.out.size _, by simp; omega⟩ ⟨W.heap.size, hz, heap_alloc_new W _, rfl⟩
    have := HB.out.size; omega
  case body =>
    rintro l pre x a' W hl' hrr ⟨⟨v, hv, hrow, -⟩, hB, hz⟩ ⟨Bc, hBc, hblk, rfl⟩ hlt'
    have hfl : GR.flat Edge.cells (pre ++ [x]) = GR.flat Edge.cells pre ++ x.cells := by rw [GR.flat_append, GR.flat_single]
    have Hfl := Lib.hid hfl
    have m0 := cell_of (j := 0) hblk rfl
    have m1 := cell_of (j := 1) hblk rfl
    have m2 := cell_of (j := 2) hblk rfl
    have m3 := cell_of (j := 3) hblk rfl
    have m4 := cell_of (j := 4) hblk rfl
    have m5 := cell_of (j := 5) hblk rfl
    have m6 := cell_of (j := 6) hblk rfl
    have m7 := cell_of (j := 7) hblk rfl
    have m8 := cell_of (j := 8) hblk rfl
    have m9 := cell_of (j := 9) hblk rfl
    have hcv := hv.cell
    have hnew : ∀ j u, (x.cells)[j]? = some u → (W.alloc (.cells x.arr 47)).cell? ((⟨W.heap.size, 0, none⟩ : Addr).add j) = some u := fun j u hu => by
      rw [GR.addr_add']
      exact GR.At.of_row (enc := Edge.cells) (x := x) (heap_alloc_new W _) j u hu
    have Hnew := Lib.hid hnew
    have Hone := Lib.hid (Edge.one x)
    clear hfl hnew hblk hxW0 bx hB0 hS hrr
    obtain ⟨e0, e1, e2, e3, e4, e5, e6, e7, e8, e9⟩ := x
    unfold Edge.arr at *
    unfold Edge.cells at Hnew Hone
    dsimp only at m0 m1 m2 m3 m4 m5 m6 m7 m8 m9 Hnew Hone ⊢
    gi_wp2_with (gi_at_builtin; refine wpListIn_append_own _ rfl _ _ 34 rfl (w.heap.size + 1) 47 i0 _ 10 80 Try.underlying34 hi hz0 hz1 hz2 rfl (by decide) _ _ _ rfl (hrow.alloc _) ⟨W.heap.size, 0, none⟩ 1 1 [.int .i64 e0, .int .i64 e1, .bool e2, .int .i64 e3, .int .i64 e4, .int .u32 e5, .int .i64 e6, .int .i64 e7, .int .i64 e8, .int .i64 e9] rfl rfl Hnew.out Hone.out (by unfold maxLen; omega) (by omega) (by simp; omega) ?_; intro v' w1' hown' hgrow _; obtain ⟨g', cap', rfl⟩ := ownsRow_succ hown'; obtain ⟨hv1, hv2, hr2, hk2, hb2⟩ := boxed_app (S := fun k => k < w.heap.size) hv (by decide) hrow (fun k hk => by omega) (by omega) (by omega) hown' hgrow; have hc1 := hv1.cell; have hf1 := hv1.frozen)
    have hsz3 := hb2.size
    refine ⟨hk2.from _, hb2, ⟨_, hv2, ?_⟩, hB.trans (hb2.below fun k hk => hk), by omega⟩
    rw [List.length_append]
    rw [Hfl.out]
    exact ⟨hr2, trivial⟩
  case done =>
    rintro D ys W hD rfl ⟨⟨v, hv, hrow, -⟩, hB, hWs⟩ hK
    have hc := hv.cell
    have Hrow := Lib.hid hrow
    clear hrow
    gi_wp2
    have hKb := belowK_b (w := W0) (n₀ := W0.heap.size) (Nat.le_refl _) W D _ (.deferred none) (by omega) hK rfl rfl
    refine ⟨by simp, .inl ⟨_, _, rfl, run_takeDeferred hK, ?_⟩⟩
    have hown2 : (W.putObj D (.deferred none)).ownsRow (w.heap.size + 1) 47 10 v (allE f).length (GR.flat Edge.cells (allE f)) := GR.own_keep Hrow.out fun g hg hlg => World.putObj_heap_other (fun e => by
      subst e
      rcases Hrow.out.2 with ⟨rfl, _⟩ | ⟨g', cap', cur, rfl, _, hgb, _⟩
      · simp [Value.ownBlock] at hg
      · simp only [Value.ownBlock, Option.some.injEq] at hg
        subst hg
        rw [hgb] at hK; cases hK)
    have hown3 : (W.putObj D (.deferred none)).ownsRow w.heap.size 47 10 v (allE f).length (GR.flat Edge.cells (allE f)) := ⟨hown2.1, hown2.2.imp id fun ⟨g, cap, cur, h1, h2, h3⟩ => ⟨g, cap, cur, h1, by omega, h3⟩⟩
    exact ⟨_, results_tmp (t := 4) rfl _ _ _, v, rfl, hown3, hB.trans (hKb.mono (by omega))⟩
  case stop =>
    rintro D c pre W _ _ h _
    exact h.elim


/-- slices.Collect -/
theorem c26 (f : Fr) (Bs B g base : Nat) (vs : Nat → Value) (w : World) (hF : FrM f w B g base vs) (hBs : Boxed w Bs 66 (.pointer (some ⟨B, 0, none⟩))) (hR : 0 ≤ f.R ∧ f.R ≤ 8) (hC : 0 ≤ f.C ∧ f.C ≤ 8) (hlen : f.cl.length = f.pl.length) (hwf : f.wf) :
    Calls Try.prog 26 #[.func (.func 42) #[] #[.pointer (some ⟨Bs, 0, none⟩)]] w fun e w' => ∃ v, e = .returned v ∧ w'.ownsRow w.heap.size 47 10 v (allE f).length (GR.flat Edge.cells (allE f)) ∧ Below w.heap.size w w' := by
  have H := Lib.hid (c41 f Bs B g base vs w hF hBs hR hC hlen hwf)
  clear hBs hF hR hC hlen hwf
  go_enter Try.func26, Try.ntmps26
  go_wp2_with (go_at_call 41; refine H.out.mono ?_; rintro e w1 ⟨v, rfl, ho, hb⟩; have Ho := Lib.hid ho; have Hb := Lib.hid hb; clear ho hb)
  go_ret
  exact ⟨_, rfl, Ho.out, Hb.out⟩
end Go.Proofs.Ytmlcjiabnmdfeaa
