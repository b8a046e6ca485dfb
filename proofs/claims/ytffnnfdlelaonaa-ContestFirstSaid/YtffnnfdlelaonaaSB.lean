/- Contracts of slices.AppendSeq and slices.Collect at the values of a slice of sides. -/
import Derived.Test.YtffnnfdlelaonaaSA
import Derived.Maps.OwnIn
namespace Go.Proofs.Ytffnnfdlelaonaa
open Go Go.RowKit Go.Shelf
set_option linter.unusedVariables false
attribute [local go_sem] Oper.semAt_some

theorem info30' : (Try.prog.info? 30).map (fun i => (i.zero, i.size, i.bytes)) = some (some (.agg #[.int .i64 0, .int .i64 0, .int .u32 0, .int .i64 0, .int .i64 0, .int .i64 0]), 6, 48) := by kernel_rfl
theorem boxed_app {W w1 : World} {n₀ B : Nat} {S : Nat → Prop} {t e : TypeId} {size : Nat} {v v' : Value} {k m : Nat} {xs ys : List Value} {tmp : Obj}
    (hv : Boxed W B t v) (hte : t ≠ e) (hrow : W.ownsRow n₀ e size v k xs) (hS : ∀ k, S k → k < n₀) (hn₀ : n₀ ≤ W.heap.size) (hB : ¬ S B)
    (hown' : w1.ownsRow n₀ e size v' m ys) (hgrow : (W.alloc tmp).grownBy w1 v.ownBlock) :
    Boxed w1 B t v ∧ Boxed (w1.setCell ⟨B, 0, none⟩ v') B t v' ∧ (w1.setCell ⟨B, 0, none⟩ v').ownsRow n₀ e size v' m ys ∧ KeepsOthers W (w1.setCell ⟨B, 0, none⟩ v') ∧ Keeps S W (w1.setCell ⟨B, 0, none⟩ v') := by
  have hv1 : Boxed w1 B t v := (hv.alloc tmp).kept hgrow (hv.not_row hte hrow)
  refine ⟨hv1, hv1.set v', hown'.kept (grownBy_setCell' w1 B v') (.inr (hv1.not_row hte hown').symm), ?_, ?_⟩
  · refine ((KeepsOthers.alloc W tmp).trans (KeepsOthers.of_grownBy hgrow fun j o ej hj => ?_)).trans (KeepsOthers.setCell _ _ _)
    rcases (hrow.alloc tmp).2 with ⟨rfl, _⟩ | ⟨g, cap, cur, rfl, _, hgb, _⟩
    · simp [Value.ownBlock] at ej
    · obtain rfl : g = j := by simpa [Value.ownBlock] using ej
      rw [hgb] at hj; cases hj; rfl
  · have hb : Below n₀ W w1 := ((Below.refl n₀ W).alloc hn₀ tmp).grown hgrow (by simp; omega) fun j ej => by
      rcases hrow.2 with ⟨rfl, _⟩ | ⟨g, cap, cur, rfl, hb, _, _⟩
      · simp [Value.ownBlock] at ej
      · obtain rfl : g = j := by simpa [Value.ownBlock] using ej
        exact hb
    exact (Keeps.of_below hb hS).setCell (p := ⟨B, 0, none⟩) hB v'
theorem ownFrom_size' {β : Type} (m B : Nat) : OwnFrom B (fun (_ : β) W => m ≤ W.heap.size) := fun _ _ _ _ hs hg _ => Nat.le_trans hs hg.size

set_option maxRecDepth 100000 in
set_option maxHeartbeats 4000000 in
/-- slices.AppendSeq, of nothing yet and the values of a slice -/
theorem c40 (Bs : Nat) (A : Option Addr) (xs : List Side) (c : Nat) (w : World) (hBs : w.cell? ⟨Bs, 0, none⟩ = some (.slice A xs.length c)) (hx : MS w A xs) (hl : xs.length ≤ 1000) (hc : xs.length ≤ c) :
    Calls Try.prog 40 #[.slice none 0 0, .func (.func 37) #[] #[.pointer (some ⟨Bs, 0, none⟩)]] w fun e w' => ∃ v, e = .returned v ∧ w'.ownsRow w.heap.size 30 6 v xs.length (GR.flat Side.cells xs) ∧ Below w.heap.size w w' := by
  obtain ⟨i0, hi, hz0, hz1, hz2⟩ := info_parts info30'
  have Hx := Lib.hid hx
  have HBs := Lib.hid hBs
  clear hx hBs
  refine (callsIn_wide (n := 3)).1 ?_
  refine callsIn_of_wp_marks Try.func40 rfl trivial ?_ rfl
  simp only [Try.ntmps40, List.size_toArray, List.length_cons, List.length_nil, Nat.reduceAdd, Nat.reduceSub, Array.replicate_succ, Array.replicate_zero, List.push_toArray, List.append_toArray, List.nil_append, List.cons_append]
  gi_wp2_with (fail)
  obtain ⟨W0, hW0⟩ : ∃ W0, w.alloc (Obj.cells #[Value.slice none 0 0] 25) = W0 := ⟨_, rfl⟩
  have hsz : W0.heap.size = w.heap.size + 1 := by rw [← hW0]; simp
  have bx : Boxed W0 w.heap.size 25 (.slice none 0 0) := by rw [← hW0]; exact Boxed.new w 25 _
  have hB0 : Below w.heap.size w W0 := by rw [← hW0]; exact (Below.refl _ w).alloc (Nat.le_refl _) _
  have hxW0 := Hx.out.below hB0
  have hBs0 := (hB0.cell (p := ⟨Bs, 0, none⟩) (World.block_lt_of_cell? w _ HBs.out)).trans HBs.out
  have hlt := World.block_lt_of_cell? w _ HBs.out
  rw [hW0]
  clear hW0
  have hS : ∀ k, k < w.heap.size → k < W0.heap.size := fun k hk => by omega
  refine wpIn_rangeFunc_ownH (F := Fence.wide) (n := 3) rfl (by omega) (gf := 37) (lb := #[.pointer (some ⟨Bs, 0, none⟩)]) rfl trivial (enters_of Try.func37 (by kernel_rfl) rfl)
    (c37_stops 2 (by omega) Bs (fun k => k < w.heap.size) A xs c hl hc
      (fun b off e h0 => by obtain ⟨b', off', e', _, hlt⟩ := Hx.out 0 h0; rw [e] at e'; cases e'; exact hlt) W0 hS hBs0 hxW0)
    (fun h k => h.trans k) (Keeps.putObj W0 hS) (Below.refl _ _) (fun _ => rfl)
    (fun pre W => (∃ v, Boxed W w.heap.size 25 v ∧ W.ownsRow (w.heap.size + 1) 30 6 v pre.length (GR.flat Side.cells pre) ∧ True) ∧ Below w.heap.size w W ∧ W0.heap.size ≤ W.heap.size) (fun _ _ _ => False)
    (OwnFrom.and (Own.from (holdsRow_own (w.heap.size + 1) w.heap.size 25 30 6 (fun pre : List Side => pre.length) (fun pre => GR.flat Side.cells pre) (fun _ _ => True)) _) (OwnFrom.and (ownFrom_below (Nat.le_refl _) (by omega)) (ownFrom_size' _ _))) (fun _ _ _ _ _ h _ _ => h.elim)
    ⟨⟨_, bx, World.ownsRow_nil _ _ _ _, trivial⟩, hB0, Nat.le_refl _⟩
    (fun x a' W => ∃ Bc, W0.heap.size ≤ Bc ∧ W.heap[Bc]? = some (.cells x.arr 30 (0, 0)) ∧ a' = { tmps := #[.slice none 0 0, .func (.func 37) #[] #[.pointer (some ⟨Bs, 0, none⟩)], .pointer (some ⟨w.heap.size, 0, none⟩), undef, .slice none 0 0, .pointer (some ⟨Bc, 0, none⟩), .func (.func 37) #[] #[.pointer (some ⟨Bs, 0, none⟩)], .agg x.arr, undef, undef, undef, undef, undef], defers := [] })
    ?hAx ?assign ?body ?done ?stop
  case hAx =>
    rintro x a' _ X Y row ⟨Bc, h1, h2, h3⟩ hg hrow
    refine ⟨Bc, h1, (hg.block Bc (Array.getElem?_eq_some_iff.1 h2).1 (fun e' => ?_)).trans h2, h3⟩
    obtain ⟨_, o, ho, hc⟩ := hrow Bc e'.symm
    rw [h2] at ho; cases ho; cases hc
  case assign =>
    rintro l pre x W K ⟨⟨v, i1, i2, -⟩, hB, hz⟩ hK
    have HK := Lib.hid hK
    have I1 := Lib.hid i1
    have I2 := Lib.hid i2
    have HB := Lib.hid hB
    clear hK i1 i2 hB hxW0 bx hB0 hS
    unfold encV at *
    obtain ⟨s0, s1, s2, s3, s4, s5⟩ := x
    unfold Side.arr at *
    dsimp only at HK ⊢
    gi_wp2
    refine HK.out _ _ ((KeepsOthers.alloc _ _).from _) (Keeps.of_below ((Below.refl _ W).alloc (Nat.le_refl _) _) (fun k hk => ?_)) ⟨⟨_, I1.out.alloc _, I2.out.alloc _, trivial⟩, HB.out.alloc HB.out.size _, by simp; omega⟩ ⟨W.heap.size, hz, heap_alloc_new W _, rfl⟩
    have := HB.out.size; omega
  case body =>
    rintro l pre x a' W hl' hrr ⟨⟨v, hv, hrow, -⟩, hB, hz⟩ ⟨Bc, hBc, hblk, rfl⟩ hlt'
    have hfl : GR.flat Side.cells (pre ++ [x]) = GR.flat Side.cells pre ++ x.cells := by rw [GR.flat_append, GR.flat_single]
    have Hfl := Lib.hid hfl
    have hr : Row W Bc x := ⟨hblk⟩
    obtain ⟨m0, m1, m2, m3, m4, m5⟩ := hr.side
    have hcv := hv.cell
    have hnew : ∀ j u, (x.cells)[j]? = some u → (W.alloc (.cells x.arr 30)).cell? ((⟨W.heap.size, 0, none⟩ : Addr).add j) = some u := fun j u hu => by
      rw [GR.addr_add']
      exact GR.At.of_row (enc := Side.cells) (x := x) (heap_alloc_new W _) j u hu
    have Hnew := Lib.hid hnew
    have Hone := Lib.hid (side_one x)
    clear hfl hnew hr hblk hxW0 bx hB0 hS hrr
    obtain ⟨s0, s1, s2, s3, s4, s5⟩ := x
    unfold Side.arr at *
    unfold Side.cells at Hnew Hone
    dsimp only at m0 m1 m2 m3 m4 m5 Hnew Hone ⊢
    gi_wp2_with (gi_at_builtin; refine wpListIn_append_own _ rfl _ _ 25 rfl (w.heap.size + 1) 30 i0 _ 6 48 Try.underlying25 hi hz0 hz1 hz2 rfl (by decide) _ _ _ rfl (hrow.alloc _) ⟨W.heap.size, 0, none⟩ 1 1 [.int .i64 s0, .int .i64 s1, .int .u32 s2, .int .i64 s3, .int .i64 s4, .int .i64 s5] rfl rfl Hnew.out Hone.out (by unfold maxLen; omega) (by omega) (by simp; omega) ?_; intro v' w1' hown' hgrow _; obtain ⟨g', cap', rfl⟩ := ownsRow_succ hown'; obtain ⟨hv1, hv2, hr2, hk2, hb2⟩ := boxed_app (S := fun k => k < w.heap.size) hv (by decide) hrow (fun k hk => by omega) (by omega) (by omega) hown' hgrow; have hc1 := hv1.cell; have hf1 := hv1.frozen)
    have hsz3 := hb2.size
    refine ⟨hk2.from _, hb2, ⟨_, hv2, ?_⟩, hB.trans (hb2.below fun k hk => hk), by omega⟩
    rw [List.length_append]
    rw [Hfl.out]
    exact hr2
  case done =>
    rintro D ys W hD rfl ⟨⟨v, hv, hrow, -⟩, hB, hWs⟩ hK
    have hc := hv.cell
    have Hrow := Lib.hid hrow
    clear hrow
    gi_wp2
    have hKb := belowK_b (w := W0) (n₀ := W0.heap.size) (Nat.le_refl _) W D _ (.deferred none) (by omega) hK rfl rfl
    refine ⟨by simp, .inl ⟨_, _, rfl, run_takeDeferred hK, ?_⟩⟩
    have hown2 : (W.putObj D (.deferred none)).ownsRow (w.heap.size + 1) 30 6 v ys.length (GR.flat Side.cells ys) := GR.own_keep Hrow.out fun g hg hlg => World.putObj_heap_other (fun e => by
      subst e
      rcases Hrow.out.2 with ⟨rfl, _⟩ | ⟨g', cap', cur, rfl, _, hgb, _⟩
      · simp [Value.ownBlock] at hg
      · simp only [Value.ownBlock, Option.some.injEq] at hg
        subst hg
        rw [hgb] at hK; cases hK)
    have hown3 : (W.putObj D (.deferred none)).ownsRow w.heap.size 30 6 v ys.length (GR.flat Side.cells ys) := ⟨hown2.1, hown2.2.imp id fun ⟨g, cap, cur, h1, h2, h3⟩ => ⟨g, cap, cur, h1, by omega, h3⟩⟩
    exact ⟨_, results_tmp (t := 4) rfl _ _ _, v, rfl, hown3, hB.trans (hKb.mono (by omega))⟩
  case stop =>
    rintro D c pre W _ _ h _
    exact h.elim

/-- slices.Collect -/
theorem c35 (Bs : Nat) (A : Option Addr) (xs : List Side) (c : Nat) (w : World) (hBs : w.cell? ⟨Bs, 0, none⟩ = some (.slice A xs.length c)) (hx : MS w A xs) (hl : xs.length ≤ 1000) (hc : xs.length ≤ c) :
    Calls Try.prog 35 #[.func (.func 37) #[] #[.pointer (some ⟨Bs, 0, none⟩)]] w fun e w' => ∃ v, e = .returned v ∧ w'.ownsRow w.heap.size 30 6 v xs.length (GR.flat Side.cells xs) ∧ Below w.heap.size w w' := by
  have H := Lib.hid (c40 Bs A xs c w hBs hx hl hc)
  clear hBs hx
  go_enter Try.func35, Try.ntmps35
  go_wp2_with (go_at_call 40; refine H.out.mono ?_; rintro e w1 ⟨v, rfl, ho, hb⟩; have Ho := Lib.hid ho; have Hb := Lib.hid hb; clear ho hb)
  go_ret
  exact ⟨_, rfl, Ho.out, Hb.out⟩

end Go.Proofs.Ytffnnfdlelaonaa
