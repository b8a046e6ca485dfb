/- The walk of the law ContestMore, from what its calls give. -/
import Derived.Test.YtffnnfdlelaonaaM2
namespace Go.Proofs.Ytffnnfdlelaonaa
open Go.RowKit Go.Shelf
set_option linter.unusedVariables false

theorem Mem.cast {base : Nat} {xs : List Side} {s y : Side} {W : World} {d0 d2 d4 d5 d10 d11 b0 b2 b4 b5 b10 b11 : Bool} {v8 v19 v21 v23 v24 u21 : Value} (h : Mem base xs s y W d0 d2 d4 d5 d10 d11 v8 v19 v21 v23 v24)
    (e0 : b0 = d0) (e2 : b2 = d2) (e4 : b4 = d4) (e5 : b5 = d5) (e10 : b10 = d10) (e11 : b11 = d11) (e21 : u21 = v21) : Mem base xs s y W b0 b2 b4 b5 b10 b11 v8 v19 u21 v23 v24 := by
  subst e0 e2 e4 e5 e10 e11 e21; exact h
theorem below_row {base N : Nat} {W W' : World} (hg : W.grownBy W' (some N)) (hN : base ≤ N) (hs : base ≤ W.heap.size) : Below base W W' :=
  ⟨hg.os, hg.tape, hg.output, hg.size, fun k hk => hg.block k (by omega) (by simp; omega)⟩
theorem row_sides {W : World} {M : Nat} {s : Side} (h : Row W M s) : Sides W (some ⟨M, 0, none⟩) [s] := fun j hj => by
  obtain rfl : j = 0 := by simp at hj; omega
  exact ⟨M, 0, rfl, h.side⟩
/-- what holds between the operations of More's statement that draws its order -/
def MoreInv (W0 : World) (A : Option Addr) (n c B3 : Nat) (xs : List Side) (s y : Side) (f : Int) (v1 v2 v4 v5 v6 v7 v10 v11 v12 v13 v14 v15 v16 v17 : Value) (done : Nat → Bool) (a : Act) (W : World) : Prop :=
  ∃ v8 v9 v18 v19 v20 v21 v22 v23 v24 v25 v26 v27 : Value, a = { tmps := #[.slice A n c, v1, v2, .pointer (some ⟨B3, 0, none⟩), v4, v5, v6, v7, v8, v9, v10, v11, v12, v13, v14, v15, v16, v17, v18, v19, v20, v21, v22, v23, v24, v25, v26, v27, undef, undef, undef, undef, undef, undef, undef, undef, undef, undef, undef, undef, undef, undef, undef, undef, undef, undef, undef, undef, undef, undef, undef, undef, undef, undef, undef, undef, undef, undef, undef, undef, undef], defers := [] } ∧ Below W0.heap.size W0 W ∧
    Mem W0.heap.size xs s y W (done 0) (done 2) (done 4) (done 5) (done 10) (done 11) v8 v19 v21 v23 v24 ∧
    (done 1 = true → v20 = .slice A n c) ∧ (done 3 = true → v22 = .agg s.arr) ∧ (done 6 = true → v25 = .tuple #[.agg y.arr, .int .i64 f]) ∧ (done 7 = true → v18 = .tuple #[.agg y.arr, .int .i64 f]) ∧ (done 8 = true → v26 = .agg y.arr) ∧ (done 9 = true → v27 = .int .i64 f) ∧ (done 12 = true → v9 = .int .i64 f)

set_option maxRecDepth 100000 in
set_option maxHeartbeats 2000000 in
theorem more_step (A : Option Addr) (xs0 xs : List Side) (c : Nat) (s a y : Side) (e f : Int) (w : World) (hx0 : Sides w A xs) (hxs : xs.length = min xs0.length 60) (hc : xs0.length ≤ c) (hAc : A = none → c = 0) (hl : xs0.length ≤ 17592186044416)
    (h15 : ∀ W, Sides W A xs → Calls Try.prog 15 #[.slice A xs.length c] W fun r W' => r = .returned (.tuple #[.agg a.arr, .int .i64 e]) ∧ Below W.heap.size W W')
    (h15' : ∀ W g cap, Sides W (some ⟨g, 0, none⟩) (xs ++ [s]) → Calls Try.prog 15 #[.slice (some ⟨g, 0, none⟩) (xs.length + 1) cap] W fun r W' => r = .returned (.tuple #[.agg y.arr, .int .i64 f]) ∧ Below W.heap.size W W')
    (hcase : e = 110 ∨ (e = 0 ∧ f = 110) ∨ (e = 0 ∧ f = 0 ∧ (y = s ∨ (y = a ∧ (s.style = 1 → a.style = 1))))) :
    Calls Try.prog 4 #[.slice A xs0.length c, .agg s.arr] w fun r w' => r = .returned (.bool true) ∧ Below w.heap.size w w' := by
  have H15 := Lib.hid h15
  have H15' := Lib.hid h15'
  have hB0 : Below w.heap.size w (w.alloc (.cells s.arr 30)) := (Below.refl _ w).alloc (Nat.le_refl _) _
  have HB0 := Lib.hid hB0
  have Hx := Lib.hid hx0
  have Hxs := Lib.hid hxs
  have hR := Lib.hid (Row.new w s)
  clear h15 h15' hB0 hx0 hxs
  go_enter Try.func4, Try.ntmps4
  go_wp2_with (fail)
  refine (c11 _).mono ?_
  rintro r w1 ⟨rfl, hb1⟩
  have hB1 := HB0.out.trans (hb1.mono HB0.out.size)
  have R1 := hR.out.turn hb1
  have HR1 := Lib.hid R1
  have HB1 := Lib.hid hB1
  clear hb1 R1 hB1
  go_wp2_with (fail)
  refine (c14 _ _ _ _ hc hl).mono ?_
  rintro r w2 ⟨m, ⟨hm, rfl⟩, rfl⟩
  obtain rfl : m = xs.length := by rw [hm]; exact Hxs.out.symm
  clear hm
  go_wp2_with (fail)
  refine (H15.out _ (Hx.out.below HB1.out)).mono ?_
  rintro r w2 ⟨rfl, hb2⟩
  have hB2 := HB1.out.trans (hb2.mono HB1.out.size)
  have R2 := HR1.out.turn hb2
  have HR2 := Lib.hid R2
  have HB2 := Lib.hid hB2
  clear hb2 R2 hB2
  unfold Side.arr
  go_wp2_with (fail)
  obtain ⟨W0, hW0⟩ : ∃ W0, w2.alloc (.cells #[.int .i64 a.style, .int .i64 a.width, .int .u32 a.color, .int .i64 a.by_, .int .i64 a.row, .int .i64 a.col] 30) = W0 := ⟨_, rfl⟩
  have hs0 : W0.heap.size = w2.heap.size + 1 := by rw [← hW0]; simp
  have hb0 : Below w2.heap.size w2 W0 := by rw [← hW0]; exact (Below.refl _ w2).alloc (Nat.le_refl _) _
  have hBw : Below w.heap.size w W0 := HB2.out.trans (hb0.mono HB2.out.size)
  have r3 : Row W0 w.heap.size s := HR2.out.turn hb0
  have r6 : Row W0 w2.heap.size a := by rw [← hW0]; exact Row.new w2 a
  have hxW : Sides W0 A xs := Hx.out.below hBw
  rw [hW0]
  have Hr3 := Lib.hid r3
  have Hr6 := Lib.hid r6
  have HxW := Lib.hid hxW
  have HBw := Lib.hid hBw
  clear hW0 r3 r6 hxW hBw hb0 HR1 HR2 HB1 HB2 hR HB0
  refine wp_region_done2 (by kernel_rfl) (by kernel_rfl) (MoreInv W0 A xs.length c w.heap.size xs s y f (.agg s.arr) undef (.bool false) (.bool true) (.pointer (some ⟨w2.heap.size, 0, none⟩)) (.int .i64 e) (.bool true) (.slice A xs0.length c) (.slice A xs.length c) (.tuple #[.agg a.arr, .int .i64 e]) (.slice A xs.length c) (.tuple #[.agg a.arr, .int .i64 e]) (.agg a.arr) (.int .i64 e)) ?_ ?_ ?_
  · refine ⟨_, _, _, _, _, _, _, _, _, _, _, _, rfl, (Dr.refl W0).step1.below _, ⟨Nat.le_refl _, fun h => by simp at h, fun h => by simp at h, fun h => by simp at h, fun h => by simp at h, fun h => by simp at h, fun h => by simp at h⟩, fun h => by simp at h, fun h => by simp at h, fun h => by simp at h, fun h => by simp at h, fun h => by simp at h, fun h => by simp at h, fun h => by simp at h⟩
  · rintro done i o aa X ho hd he ⟨v8, v9, v18, v19, v20, v21, v22, v23, v24, v25, v26, v27, rfl, hB, hM, i1, i3, i6, i7, i8, i9, i12⟩ K hK
    have Hd := Lib.hid he
    clear he
    have l3 := Hr3.out.lt
    rcases i with _ | _ | _ | _ | _ | _ | _ | _ | _ | _ | _ | _ | _ | i
    rotate_left 13
    · exact absurd (Array.getElem?_eq_some_iff.1 ho).1 (by simp)
    · obtain rfl := Option.some.inj ho
      refine wpOp_plain ho rfl ?_
      rw [hd] at hM
      refine wp_make W0.heap.size _ _ rfl rfl rfl hM.le ?_
      intro W1 hown hg
      have hb := below_grown hg
      have hs : X.heap.size < W1.heap.size := (own_block hown (g := X.heap.size) rfl).2
      refine hK _ _ ?_
      exact ⟨v8, v9, v18, _, v20, v21, v22, v23, v24, v25, v26, v27, rfl, hB.trans (hb.mono hB.size), hM.make hb hs hown, fun h => i1 h, fun h => i3 h, fun h => i6 h, fun h => i7 h, fun h => i8 h, fun h => i9 h, fun h => i12 h⟩
    · obtain rfl := Option.some.inj ho
      refine wpOp_plain ho rfl ?_
      clear ho hd
      go_wp2
      exact ⟨v8, v9, v18, v19, _, v21, v22, v23, v24, v25, v26, v27, rfl, hB, hM, fun _ => rfl, fun h => i3 h, fun h => i6 h, fun h => i7 h, fun h => i8 h, fun h => i9 h, fun h => i12 h⟩
    · obtain rfl := Option.some.inj ho
      obtain rfl := i1 (Hd.out ⟨1, .data⟩ (by simp) rfl)
      have d0 := (Hd.out ⟨0, .data⟩ (by simp) rfl)
      rw [hd, d0] at hM
      obtain ⟨N, rfl, g2, _, _, g5, _, _, g8, _, _⟩ := hM.row rfl
      refine wpOp_plain ho rfl ?_
      cases hA : A with
      | none =>
        subst hA
        have hx0 : xs = [] := by
          cases xs with
          | nil => rfl
          | cons x l => obtain ⟨_, _, e, _⟩ := HxW.out 0 (by simp); cases e
        obtain rfl := hAc rfl
        subst hx0
        refine wp_append_none W0.heap.size _ _ rfl _ 0 [] rfl (g5 rfl) rfl ?_
        refine hK _ _ ?_
        exact ⟨v8, v9, v18, _, _, _, v22, v23, v24, v25, v26, v27, rfl, hB, ((hM.first ⟨rfl, rfl, rfl, Nat.le_refl _, fun _ _ _ => rfl⟩ (g5 rfl)).cast d0 rfl rfl rfl rfl rfl rfl), fun _ => rfl, fun h => i3 h, fun h => i6 h, fun h => i7 h, fun h => i8 h, fun h => i9 h, fun h => i12 h⟩
      | some ad =>
        subst hA
        refine wp_append_fits W0.heap.size _ _ rfl N 0 [] rfl (g5 rfl) ad c xs rfl (HxW.out.below hB) (by have := Hxs.out; omega) ?_
        intro W1 hown hg
        rw [Nat.zero_add, List.nil_append] at hown
        refine hK _ _ ?_
        exact ⟨v8, v9, v18, _, _, _, v22, v23, v24, v25, v26, v27, rfl, hB.trans (below_row hg g2 hB.size), ((hM.first hg hown).cast d0 rfl rfl rfl rfl rfl (congrArg (fun k => Value.slice (some ⟨N, 0, none⟩) k 61) (Nat.zero_add _))), fun _ => rfl, fun h => i3 h, fun h => i6 h, fun h => i7 h, fun h => i8 h, fun h => i9 h, fun h => i12 h⟩
    · obtain rfl := Option.some.inj ho
      obtain ⟨q0, q1, q2, q3, q4, q5⟩ := (Hr3.out.turn hB).side
      refine wpOp_plain ho rfl ?_
      clear ho hd
      go_wp2
      exact ⟨v8, v9, v18, v19, v20, v21, _, v23, v24, v25, v26, v27, rfl, hB, hM, fun h => i1 h, fun _ => rfl, fun h => i6 h, fun h => i7 h, fun h => i8 h, fun h => i9 h, fun h => i12 h⟩
    · obtain rfl := Option.some.inj ho
      obtain rfl := i3 (Hd.out ⟨3, .data⟩ (by simp) rfl)
      rw [hd] at hM
      refine wpOp_plain ho rfl ?_
      clear ho hd
      unfold Side.arr
      go_wp2
      exact ⟨v8, v9, v18, v19, v20, v21, _, _, v24, v25, v26, v27, rfl, hB.alloc hB.size _, hM.lay, fun h => i1 h, fun _ => rfl, fun h => i6 h, fun h => i7 h, fun h => i8 h, fun h => i9 h, fun h => i12 h⟩
    · obtain rfl := Option.some.inj ho
      have d2 := (Hd.out ⟨2, .data⟩ (by simp) rfl)
      have d4 := (Hd.out ⟨4, .data⟩ (by simp) rfl)
      have d0 := hM.o20 d2
      rw [hd, d0, d2, d4] at hM
      obtain ⟨N, rfl, g2, g3, _, _, g6, _, g8, _, _⟩ := hM.row rfl
      obtain rfl := g3 rfl
      obtain ⟨M, rfl, h2, h3, h4⟩ := hM.one rfl
      refine wpOp_plain ho rfl ?_
      refine wp_append_fits W0.heap.size _ _ rfl N xs.length xs rfl (g6 rfl rfl) ⟨M, 0, none⟩ 1 [s] rfl (row_sides h3) (by have := Hxs.out; simp; omega) ?_
      intro W1 hown hg
      refine hK _ _ ?_
      exact ⟨v8, v9, v18, _, v20, _, v22, _, _, v25, v26, v27, rfl, hB.trans (below_row hg g2 hB.size), ((hM.last hg hown).cast d0 d2 d4 rfl rfl rfl rfl), fun h => i1 h, fun h => i3 h, fun h => i6 h, fun h => i7 h, fun h => i8 h, fun h => i9 h, fun h => i12 h⟩
    · obtain rfl := Option.some.inj ho
      have d5 := (Hd.out ⟨5, .data⟩ (by simp) rfl)
      have d2 := hM.o52 d5
      have d0 := hM.o20 d2
      obtain ⟨N, e1, g2, g3, g4, _, _, g7, g8, _, _⟩ := hM.row d0
      obtain rfl := g4 d5
      obtain ⟨g, cap, e2, hsd⟩ := own_sides (g7 d5) (by simp) (by omega)
      simp only [Value.slice.injEq, Option.some.injEq, Addr.mk.injEq, and_true, true_and] at e2
      obtain ⟨rfl, rfl⟩ := e2
      have Hc := Lib.hid (H15'.out X N 61 hsd)
      have HM := Lib.hid hM
      refine wpOp_plain ho rfl ?_
      clear ho hd d5 d2 d0 e1 g2 g3 g4 g7 g8 hsd hM
      go_wp2_with (go_at_call 15; refine Hc.out.mono ?_; rintro r W1 ⟨rfl, hb⟩)
      exact ⟨v8, v9, v18, v19, v20, v21, v22, v23, _, _, v26, v27, rfl, hB.trans (hb.mono hB.size), HM.out.turn hb, fun h => i1 h, fun h => i3 h, fun _ => rfl, fun h => i7 h, fun h => i8 h, fun h => i9 h, fun h => i12 h⟩
    · obtain rfl := Option.some.inj ho
      obtain rfl := i6 (Hd.out ⟨6, .data⟩ (by simp) rfl)
      refine wpOp_plain ho rfl ?_
      clear ho hd
      go_wp2
      exact ⟨v8, v9, _, v19, v20, v21, v22, v23, v24, _, v26, v27, rfl, hB, hM, fun h => i1 h, fun h => i3 h, fun _ => rfl, fun _ => rfl, fun h => i8 h, fun h => i9 h, fun h => i12 h⟩
    · obtain rfl := Option.some.inj ho
      obtain rfl := i7 (Hd.out ⟨7, .data⟩ (by simp) rfl)
      refine wpOp_plain ho rfl ?_
      clear ho hd
      go_wp2
      exact ⟨v8, v9, _, v19, v20, v21, v22, v23, v24, v25, _, v27, rfl, hB, hM, fun h => i1 h, fun h => i3 h, fun h => i6 h, fun _ => rfl, fun _ => rfl, fun h => i9 h, fun h => i12 h⟩
    · obtain rfl := Option.some.inj ho
      obtain rfl := i7 (Hd.out ⟨7, .data⟩ (by simp) rfl)
      refine wpOp_plain ho rfl ?_
      clear ho hd
      go_wp2
      exact ⟨v8, v9, _, v19, v20, v21, v22, v23, v24, v25, v26, _, rfl, hB, hM, fun h => i1 h, fun h => i3 h, fun h => i6 h, fun _ => rfl, fun h => i8 h, fun _ => rfl, fun h => i12 h⟩
    · obtain rfl := Option.some.inj ho
      rw [hd] at hM
      refine wpOp_plain ho rfl ?_
      clear ho hd
      go_wp2
      exact ⟨_, v9, v18, v19, v20, v21, v22, v23, v24, v25, v26, v27, rfl, hB.alloc hB.size _, hM.boxed, fun h => i1 h, fun h => i3 h, fun h => i6 h, fun h => i7 h, fun h => i8 h, fun h => i9 h, fun h => i12 h⟩
    · obtain rfl := Option.some.inj ho
      obtain rfl := i8 (Hd.out ⟨8, .data⟩ (by simp) rfl)
      have d10 := (Hd.out ⟨10, .data⟩ (by simp) rfl)
      rw [hd, d10] at hM
      obtain ⟨B, rfl, g2, g3⟩ := hM.box rfl
      refine wpOp_plain ho rfl ?_
      refine wp_store_row 30 _ _ rfl B _ rfl rfl 30 _ g3.at_ (by kernel_rfl) rfl (by simp [Value.oneCell', Side.arr]) ?_
      refine hK _ _ ?_
      exact ⟨_, v9, v18, v19, v20, v21, v22, v23, v24, v25, _, v27, rfl, hB.trans (below_setRow hB.size g2), (hM.put.cast rfl rfl rfl rfl d10 rfl rfl), fun h => i1 h, fun h => i3 h, fun h => i6 h, fun h => i7 h, fun _ => rfl, fun h => i9 h, fun h => i12 h⟩
    · obtain rfl := Option.some.inj ho
      obtain rfl := i9 (Hd.out ⟨9, .data⟩ (by simp) rfl)
      refine wpOp_plain ho rfl ?_
      clear ho hd
      go_wp2
      exact ⟨v8, _, v18, v19, v20, v21, v22, v23, v24, v25, v26, _, rfl, hB, hM, fun h => i1 h, fun h => i3 h, fun h => i6 h, fun h => i7 h, fun h => i8 h, fun _ => rfl, fun _ => rfl⟩
  · rintro done aa X hall ⟨v8, v9, v18, v19, v20, v21, v22, v23, v24, v25, v26, v27, rfl, hB, hM, i1, i3, i6, i7, i8, i9, i12⟩
    obtain ⟨B, e8, g2, g3⟩ := hM.box (hall 10 (by simp))
    obtain rfl := e8
    rw [if_pos (hall 11 (by simp))] at g3
    obtain rfl := i1 (hall 1 (by simp))
    obtain rfl := i3 (hall 3 (by simp))
    obtain rfl := i6 (hall 6 (by simp))
    obtain rfl := i7 (hall 7 (by simp))
    obtain rfl := i8 (hall 8 (by simp))
    obtain rfl := i9 (hall 9 (by simp))
    obtain rfl := i12 (hall 12 (by simp))
    clear i1 i3 i6 i7 i8 i9 i12 hall hM
    have r3 := Hr3.out.turn hB
    have r6 := Hr6.out.turn hB
    obtain ⟨p0, p1, p2, p3, p4, p5⟩ := r3.side
    obtain ⟨q0, q1, q2, q3, q4, q5⟩ := r6.side
    obtain ⟨z0, z1, z2, z3, z4, z5⟩ := g3.side
    have HX := Lib.hid (HBw.out.trans (hB.mono HBw.out.size))
    clear r3 r6 g3
    unfold Side.arr
    rcases hcase with rfl | ⟨rfl, rfl⟩ | ⟨rfl, rfl, rfl | ⟨rfl, hst⟩⟩
    · go_wp2
      all_goals go_ret
      all_goals exact ⟨rfl, HX.out⟩
    · go_wp2
      all_goals go_ret
      all_goals exact ⟨rfl, HX.out⟩
    · by_cases k1 : y.style = 1
      · have t1 : (y.style == 1) = true := by rw [beq_iff_eq]; exact k1
        by_cases k2 : a.style = 1
        · have t2 : (a.style != 1) = false := by rw [bne_eq_false_iff_eq]; exact k2
          have t3 : (a.style == 1) = true := by rw [beq_iff_eq]; exact k2
          clear k1 k2
          go_wp2
          all_goals go_ret
          all_goals exact ⟨rfl, HX.out⟩
        · have t2 : (a.style != 1) = true := by rw [bne_iff_ne]; exact k2
          have t3 : (a.style == 1) = false := by rw [beq_eq_false_iff_ne]; exact k2
          clear k1 k2
          go_wp2
          all_goals go_ret
          all_goals exact ⟨rfl, HX.out⟩
      · have t1 : (y.style == 1) = false := by rw [beq_eq_false_iff_ne]; exact k1
        clear k1
        go_wp2
        all_goals go_ret
        all_goals exact ⟨rfl, HX.out⟩
    · by_cases k1 : s.style = 1
      · have t1 : (s.style == 1) = true := by rw [beq_iff_eq]; exact k1
        have k2 := hst k1
        have t2 : (y.style != 1) = false := by rw [bne_eq_false_iff_eq]; exact k2
        have t3 : (y.style == 1) = true := by rw [beq_iff_eq]; exact k2
        clear k1 k2 hst
        go_wp2
        all_goals go_ret
        all_goals exact ⟨rfl, HX.out⟩
      · have t1 : (s.style == 1) = false := by rw [beq_eq_false_iff_ne]; exact k1
        clear k1 hst
        go_wp2
        all_goals go_ret
        all_goals exact ⟨rfl, HX.out⟩

end Go.Proofs.Ytffnnfdlelaonaa
