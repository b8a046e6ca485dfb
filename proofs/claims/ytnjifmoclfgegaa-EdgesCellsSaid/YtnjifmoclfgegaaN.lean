/- The walk of the law EdgesCells by the contracts. -/
import Derived.Test.YtnjifmoclfgegaaL
import Derived.Test.YtnjifmoclfgegaaM
namespace Go.Proofs.Ytnjifmoclfgegaa
open Go.RowKit Go.Shelf
set_option linter.unusedVariables false

theorem c22 (A Ac Ar : Option Addr) (ps : List Place) (c : Nat) (cols rows : List Int) (cc cr : Nat) (g0 g1 : Int) (w : World) (hp : Places w A ps) (hlp : ps.length ≤ 1000) (hc : Ints w Ac cols) (hr : Ints w Ar rows) (lc : cols.length ≤ 17592186044416) (lr : rows.length ≤ 17592186044416) :
    Calls Try.prog 22 #[.slice A ps.length c, .slice Ac cols.length cc, .slice Ar rows.length cr, .agg #[.int .i64 g0, .int .i64 g1]] w (CellsGive (rsC cols rows g0 g1 ps) (erC cols rows g0 g1 ps) w) := by
  by_cases hw : right cols g0 = false ∨ right rows g1 = false
  · exact (c22_wrong A Ac Ar ps.length c cols rows cc cr g0 g1 w hc hr lc lr hw).mono fun e w' ⟨h1, h2⟩ => give_wrong hw h1 h2
  · have h1 : right cols g0 = true := by cases h : right cols g0 with
      | true => rfl
      | false => exact absurd (.inl h) hw
    have h2 : right rows g1 = true := by cases h : right rows g1 with
      | true => rfl
      | false => exact absurd (.inr h) hw
    exact (c22_right A Ac Ar ps c cols rows cc cr g0 g1 w hp hlp hc hr h1 h2).mono fun e w' h => give_of h1 h2 h

inductive Law1 (W0 : World) (Ap Ac Ar : Option Addr) (np cp nc0 nc cc nr0 nr cr B7 : Nat) (g0 g1 : Int) (rs : List Rect) (er : Int) (done : Nat → Bool) : Act → World → Prop
  | mk {W : World} (v10 v11 v20 v21 v22 v23 v24 v25 v26 v27 v28 v29 f3 f4 f5 f6 f8 f12 f13 f14 f15 f16 f17 f18 f19 f30 f31 f32 f33 f34 f35 f36 f37 f38 f39 f40 f41 f42 f43 f44 f45 f46 f47 f48 f49 f50 : Value) (hB : Below W0.heap.size W0 W) (i0 : done 0 = true → v21 = .slice Ap np cp) (i1 : done 1 = true → v22 = .slice Ac nc0 cc) (i2 : done 2 = true → v23 = .slice Ac nc cc) (i3 : done 3 = true → v24 = .slice Ar nr0 cr) (i4 : done 4 = true → v25 = .slice Ar nr cr) (i5 : done 5 = true → v26 = .agg #[.int .i64 g0, .int .i64 g1]) (i9 : done 9 = true → v29 = .int .i64 er) (i11 : done 11 = true → v11 = .int .i64 er) (q6 : done 6 = true → ∃ A' c', v27 = .tuple #[.slice A' rs.length c', .int .i64 er] ∧ Rects W A' rs) (q7 : done 7 = true → ∃ A' c', v20 = .tuple #[.slice A' rs.length c', .int .i64 er] ∧ Rects W A' rs) (q8 : done 8 = true → ∃ A' c', v28 = .slice A' rs.length c' ∧ Rects W A' rs) (q10 : done 10 = true → ∃ A' c', v10 = .slice A' rs.length c' ∧ Rects W A' rs) : Law1 W0 Ap Ac Ar np cp nc0 nc cc nr0 nr cr B7 g0 g1 rs er done { tmps := #[.slice Ap np cp, .slice Ac nc0 cc, .slice Ar nr0 cr, f3, f4, f5, f6, .pointer (some ⟨B7, 0, none⟩), f8, .bool true, v10, v11, f12, f13, f14, f15, f16, f17, f18, f19, v20, v21, v22, v23, v24, v25, v26, v27, v28, v29, f30, f31, f32, f33, f34, f35, f36, f37, f38, f39, f40, f41, f42, f43, f44, f45, f46, f47, f48, f49, f50], defers := [] } W

inductive Law2 (W0 : World) (Ap Ac Ar : Option Addr) (np cp nc0 nc cc nr0 nr cr B7 : Nat) (g0 g1 : Int) (rs : List Rect) (er : Int) (A1 : Option Addr) (c1 : Nat) (done : Nat → Bool) : Act → World → Prop
  | mk {W : World} (v12 v13 v30 v31 v32 v33 v34 v35 v36 v37 v38 v39 f3 f4 f5 f6 f8 f14 f15 f16 f17 f18 f19 f20 f21 f22 f23 f24 f25 f26 f27 f28 f29 f40 f41 f42 f43 f44 f45 f46 f47 f48 f49 f50 : Value) (hB : Below W0.heap.size W0 W) (i0 : done 0 = true → v31 = .slice Ap np cp) (i1 : done 1 = true → v32 = .slice Ac nc0 cc) (i2 : done 2 = true → v33 = .slice Ac nc cc) (i3 : done 3 = true → v34 = .slice Ar nr0 cr) (i4 : done 4 = true → v35 = .slice Ar nr cr) (i5 : done 5 = true → v36 = .agg #[.int .i64 g0, .int .i64 g1]) (i9 : done 9 = true → v39 = .int .i64 er) (i11 : done 11 = true → v13 = .int .i64 er) (q6 : done 6 = true → ∃ A' c', v37 = .tuple #[.slice A' rs.length c', .int .i64 er] ∧ Rects W A' rs) (q7 : done 7 = true → ∃ A' c', v30 = .tuple #[.slice A' rs.length c', .int .i64 er] ∧ Rects W A' rs) (q8 : done 8 = true → ∃ A' c', v38 = .slice A' rs.length c' ∧ Rects W A' rs) (q10 : done 10 = true → ∃ A' c', v12 = .slice A' rs.length c' ∧ Rects W A' rs) : Law2 W0 Ap Ac Ar np cp nc0 nc cc nr0 nr cr B7 g0 g1 rs er A1 c1 done { tmps := #[.slice Ap np cp, .slice Ac nc0 cc, .slice Ar nr0 cr, f3, f4, f5, f6, .pointer (some ⟨B7, 0, none⟩), f8, .bool true, .slice A1 rs.length c1, .int .i64 er, v12, v13, f14, f15, f16, f17, f18, f19, f20, f21, f22, f23, f24, f25, f26, f27, f28, f29, v30, v31, v32, v33, v34, v35, v36, v37, v38, v39, f40, f41, f42, f43, f44, f45, f46, f47, f48, f49, f50], defers := [] } W


set_option maxRecDepth 100000 in
set_option maxHeartbeats 4000000 in
theorem cells_low (A Ac Ar : Option Addr) (n0 c : Nat) (h60 : n0 ≤ 60) (cols0 cols rows0 rows : List Int) (cc cr : Nat) (g0 g1 : Int) (rs : List Rect) (er : Int) (w : World) (hcp : n0 ≤ c) (hlp0 : n0 ≤ 17592186044416)
    (hlc : cols.length = min cols0.length 100) (hcc : cols0.length ≤ cc) (hlc0 : cols0.length ≤ 17592186044416) (hlr : rows.length = min rows0.length 100) (hcr : rows0.length ≤ cr) (hlr0 : rows0.length ≤ 17592186044416) (hrs : rs.length ≤ 17592186044416)
    (h21 : ∀ W, Below w.heap.size w W → Calls Try.prog 21 #[.slice A n0 c, .slice Ac cols.length cc, .slice Ar rows.length cr, .agg #[.int .i64 g0, .int .i64 g1]] W (CellsGive rs er W))
    (h22 : ∀ W, Below w.heap.size w W → Calls Try.prog 22 #[.slice A n0 c, .slice Ac cols.length cc, .slice Ar rows.length cr, .agg #[.int .i64 g0, .int .i64 g1]] W (CellsGive rs er W)) :
    Calls Try.prog 6 #[.slice A n0 c, .slice Ac cols0.length cc, .slice Ar rows0.length cr, .agg #[.int .i64 g0, .int .i64 g1]] w fun e w' => e = .returned (.bool true) ∧ Below w.heap.size w w' := by
  have Cells := Lib.hid h21
  have Cells2 := Lib.hid h22
  have Cutc := Lib.hid (fun W => c11 Ac cols0.length cc W hcc hlc0)
  have Cutr := Lib.hid (fun W => c11 Ar rows0.length cr W hcr hlr0)
  have Lenc := Lib.hid hlc
  have Lenr := Lib.hid hlr
  have HB0 : Hid (Below w.heap.size w (w.alloc (.cells #[.int .i64 g0, .int .i64 g1] 38))) := Lib.hid ((Below.refl _ w).alloc (Nat.le_refl _) _)
  have r7 := heap_alloc_new w (.cells #[.int .i64 g0, .int .i64 g1] 38)
  have lb7 : w.heap.size < (w.alloc (.cells #[.int .i64 g0, .int .i64 g1] 38)).heap.size := by simp
  have G0 : Hid ((w.alloc (.cells #[.int .i64 g0, .int .i64 g1] 38)).cell? ⟨w.heap.size, 0, none⟩ = some (.int .i64 g0)) := Lib.hid (by rw [World.cell?, r7]; rfl)
  have G1 : Hid ((w.alloc (.cells #[.int .i64 g0, .int .i64 g1] 38)).cell? ⟨w.heap.size, 1, none⟩ = some (.int .i64 g1)) := Lib.hid (by rw [World.cell?, r7]; rfl)
  clear h21 h22 hlc hlr r7
  go_enter Try.func6, Try.ntmps6
  go_wp2_with (fail)
  refine (c10 _).mono ?_
  rintro e w1 ⟨rfl, hb1⟩
  have le0 := hb1.size
  have HB7 := Lib.hid hb1
  have HBw := Lib.hid (HB0.out.trans (hb1.mono HB0.out.size))
  clear hb1
  go_wp2_with (fail)
  refine wp_region_done2 (by kernel_rfl) (by kernel_rfl) (Law1 w1 A Ac Ar n0 c cols0.length cols.length cc rows0.length rows.length cr w.heap.size g0 g1 rs er) ?_ ?_ ?_
  · exact ⟨_, _, _, _, _, _, _, _, _, _, _, _, _, _, _, _, _, _, _, _, _, _, _, _, _, _, _, _, _, _, _, _, _, _, _, _, _, _, _, _, _, _, _, _, _, _, (Dr.refl w1).step1.below _, fun h => by simp at h, fun h => by simp at h, fun h => by simp at h, fun h => by simp at h, fun h => by simp at h, fun h => by simp at h, fun h => by simp at h, fun h => by simp at h, fun h => by simp at h, fun h => by simp at h, fun h => by simp at h, fun h => by simp at h⟩
  · rintro done i o a X ho hd he ⟨v10, v11, v20, v21, v22, v23, v24, v25, v26, v27, v28, v29, f3, f4, f5, f6, f8, f12, f13, f14, f15, f16, f17, f18, f19, f30, f31, f32, f33, f34, f35, f36, f37, f38, f39, f40, f41, f42, f43, f44, f45, f46, f47, f48, f49, f50, hB, i0, i1, i2, i3, i4, i5, i9, i11, q6, q7, q8, q10⟩ K hK
    have Hd := Lib.hid he
    clear he
    rcases i with _ | _ | _ | _ | _ | _ | _ | _ | _ | _ | _ | _ | i
    rotate_left 12
    · exact absurd (Array.getElem?_eq_some_iff.1 ho).1 (by simp)
    · obtain rfl := Option.some.inj ho
      refine wpOp_plain ho rfl ?_
      clear ho hd
      go_wp2
      exact ⟨v10, v11, v20, _, v22, v23, v24, v25, v26, v27, v28, v29, _, _, _, _, _, _, _, _, _, _, _, _, _, _, _, _, _, _, _, _, _, _, _, _, _, _, _, _, _, _, _, _, _, _, hB, fun _ => rfl, fun h => i1 h, fun h => i2 h, fun h => i3 h, fun h => i4 h, fun h => i5 h, fun h => i9 h, fun h => i11 h, fun h => q6 h, fun h => q7 h, fun h => q8 h, fun h => q10 h⟩
    · obtain rfl := Option.some.inj ho
      refine wpOp_plain ho rfl ?_
      clear ho hd
      go_wp2
      exact ⟨v10, v11, v20, v21, _, v23, v24, v25, v26, v27, v28, v29, _, _, _, _, _, _, _, _, _, _, _, _, _, _, _, _, _, _, _, _, _, _, _, _, _, _, _, _, _, _, _, _, _, _, hB, fun h => i0 h, fun _ => rfl, fun h => i2 h, fun h => i3 h, fun h => i4 h, fun h => i5 h, fun h => i9 h, fun h => i11 h, fun h => q6 h, fun h => q7 h, fun h => q8 h, fun h => q10 h⟩
    · obtain rfl := Option.some.inj ho
      obtain rfl := i1 (Hd.out ⟨1, .data⟩ (by simp) rfl)
      refine wpOp_plain ho rfl ?_
      clear ho hd
      go_wp2_with (go_at_call 11; refine (Cutc.out X).mono ?_; rintro e W1 ⟨m, ⟨hm, rfl⟩, rfl⟩; obtain rfl : m = cols.length := (by rw [hm]; exact Lenc.out.symm); clear hm)
      exact ⟨v10, v11, v20, v21, _, _, v24, v25, v26, v27, v28, v29, _, _, _, _, _, _, _, _, _, _, _, _, _, _, _, _, _, _, _, _, _, _, _, _, _, _, _, _, _, _, _, _, _, _, hB, fun h => i0 h, fun _ => rfl, fun _ => rfl, fun h => i3 h, fun h => i4 h, fun h => i5 h, fun h => i9 h, fun h => i11 h, fun h => q6 h, fun h => q7 h, fun h => q8 h, fun h => q10 h⟩
    · obtain rfl := Option.some.inj ho
      refine wpOp_plain ho rfl ?_
      clear ho hd
      go_wp2
      exact ⟨v10, v11, v20, v21, v22, v23, _, v25, v26, v27, v28, v29, _, _, _, _, _, _, _, _, _, _, _, _, _, _, _, _, _, _, _, _, _, _, _, _, _, _, _, _, _, _, _, _, _, _, hB, fun h => i0 h, fun h => i1 h, fun h => i2 h, fun _ => rfl, fun h => i4 h, fun h => i5 h, fun h => i9 h, fun h => i11 h, fun h => q6 h, fun h => q7 h, fun h => q8 h, fun h => q10 h⟩
    · obtain rfl := Option.some.inj ho
      obtain rfl := i3 (Hd.out ⟨3, .data⟩ (by simp) rfl)
      refine wpOp_plain ho rfl ?_
      clear ho hd
      go_wp2_with (go_at_call 11; refine (Cutr.out X).mono ?_; rintro e W1 ⟨m, ⟨hm, rfl⟩, rfl⟩; obtain rfl : m = rows.length := (by rw [hm]; exact Lenr.out.symm); clear hm)
      exact ⟨v10, v11, v20, v21, v22, v23, _, _, v26, v27, v28, v29, _, _, _, _, _, _, _, _, _, _, _, _, _, _, _, _, _, _, _, _, _, _, _, _, _, _, _, _, _, _, _, _, _, _, hB, fun h => i0 h, fun h => i1 h, fun h => i2 h, fun _ => rfl, fun _ => rfl, fun h => i5 h, fun h => i9 h, fun h => i11 h, fun h => q6 h, fun h => q7 h, fun h => q8 h, fun h => q10 h⟩
    · obtain rfl := Option.some.inj ho
      have s0 := (hB.cell (p := ⟨w.heap.size, 0, none⟩) (Nat.lt_of_lt_of_le lb7 le0)).trans ((HB7.out.cell (p := ⟨w.heap.size, 0, none⟩) lb7).trans G0.out)
      have s1 := (hB.cell (p := ⟨w.heap.size, 1, none⟩) (Nat.lt_of_lt_of_le lb7 le0)).trans ((HB7.out.cell (p := ⟨w.heap.size, 1, none⟩) lb7).trans G1.out)
      refine wpOp_plain ho rfl ?_
      clear ho hd
      go_wp2
      exact ⟨v10, v11, v20, v21, v22, v23, v24, v25, _, v27, v28, v29, _, _, _, _, _, _, _, _, _, _, _, _, _, _, _, _, _, _, _, _, _, _, _, _, _, _, _, _, _, _, _, _, _, _, hB, fun h => i0 h, fun h => i1 h, fun h => i2 h, fun h => i3 h, fun h => i4 h, fun _ => rfl, fun h => i9 h, fun h => i11 h, fun h => q6 h, fun h => q7 h, fun h => q8 h, fun h => q10 h⟩
    · obtain rfl := Option.some.inj ho
      obtain rfl := i0 (Hd.out ⟨0, .data⟩ (by simp) rfl)
      obtain rfl := i2 (Hd.out ⟨2, .data⟩ (by simp) rfl)
      obtain rfl := i4 (Hd.out ⟨4, .data⟩ (by simp) rfl)
      obtain rfl := i5 (Hd.out ⟨5, .data⟩ (by simp) rfl)
      have Hcall := Lib.hid (Cells.out X (HBw.out.trans (hB.mono HBw.out.size)))
      have j6 := Lib.hid q6
      have j7 := Lib.hid q7
      have j8 := Lib.hid q8
      have j10 := Lib.hid q10
      clear q6 q7 q8 q10
      refine wpOp_plain ho rfl ?_
      clear ho hd
      go_wp2_with (go_at_call 21; refine Hcall.out.mono ?_; rintro e W1 ⟨⟨A', c', rfl, hrc⟩, hb⟩)
      have q6 := j6.out
      have q7 := j7.out
      have q8 := j8.out
      have q10 := j10.out
      exact ⟨v10, v11, v20, _, v22, _, v24, _, _, _, v28, v29, _, _, _, _, _, _, _, _, _, _, _, _, _, _, _, _, _, _, _, _, _, _, _, _, _, _, _, _, _, _, _, _, _, _, hB.trans (hb.mono hB.size), fun _ => rfl, fun h => i1 h, fun _ => rfl, fun h => i3 h, fun _ => rfl, fun _ => rfl, fun h => i9 h, fun h => i11 h, fun _ => ⟨A', c', rfl, hrc⟩, fun h => (by obtain ⟨A', c', h1, h2⟩ := q7 h; exact ⟨A', c', h1, h2.below hb⟩), fun h => (by obtain ⟨A', c', h1, h2⟩ := q8 h; exact ⟨A', c', h1, h2.below hb⟩), fun h => (by obtain ⟨A', c', h1, h2⟩ := q10 h; exact ⟨A', c', h1, h2.below hb⟩)⟩
    · obtain rfl := Option.some.inj ho
      obtain ⟨A', c', rfl, hrc⟩ := q6 (Hd.out ⟨6, .data⟩ (by simp) rfl)
      refine wpOp_plain ho rfl ?_
      clear ho hd
      go_wp2
      exact ⟨v10, v11, _, v21, v22, v23, v24, v25, v26, _, v28, v29, _, _, _, _, _, _, _, _, _, _, _, _, _, _, _, _, _, _, _, _, _, _, _, _, _, _, _, _, _, _, _, _, _, _, hB, fun h => i0 h, fun h => i1 h, fun h => i2 h, fun h => i3 h, fun h => i4 h, fun h => i5 h, fun h => i9 h, fun h => i11 h, fun _ => ⟨A', c', rfl, hrc⟩, fun _ => ⟨A', c', rfl, hrc⟩, fun h => q8 h, fun h => q10 h⟩
    · obtain rfl := Option.some.inj ho
      obtain ⟨A', c', rfl, hrc⟩ := q7 (Hd.out ⟨7, .data⟩ (by simp) rfl)
      refine wpOp_plain ho rfl ?_
      clear ho hd
      go_wp2
      exact ⟨v10, v11, _, v21, v22, v23, v24, v25, v26, v27, _, v29, _, _, _, _, _, _, _, _, _, _, _, _, _, _, _, _, _, _, _, _, _, _, _, _, _, _, _, _, _, _, _, _, _, _, hB, fun h => i0 h, fun h => i1 h, fun h => i2 h, fun h => i3 h, fun h => i4 h, fun h => i5 h, fun h => i9 h, fun h => i11 h, fun h => q6 h, fun _ => ⟨A', c', rfl, hrc⟩, fun _ => ⟨A', c', rfl, hrc⟩, fun h => q10 h⟩
    · obtain rfl := Option.some.inj ho
      obtain ⟨A', c', rfl, hrc⟩ := q7 (Hd.out ⟨7, .data⟩ (by simp) rfl)
      refine wpOp_plain ho rfl ?_
      clear ho hd
      go_wp2
      exact ⟨v10, v11, _, v21, v22, v23, v24, v25, v26, v27, v28, _, _, _, _, _, _, _, _, _, _, _, _, _, _, _, _, _, _, _, _, _, _, _, _, _, _, _, _, _, _, _, _, _, _, _, hB, fun h => i0 h, fun h => i1 h, fun h => i2 h, fun h => i3 h, fun h => i4 h, fun h => i5 h, fun _ => rfl, fun h => i11 h, fun h => q6 h, fun _ => ⟨A', c', rfl, hrc⟩, fun h => q8 h, fun h => q10 h⟩
    · obtain rfl := Option.some.inj ho
      obtain ⟨A', c', rfl, hrc⟩ := q8 (Hd.out ⟨8, .data⟩ (by simp) rfl)
      refine wpOp_plain ho rfl ?_
      clear ho hd
      go_wp2
      exact ⟨_, v11, v20, v21, v22, v23, v24, v25, v26, v27, _, v29, _, _, _, _, _, _, _, _, _, _, _, _, _, _, _, _, _, _, _, _, _, _, _, _, _, _, _, _, _, _, _, _, _, _, hB, fun h => i0 h, fun h => i1 h, fun h => i2 h, fun h => i3 h, fun h => i4 h, fun h => i5 h, fun h => i9 h, fun h => i11 h, fun h => q6 h, fun h => q7 h, fun _ => ⟨A', c', rfl, hrc⟩, fun _ => ⟨A', c', rfl, hrc⟩⟩
    · obtain rfl := Option.some.inj ho
      obtain rfl := i9 (Hd.out ⟨9, .data⟩ (by simp) rfl)
      refine wpOp_plain ho rfl ?_
      clear ho hd
      go_wp2
      exact ⟨v10, _, v20, v21, v22, v23, v24, v25, v26, v27, v28, _, _, _, _, _, _, _, _, _, _, _, _, _, _, _, _, _, _, _, _, _, _, _, _, _, _, _, _, _, _, _, _, _, _, _, hB, fun h => i0 h, fun h => i1 h, fun h => i2 h, fun h => i3 h, fun h => i4 h, fun h => i5 h, fun _ => rfl, fun _ => rfl, fun h => q6 h, fun h => q7 h, fun h => q8 h, fun h => q10 h⟩
  rintro done a X hall ⟨v10, v11, v20, v21, v22, v23, v24, v25, v26, v27, v28, v29, f3, f4, f5, f6, f8, f12, f13, f14, f15, f16, f17, f18, f19, f30, f31, f32, f33, f34, f35, f36, f37, f38, f39, f40, f41, f42, f43, f44, f45, f46, f47, f48, f49, f50, hB, i0, i1, i2, i3, i4, i5, i9, i11, q6, q7, q8, q10⟩
  obtain ⟨A', c', e20, hrc⟩ := q10 (hall 10 (by simp))
  subst e20
  obtain rfl := i11 (hall 11 (by simp))
  clear hall i0 i1 i2 i3 i4 i5 i9 i11 q6 q7 q8 q10
  have HBw2 := Lib.hid (HBw.out.trans (hB.mono HBw.out.size))
  have HB72 := Lib.hid (HB7.out.trans (hB.mono HB7.out.size))
  have le2 := Nat.le_trans le0 hB.size
  have HR1 := Lib.hid hrc
  clear hrc hB le0 HB7 HBw Cells
  have le0 := le2
  have HB7 := HB72
  have HBw := HBw2
  have Cells := Cells2
  clear le2 HB72 HBw2 Cells2
  obtain ⟨A1, rfl⟩ : ∃ A1, A1 = A' := ⟨_, rfl⟩
  obtain ⟨c1, rfl⟩ : ∃ c1, c1 = c' := ⟨_, rfl⟩
  obtain ⟨w3, rfl⟩ : ∃ w3, w3 = X := ⟨_, rfl⟩
  go_wp2_with (fail)
  refine wp_region_done2 (by kernel_rfl) (by kernel_rfl) (Law2 w3 A Ac Ar n0 c cols0.length cols.length cc rows0.length rows.length cr w.heap.size g0 g1 rs er A1 c1) ?_ ?_ ?_
  · exact ⟨_, _, _, _, _, _, _, _, _, _, _, _, _, _, _, _, _, _, _, _, _, _, _, _, _, _, _, _, _, _, _, _, _, _, _, _, _, _, _, _, _, _, _, _, (Dr.refl w3).step1.below _, fun h => by simp at h, fun h => by simp at h, fun h => by simp at h, fun h => by simp at h, fun h => by simp at h, fun h => by simp at h, fun h => by simp at h, fun h => by simp at h, fun h => by simp at h, fun h => by simp at h, fun h => by simp at h, fun h => by simp at h⟩
  · rintro done i o a X ho hd he ⟨v12, v13, v30, v31, v32, v33, v34, v35, v36, v37, v38, v39, f3, f4, f5, f6, f8, f14, f15, f16, f17, f18, f19, f20, f21, f22, f23, f24, f25, f26, f27, f28, f29, f40, f41, f42, f43, f44, f45, f46, f47, f48, f49, f50, hB, i0, i1, i2, i3, i4, i5, i9, i11, q6, q7, q8, q10⟩ K hK
    have Hd := Lib.hid he
    clear he
    rcases i with _ | _ | _ | _ | _ | _ | _ | _ | _ | _ | _ | _ | i
    rotate_left 12
    · exact absurd (Array.getElem?_eq_some_iff.1 ho).1 (by simp)
    · obtain rfl := Option.some.inj ho
      refine wpOp_plain ho rfl ?_
      clear ho hd
      go_wp2
      exact ⟨v12, v13, v30, _, v32, v33, v34, v35, v36, v37, v38, v39, _, _, _, _, _, _, _, _, _, _, _, _, _, _, _, _, _, _, _, _, _, _, _, _, _, _, _, _, _, _, _, _, hB, fun _ => rfl, fun h => i1 h, fun h => i2 h, fun h => i3 h, fun h => i4 h, fun h => i5 h, fun h => i9 h, fun h => i11 h, fun h => q6 h, fun h => q7 h, fun h => q8 h, fun h => q10 h⟩
    · obtain rfl := Option.some.inj ho
      refine wpOp_plain ho rfl ?_
      clear ho hd
      go_wp2
      exact ⟨v12, v13, v30, v31, _, v33, v34, v35, v36, v37, v38, v39, _, _, _, _, _, _, _, _, _, _, _, _, _, _, _, _, _, _, _, _, _, _, _, _, _, _, _, _, _, _, _, _, hB, fun h => i0 h, fun _ => rfl, fun h => i2 h, fun h => i3 h, fun h => i4 h, fun h => i5 h, fun h => i9 h, fun h => i11 h, fun h => q6 h, fun h => q7 h, fun h => q8 h, fun h => q10 h⟩
    · obtain rfl := Option.some.inj ho
      obtain rfl := i1 (Hd.out ⟨1, .data⟩ (by simp) rfl)
      refine wpOp_plain ho rfl ?_
      clear ho hd
      go_wp2_with (go_at_call 11; refine (Cutc.out X).mono ?_; rintro e W1 ⟨m, ⟨hm, rfl⟩, rfl⟩; obtain rfl : m = cols.length := (by rw [hm]; exact Lenc.out.symm); clear hm)
      exact ⟨v12, v13, v30, v31, _, _, v34, v35, v36, v37, v38, v39, _, _, _, _, _, _, _, _, _, _, _, _, _, _, _, _, _, _, _, _, _, _, _, _, _, _, _, _, _, _, _, _, hB, fun h => i0 h, fun _ => rfl, fun _ => rfl, fun h => i3 h, fun h => i4 h, fun h => i5 h, fun h => i9 h, fun h => i11 h, fun h => q6 h, fun h => q7 h, fun h => q8 h, fun h => q10 h⟩
    · obtain rfl := Option.some.inj ho
      refine wpOp_plain ho rfl ?_
      clear ho hd
      go_wp2
      exact ⟨v12, v13, v30, v31, v32, v33, _, v35, v36, v37, v38, v39, _, _, _, _, _, _, _, _, _, _, _, _, _, _, _, _, _, _, _, _, _, _, _, _, _, _, _, _, _, _, _, _, hB, fun h => i0 h, fun h => i1 h, fun h => i2 h, fun _ => rfl, fun h => i4 h, fun h => i5 h, fun h => i9 h, fun h => i11 h, fun h => q6 h, fun h => q7 h, fun h => q8 h, fun h => q10 h⟩
    · obtain rfl := Option.some.inj ho
      obtain rfl := i3 (Hd.out ⟨3, .data⟩ (by simp) rfl)
      refine wpOp_plain ho rfl ?_
      clear ho hd
      go_wp2_with (go_at_call 11; refine (Cutr.out X).mono ?_; rintro e W1 ⟨m, ⟨hm, rfl⟩, rfl⟩; obtain rfl : m = rows.length := (by rw [hm]; exact Lenr.out.symm); clear hm)
      exact ⟨v12, v13, v30, v31, v32, v33, _, _, v36, v37, v38, v39, _, _, _, _, _, _, _, _, _, _, _, _, _, _, _, _, _, _, _, _, _, _, _, _, _, _, _, _, _, _, _, _, hB, fun h => i0 h, fun h => i1 h, fun h => i2 h, fun _ => rfl, fun _ => rfl, fun h => i5 h, fun h => i9 h, fun h => i11 h, fun h => q6 h, fun h => q7 h, fun h => q8 h, fun h => q10 h⟩
    · obtain rfl := Option.some.inj ho
      have s0 := (hB.cell (p := ⟨w.heap.size, 0, none⟩) (Nat.lt_of_lt_of_le lb7 le0)).trans ((HB7.out.cell (p := ⟨w.heap.size, 0, none⟩) lb7).trans G0.out)
      have s1 := (hB.cell (p := ⟨w.heap.size, 1, none⟩) (Nat.lt_of_lt_of_le lb7 le0)).trans ((HB7.out.cell (p := ⟨w.heap.size, 1, none⟩) lb7).trans G1.out)
      refine wpOp_plain ho rfl ?_
      clear ho hd
      go_wp2
      exact ⟨v12, v13, v30, v31, v32, v33, v34, v35, _, v37, v38, v39, _, _, _, _, _, _, _, _, _, _, _, _, _, _, _, _, _, _, _, _, _, _, _, _, _, _, _, _, _, _, _, _, hB, fun h => i0 h, fun h => i1 h, fun h => i2 h, fun h => i3 h, fun h => i4 h, fun _ => rfl, fun h => i9 h, fun h => i11 h, fun h => q6 h, fun h => q7 h, fun h => q8 h, fun h => q10 h⟩
    · obtain rfl := Option.some.inj ho
      obtain rfl := i0 (Hd.out ⟨0, .data⟩ (by simp) rfl)
      obtain rfl := i2 (Hd.out ⟨2, .data⟩ (by simp) rfl)
      obtain rfl := i4 (Hd.out ⟨4, .data⟩ (by simp) rfl)
      obtain rfl := i5 (Hd.out ⟨5, .data⟩ (by simp) rfl)
      have Hcall := Lib.hid (Cells.out X (HBw.out.trans (hB.mono HBw.out.size)))
      have j6 := Lib.hid q6
      have j7 := Lib.hid q7
      have j8 := Lib.hid q8
      have j10 := Lib.hid q10
      clear q6 q7 q8 q10
      refine wpOp_plain ho rfl ?_
      clear ho hd
      go_wp2_with (go_at_call 22; refine Hcall.out.mono ?_; rintro e W1 ⟨⟨A', c', rfl, hrc⟩, hb⟩)
      have q6 := j6.out
      have q7 := j7.out
      have q8 := j8.out
      have q10 := j10.out
      exact ⟨v12, v13, v30, _, v32, _, v34, _, _, _, v38, v39, _, _, _, _, _, _, _, _, _, _, _, _, _, _, _, _, _, _, _, _, _, _, _, _, _, _, _, _, _, _, _, _, hB.trans (hb.mono hB.size), fun _ => rfl, fun h => i1 h, fun _ => rfl, fun h => i3 h, fun _ => rfl, fun _ => rfl, fun h => i9 h, fun h => i11 h, fun _ => ⟨A', c', rfl, hrc⟩, fun h => (by obtain ⟨A', c', h1, h2⟩ := q7 h; exact ⟨A', c', h1, h2.below hb⟩), fun h => (by obtain ⟨A', c', h1, h2⟩ := q8 h; exact ⟨A', c', h1, h2.below hb⟩), fun h => (by obtain ⟨A', c', h1, h2⟩ := q10 h; exact ⟨A', c', h1, h2.below hb⟩)⟩
    · obtain rfl := Option.some.inj ho
      obtain ⟨A', c', rfl, hrc⟩ := q6 (Hd.out ⟨6, .data⟩ (by simp) rfl)
      refine wpOp_plain ho rfl ?_
      clear ho hd
      go_wp2
      exact ⟨v12, v13, _, v31, v32, v33, v34, v35, v36, _, v38, v39, _, _, _, _, _, _, _, _, _, _, _, _, _, _, _, _, _, _, _, _, _, _, _, _, _, _, _, _, _, _, _, _, hB, fun h => i0 h, fun h => i1 h, fun h => i2 h, fun h => i3 h, fun h => i4 h, fun h => i5 h, fun h => i9 h, fun h => i11 h, fun _ => ⟨A', c', rfl, hrc⟩, fun _ => ⟨A', c', rfl, hrc⟩, fun h => q8 h, fun h => q10 h⟩
    · obtain rfl := Option.some.inj ho
      obtain ⟨A', c', rfl, hrc⟩ := q7 (Hd.out ⟨7, .data⟩ (by simp) rfl)
      refine wpOp_plain ho rfl ?_
      clear ho hd
      go_wp2
      exact ⟨v12, v13, _, v31, v32, v33, v34, v35, v36, v37, _, v39, _, _, _, _, _, _, _, _, _, _, _, _, _, _, _, _, _, _, _, _, _, _, _, _, _, _, _, _, _, _, _, _, hB, fun h => i0 h, fun h => i1 h, fun h => i2 h, fun h => i3 h, fun h => i4 h, fun h => i5 h, fun h => i9 h, fun h => i11 h, fun h => q6 h, fun _ => ⟨A', c', rfl, hrc⟩, fun _ => ⟨A', c', rfl, hrc⟩, fun h => q10 h⟩
    · obtain rfl := Option.some.inj ho
      obtain ⟨A', c', rfl, hrc⟩ := q7 (Hd.out ⟨7, .data⟩ (by simp) rfl)
      refine wpOp_plain ho rfl ?_
      clear ho hd
      go_wp2
      exact ⟨v12, v13, _, v31, v32, v33, v34, v35, v36, v37, v38, _, _, _, _, _, _, _, _, _, _, _, _, _, _, _, _, _, _, _, _, _, _, _, _, _, _, _, _, _, _, _, _, _, hB, fun h => i0 h, fun h => i1 h, fun h => i2 h, fun h => i3 h, fun h => i4 h, fun h => i5 h, fun _ => rfl, fun h => i11 h, fun h => q6 h, fun _ => ⟨A', c', rfl, hrc⟩, fun h => q8 h, fun h => q10 h⟩
    · obtain rfl := Option.some.inj ho
      obtain ⟨A', c', rfl, hrc⟩ := q8 (Hd.out ⟨8, .data⟩ (by simp) rfl)
      refine wpOp_plain ho rfl ?_
      clear ho hd
      go_wp2
      exact ⟨_, v13, v30, v31, v32, v33, v34, v35, v36, v37, _, v39, _, _, _, _, _, _, _, _, _, _, _, _, _, _, _, _, _, _, _, _, _, _, _, _, _, _, _, _, _, _, _, _, hB, fun h => i0 h, fun h => i1 h, fun h => i2 h, fun h => i3 h, fun h => i4 h, fun h => i5 h, fun h => i9 h, fun h => i11 h, fun h => q6 h, fun h => q7 h, fun _ => ⟨A', c', rfl, hrc⟩, fun _ => ⟨A', c', rfl, hrc⟩⟩
    · obtain rfl := Option.some.inj ho
      obtain rfl := i9 (Hd.out ⟨9, .data⟩ (by simp) rfl)
      refine wpOp_plain ho rfl ?_
      clear ho hd
      go_wp2
      exact ⟨v12, _, v30, v31, v32, v33, v34, v35, v36, v37, v38, _, _, _, _, _, _, _, _, _, _, _, _, _, _, _, _, _, _, _, _, _, _, _, _, _, _, _, _, _, _, _, _, _, hB, fun h => i0 h, fun h => i1 h, fun h => i2 h, fun h => i3 h, fun h => i4 h, fun h => i5 h, fun _ => rfl, fun _ => rfl, fun h => q6 h, fun h => q7 h, fun h => q8 h, fun h => q10 h⟩
  rintro done a X hall ⟨v12, v13, v30, v31, v32, v33, v34, v35, v36, v37, v38, v39, f3, f4, f5, f6, f8, f14, f15, f16, f17, f18, f19, f20, f21, f22, f23, f24, f25, f26, f27, f28, f29, f40, f41, f42, f43, f44, f45, f46, f47, f48, f49, f50, hB, i0, i1, i2, i3, i4, i5, i9, i11, q6, q7, q8, q10⟩
  obtain ⟨A', c', e30, hrc⟩ := q10 (hall 10 (by simp))
  subst e30
  obtain rfl := i11 (hall 11 (by simp))
  clear hall i0 i1 i2 i3 i4 i5 i9 i11 q6 q7 q8 q10
  have HS := Lib.hid (c23 A1 A' rs c1 c' X (HR1.out.below hB) hrc hrs)
  have HBX := Lib.hid (HBw.out.trans (hB.mono HBw.out.size))
  clear hrc hB
  go_wp2_with (go_at_call 23; refine HS.out.mono ?_; rintro e w5 ⟨rfl, hd5⟩)
  go_ret
  exact ⟨rfl, HBX.out.trans ((hd5.below _).mono HBX.out.size)⟩

set_option maxRecDepth 100000 in
set_option maxHeartbeats 4000000 in
theorem cells_high (A Ac Ar : Option Addr) (n0 c : Nat) (h60 : 60 < n0) (cols0 cols rows0 rows : List Int) (cc cr : Nat) (g0 g1 : Int) (rs : List Rect) (er : Int) (w : World) (hcp : n0 ≤ c) (hlp0 : n0 ≤ 17592186044416)
    (hlc : cols.length = min cols0.length 100) (hcc : cols0.length ≤ cc) (hlc0 : cols0.length ≤ 17592186044416) (hlr : rows.length = min rows0.length 100) (hcr : rows0.length ≤ cr) (hlr0 : rows0.length ≤ 17592186044416) (hrs : rs.length ≤ 17592186044416)
    (h21 : ∀ W, Below w.heap.size w W → Calls Try.prog 21 #[.slice A 60 c, .slice Ac cols.length cc, .slice Ar rows.length cr, .agg #[.int .i64 g0, .int .i64 g1]] W (CellsGive rs er W))
    (h22 : ∀ W, Below w.heap.size w W → Calls Try.prog 22 #[.slice A 60 c, .slice Ac cols.length cc, .slice Ar rows.length cr, .agg #[.int .i64 g0, .int .i64 g1]] W (CellsGive rs er W)) :
    Calls Try.prog 6 #[.slice A n0 c, .slice Ac cols0.length cc, .slice Ar rows0.length cr, .agg #[.int .i64 g0, .int .i64 g1]] w fun e w' => e = .returned (.bool true) ∧ Below w.heap.size w w' := by
  have Cells := Lib.hid h21
  have Cells2 := Lib.hid h22
  have Cutc := Lib.hid (fun W => c11 Ac cols0.length cc W hcc hlc0)
  have Cutr := Lib.hid (fun W => c11 Ar rows0.length cr W hcr hlr0)
  have Lenc := Lib.hid hlc
  have Lenr := Lib.hid hlr
  have HB0 : Hid (Below w.heap.size w (w.alloc (.cells #[.int .i64 g0, .int .i64 g1] 38))) := Lib.hid ((Below.refl _ w).alloc (Nat.le_refl _) _)
  have r7 := heap_alloc_new w (.cells #[.int .i64 g0, .int .i64 g1] 38)
  have lb7 : w.heap.size < (w.alloc (.cells #[.int .i64 g0, .int .i64 g1] 38)).heap.size := by simp
  have G0 : Hid ((w.alloc (.cells #[.int .i64 g0, .int .i64 g1] 38)).cell? ⟨w.heap.size, 0, none⟩ = some (.int .i64 g0)) := Lib.hid (by rw [World.cell?, r7]; rfl)
  have G1 : Hid ((w.alloc (.cells #[.int .i64 g0, .int .i64 g1] 38)).cell? ⟨w.heap.size, 1, none⟩ = some (.int .i64 g1)) := Lib.hid (by rw [World.cell?, r7]; rfl)
  clear h21 h22 hlc hlr r7
  go_enter Try.func6, Try.ntmps6
  go_wp2_with (fail)
  refine (c10 _).mono ?_
  rintro e w1 ⟨rfl, hb1⟩
  have le0 := hb1.size
  have HB7 := Lib.hid hb1
  have HBw := Lib.hid (HB0.out.trans (hb1.mono HB0.out.size))
  clear hb1
  go_wp2_with (fail)
  refine wp_region_done2 (by kernel_rfl) (by kernel_rfl) (Law1 w1 A Ac Ar 60 c cols0.length cols.length cc rows0.length rows.length cr w.heap.size g0 g1 rs er) ?_ ?_ ?_
  · exact ⟨_, _, _, _, _, _, _, _, _, _, _, _, _, _, _, _, _, _, _, _, _, _, _, _, _, _, _, _, _, _, _, _, _, _, _, _, _, _, _, _, _, _, _, _, _, _, (Dr.refl w1).step1.below _, fun h => by simp at h, fun h => by simp at h, fun h => by simp at h, fun h => by simp at h, fun h => by simp at h, fun h => by simp at h, fun h => by simp at h, fun h => by simp at h, fun h => by simp at h, fun h => by simp at h, fun h => by simp at h, fun h => by simp at h⟩
  · rintro done i o a X ho hd he ⟨v10, v11, v20, v21, v22, v23, v24, v25, v26, v27, v28, v29, f3, f4, f5, f6, f8, f12, f13, f14, f15, f16, f17, f18, f19, f30, f31, f32, f33, f34, f35, f36, f37, f38, f39, f40, f41, f42, f43, f44, f45, f46, f47, f48, f49, f50, hB, i0, i1, i2, i3, i4, i5, i9, i11, q6, q7, q8, q10⟩ K hK
    have Hd := Lib.hid he
    clear he
    rcases i with _ | _ | _ | _ | _ | _ | _ | _ | _ | _ | _ | _ | i
    rotate_left 12
    · exact absurd (Array.getElem?_eq_some_iff.1 ho).1 (by simp)
    · obtain rfl := Option.some.inj ho
      refine wpOp_plain ho rfl ?_
      clear ho hd
      go_wp2
      exact ⟨v10, v11, v20, _, v22, v23, v24, v25, v26, v27, v28, v29, _, _, _, _, _, _, _, _, _, _, _, _, _, _, _, _, _, _, _, _, _, _, _, _, _, _, _, _, _, _, _, _, _, _, hB, fun _ => rfl, fun h => i1 h, fun h => i2 h, fun h => i3 h, fun h => i4 h, fun h => i5 h, fun h => i9 h, fun h => i11 h, fun h => q6 h, fun h => q7 h, fun h => q8 h, fun h => q10 h⟩
    · obtain rfl := Option.some.inj ho
      refine wpOp_plain ho rfl ?_
      clear ho hd
      go_wp2
      exact ⟨v10, v11, v20, v21, _, v23, v24, v25, v26, v27, v28, v29, _, _, _, _, _, _, _, _, _, _, _, _, _, _, _, _, _, _, _, _, _, _, _, _, _, _, _, _, _, _, _, _, _, _, hB, fun h => i0 h, fun _ => rfl, fun h => i2 h, fun h => i3 h, fun h => i4 h, fun h => i5 h, fun h => i9 h, fun h => i11 h, fun h => q6 h, fun h => q7 h, fun h => q8 h, fun h => q10 h⟩
    · obtain rfl := Option.some.inj ho
      obtain rfl := i1 (Hd.out ⟨1, .data⟩ (by simp) rfl)
      refine wpOp_plain ho rfl ?_
      clear ho hd
      go_wp2_with (go_at_call 11; refine (Cutc.out X).mono ?_; rintro e W1 ⟨m, ⟨hm, rfl⟩, rfl⟩; obtain rfl : m = cols.length := (by rw [hm]; exact Lenc.out.symm); clear hm)
      exact ⟨v10, v11, v20, v21, _, _, v24, v25, v26, v27, v28, v29, _, _, _, _, _, _, _, _, _, _, _, _, _, _, _, _, _, _, _, _, _, _, _, _, _, _, _, _, _, _, _, _, _, _, hB, fun h => i0 h, fun _ => rfl, fun _ => rfl, fun h => i3 h, fun h => i4 h, fun h => i5 h, fun h => i9 h, fun h => i11 h, fun h => q6 h, fun h => q7 h, fun h => q8 h, fun h => q10 h⟩
    · obtain rfl := Option.some.inj ho
      refine wpOp_plain ho rfl ?_
      clear ho hd
      go_wp2
      exact ⟨v10, v11, v20, v21, v22, v23, _, v25, v26, v27, v28, v29, _, _, _, _, _, _, _, _, _, _, _, _, _, _, _, _, _, _, _, _, _, _, _, _, _, _, _, _, _, _, _, _, _, _, hB, fun h => i0 h, fun h => i1 h, fun h => i2 h, fun _ => rfl, fun h => i4 h, fun h => i5 h, fun h => i9 h, fun h => i11 h, fun h => q6 h, fun h => q7 h, fun h => q8 h, fun h => q10 h⟩
    · obtain rfl := Option.some.inj ho
      obtain rfl := i3 (Hd.out ⟨3, .data⟩ (by simp) rfl)
      refine wpOp_plain ho rfl ?_
      clear ho hd
      go_wp2_with (go_at_call 11; refine (Cutr.out X).mono ?_; rintro e W1 ⟨m, ⟨hm, rfl⟩, rfl⟩; obtain rfl : m = rows.length := (by rw [hm]; exact Lenr.out.symm); clear hm)
      exact ⟨v10, v11, v20, v21, v22, v23, _, _, v26, v27, v28, v29, _, _, _, _, _, _, _, _, _, _, _, _, _, _, _, _, _, _, _, _, _, _, _, _, _, _, _, _, _, _, _, _, _, _, hB, fun h => i0 h, fun h => i1 h, fun h => i2 h, fun _ => rfl, fun _ => rfl, fun h => i5 h, fun h => i9 h, fun h => i11 h, fun h => q6 h, fun h => q7 h, fun h => q8 h, fun h => q10 h⟩
    · obtain rfl := Option.some.inj ho
      have s0 := (hB.cell (p := ⟨w.heap.size, 0, none⟩) (Nat.lt_of_lt_of_le lb7 le0)).trans ((HB7.out.cell (p := ⟨w.heap.size, 0, none⟩) lb7).trans G0.out)
      have s1 := (hB.cell (p := ⟨w.heap.size, 1, none⟩) (Nat.lt_of_lt_of_le lb7 le0)).trans ((HB7.out.cell (p := ⟨w.heap.size, 1, none⟩) lb7).trans G1.out)
      refine wpOp_plain ho rfl ?_
      clear ho hd
      go_wp2
      exact ⟨v10, v11, v20, v21, v22, v23, v24, v25, _, v27, v28, v29, _, _, _, _, _, _, _, _, _, _, _, _, _, _, _, _, _, _, _, _, _, _, _, _, _, _, _, _, _, _, _, _, _, _, hB, fun h => i0 h, fun h => i1 h, fun h => i2 h, fun h => i3 h, fun h => i4 h, fun _ => rfl, fun h => i9 h, fun h => i11 h, fun h => q6 h, fun h => q7 h, fun h => q8 h, fun h => q10 h⟩
    · obtain rfl := Option.some.inj ho
      obtain rfl := i0 (Hd.out ⟨0, .data⟩ (by simp) rfl)
      obtain rfl := i2 (Hd.out ⟨2, .data⟩ (by simp) rfl)
      obtain rfl := i4 (Hd.out ⟨4, .data⟩ (by simp) rfl)
      obtain rfl := i5 (Hd.out ⟨5, .data⟩ (by simp) rfl)
      have Hcall := Lib.hid (Cells.out X (HBw.out.trans (hB.mono HBw.out.size)))
      have j6 := Lib.hid q6
      have j7 := Lib.hid q7
      have j8 := Lib.hid q8
      have j10 := Lib.hid q10
      clear q6 q7 q8 q10
      refine wpOp_plain ho rfl ?_
      clear ho hd
      go_wp2_with (go_at_call 21; refine Hcall.out.mono ?_; rintro e W1 ⟨⟨A', c', rfl, hrc⟩, hb⟩)
      have q6 := j6.out
      have q7 := j7.out
      have q8 := j8.out
      have q10 := j10.out
      exact ⟨v10, v11, v20, _, v22, _, v24, _, _, _, v28, v29, _, _, _, _, _, _, _, _, _, _, _, _, _, _, _, _, _, _, _, _, _, _, _, _, _, _, _, _, _, _, _, _, _, _, hB.trans (hb.mono hB.size), fun _ => rfl, fun h => i1 h, fun _ => rfl, fun h => i3 h, fun _ => rfl, fun _ => rfl, fun h => i9 h, fun h => i11 h, fun _ => ⟨A', c', rfl, hrc⟩, fun h => (by obtain ⟨A', c', h1, h2⟩ := q7 h; exact ⟨A', c', h1, h2.below hb⟩), fun h => (by obtain ⟨A', c', h1, h2⟩ := q8 h; exact ⟨A', c', h1, h2.below hb⟩), fun h => (by obtain ⟨A', c', h1, h2⟩ := q10 h; exact ⟨A', c', h1, h2.below hb⟩)⟩
    · obtain rfl := Option.some.inj ho
      obtain ⟨A', c', rfl, hrc⟩ := q6 (Hd.out ⟨6, .data⟩ (by simp) rfl)
      refine wpOp_plain ho rfl ?_
      clear ho hd
      go_wp2
      exact ⟨v10, v11, _, v21, v22, v23, v24, v25, v26, _, v28, v29, _, _, _, _, _, _, _, _, _, _, _, _, _, _, _, _, _, _, _, _, _, _, _, _, _, _, _, _, _, _, _, _, _, _, hB, fun h => i0 h, fun h => i1 h, fun h => i2 h, fun h => i3 h, fun h => i4 h, fun h => i5 h, fun h => i9 h, fun h => i11 h, fun _ => ⟨A', c', rfl, hrc⟩, fun _ => ⟨A', c', rfl, hrc⟩, fun h => q8 h, fun h => q10 h⟩
    · obtain rfl := Option.some.inj ho
      obtain ⟨A', c', rfl, hrc⟩ := q7 (Hd.out ⟨7, .data⟩ (by simp) rfl)
      refine wpOp_plain ho rfl ?_
      clear ho hd
      go_wp2
      exact ⟨v10, v11, _, v21, v22, v23, v24, v25, v26, v27, _, v29, _, _, _, _, _, _, _, _, _, _, _, _, _, _, _, _, _, _, _, _, _, _, _, _, _, _, _, _, _, _, _, _, _, _, hB, fun h => i0 h, fun h => i1 h, fun h => i2 h, fun h => i3 h, fun h => i4 h, fun h => i5 h, fun h => i9 h, fun h => i11 h, fun h => q6 h, fun _ => ⟨A', c', rfl, hrc⟩, fun _ => ⟨A', c', rfl, hrc⟩, fun h => q10 h⟩
    · obtain rfl := Option.some.inj ho
      obtain ⟨A', c', rfl, hrc⟩ := q7 (Hd.out ⟨7, .data⟩ (by simp) rfl)
      refine wpOp_plain ho rfl ?_
      clear ho hd
      go_wp2
      exact ⟨v10, v11, _, v21, v22, v23, v24, v25, v26, v27, v28, _, _, _, _, _, _, _, _, _, _, _, _, _, _, _, _, _, _, _, _, _, _, _, _, _, _, _, _, _, _, _, _, _, _, _, hB, fun h => i0 h, fun h => i1 h, fun h => i2 h, fun h => i3 h, fun h => i4 h, fun h => i5 h, fun _ => rfl, fun h => i11 h, fun h => q6 h, fun _ => ⟨A', c', rfl, hrc⟩, fun h => q8 h, fun h => q10 h⟩
    · obtain rfl := Option.some.inj ho
      obtain ⟨A', c', rfl, hrc⟩ := q8 (Hd.out ⟨8, .data⟩ (by simp) rfl)
      refine wpOp_plain ho rfl ?_
      clear ho hd
      go_wp2
      exact ⟨_, v11, v20, v21, v22, v23, v24, v25, v26, v27, _, v29, _, _, _, _, _, _, _, _, _, _, _, _, _, _, _, _, _, _, _, _, _, _, _, _, _, _, _, _, _, _, _, _, _, _, hB, fun h => i0 h, fun h => i1 h, fun h => i2 h, fun h => i3 h, fun h => i4 h, fun h => i5 h, fun h => i9 h, fun h => i11 h, fun h => q6 h, fun h => q7 h, fun _ => ⟨A', c', rfl, hrc⟩, fun _ => ⟨A', c', rfl, hrc⟩⟩
    · obtain rfl := Option.some.inj ho
      obtain rfl := i9 (Hd.out ⟨9, .data⟩ (by simp) rfl)
      refine wpOp_plain ho rfl ?_
      clear ho hd
      go_wp2
      exact ⟨v10, _, v20, v21, v22, v23, v24, v25, v26, v27, v28, _, _, _, _, _, _, _, _, _, _, _, _, _, _, _, _, _, _, _, _, _, _, _, _, _, _, _, _, _, _, _, _, _, _, _, hB, fun h => i0 h, fun h => i1 h, fun h => i2 h, fun h => i3 h, fun h => i4 h, fun h => i5 h, fun _ => rfl, fun _ => rfl, fun h => q6 h, fun h => q7 h, fun h => q8 h, fun h => q10 h⟩
  rintro done a X hall ⟨v10, v11, v20, v21, v22, v23, v24, v25, v26, v27, v28, v29, f3, f4, f5, f6, f8, f12, f13, f14, f15, f16, f17, f18, f19, f30, f31, f32, f33, f34, f35, f36, f37, f38, f39, f40, f41, f42, f43, f44, f45, f46, f47, f48, f49, f50, hB, i0, i1, i2, i3, i4, i5, i9, i11, q6, q7, q8, q10⟩
  obtain ⟨A', c', e20, hrc⟩ := q10 (hall 10 (by simp))
  subst e20
  obtain rfl := i11 (hall 11 (by simp))
  clear hall i0 i1 i2 i3 i4 i5 i9 i11 q6 q7 q8 q10
  have HBw2 := Lib.hid (HBw.out.trans (hB.mono HBw.out.size))
  have HB72 := Lib.hid (HB7.out.trans (hB.mono HB7.out.size))
  have le2 := Nat.le_trans le0 hB.size
  have HR1 := Lib.hid hrc
  clear hrc hB le0 HB7 HBw Cells
  have le0 := le2
  have HB7 := HB72
  have HBw := HBw2
  have Cells := Cells2
  clear le2 HB72 HBw2 Cells2
  obtain ⟨A1, rfl⟩ : ∃ A1, A1 = A' := ⟨_, rfl⟩
  obtain ⟨c1, rfl⟩ : ∃ c1, c1 = c' := ⟨_, rfl⟩
  obtain ⟨w3, rfl⟩ : ∃ w3, w3 = X := ⟨_, rfl⟩
  go_wp2_with (fail)
  refine wp_region_done2 (by kernel_rfl) (by kernel_rfl) (Law2 w3 A Ac Ar 60 c cols0.length cols.length cc rows0.length rows.length cr w.heap.size g0 g1 rs er A1 c1) ?_ ?_ ?_
  · exact ⟨_, _, _, _, _, _, _, _, _, _, _, _, _, _, _, _, _, _, _, _, _, _, _, _, _, _, _, _, _, _, _, _, _, _, _, _, _, _, _, _, _, _, _, _, (Dr.refl w3).step1.below _, fun h => by simp at h, fun h => by simp at h, fun h => by simp at h, fun h => by simp at h, fun h => by simp at h, fun h => by simp at h, fun h => by simp at h, fun h => by simp at h, fun h => by simp at h, fun h => by simp at h, fun h => by simp at h, fun h => by simp at h⟩
  · rintro done i o a X ho hd he ⟨v12, v13, v30, v31, v32, v33, v34, v35, v36, v37, v38, v39, f3, f4, f5, f6, f8, f14, f15, f16, f17, f18, f19, f20, f21, f22, f23, f24, f25, f26, f27, f28, f29, f40, f41, f42, f43, f44, f45, f46, f47, f48, f49, f50, hB, i0, i1, i2, i3, i4, i5, i9, i11, q6, q7, q8, q10⟩ K hK
    have Hd := Lib.hid he
    clear he
    rcases i with _ | _ | _ | _ | _ | _ | _ | _ | _ | _ | _ | _ | i
    rotate_left 12
    · exact absurd (Array.getElem?_eq_some_iff.1 ho).1 (by simp)
    · obtain rfl := Option.some.inj ho
      refine wpOp_plain ho rfl ?_
      clear ho hd
      go_wp2
      exact ⟨v12, v13, v30, _, v32, v33, v34, v35, v36, v37, v38, v39, _, _, _, _, _, _, _, _, _, _, _, _, _, _, _, _, _, _, _, _, _, _, _, _, _, _, _, _, _, _, _, _, hB, fun _ => rfl, fun h => i1 h, fun h => i2 h, fun h => i3 h, fun h => i4 h, fun h => i5 h, fun h => i9 h, fun h => i11 h, fun h => q6 h, fun h => q7 h, fun h => q8 h, fun h => q10 h⟩
    · obtain rfl := Option.some.inj ho
      refine wpOp_plain ho rfl ?_
      clear ho hd
      go_wp2
      exact ⟨v12, v13, v30, v31, _, v33, v34, v35, v36, v37, v38, v39, _, _, _, _, _, _, _, _, _, _, _, _, _, _, _, _, _, _, _, _, _, _, _, _, _, _, _, _, _, _, _, _, hB, fun h => i0 h, fun _ => rfl, fun h => i2 h, fun h => i3 h, fun h => i4 h, fun h => i5 h, fun h => i9 h, fun h => i11 h, fun h => q6 h, fun h => q7 h, fun h => q8 h, fun h => q10 h⟩
    · obtain rfl := Option.some.inj ho
      obtain rfl := i1 (Hd.out ⟨1, .data⟩ (by simp) rfl)
      refine wpOp_plain ho rfl ?_
      clear ho hd
      go_wp2_with (go_at_call 11; refine (Cutc.out X).mono ?_; rintro e W1 ⟨m, ⟨hm, rfl⟩, rfl⟩; obtain rfl : m = cols.length := (by rw [hm]; exact Lenc.out.symm); clear hm)
      exact ⟨v12, v13, v30, v31, _, _, v34, v35, v36, v37, v38, v39, _, _, _, _, _, _, _, _, _, _, _, _, _, _, _, _, _, _, _, _, _, _, _, _, _, _, _, _, _, _, _, _, hB, fun h => i0 h, fun _ => rfl, fun _ => rfl, fun h => i3 h, fun h => i4 h, fun h => i5 h, fun h => i9 h, fun h => i11 h, fun h => q6 h, fun h => q7 h, fun h => q8 h, fun h => q10 h⟩
    · obtain rfl := Option.some.inj ho
      refine wpOp_plain ho rfl ?_
      clear ho hd
      go_wp2
      exact ⟨v12, v13, v30, v31, v32, v33, _, v35, v36, v37, v38, v39, _, _, _, _, _, _, _, _, _, _, _, _, _, _, _, _, _, _, _, _, _, _, _, _, _, _, _, _, _, _, _, _, hB, fun h => i0 h, fun h => i1 h, fun h => i2 h, fun _ => rfl, fun h => i4 h, fun h => i5 h, fun h => i9 h, fun h => i11 h, fun h => q6 h, fun h => q7 h, fun h => q8 h, fun h => q10 h⟩
    · obtain rfl := Option.some.inj ho
      obtain rfl := i3 (Hd.out ⟨3, .data⟩ (by simp) rfl)
      refine wpOp_plain ho rfl ?_
      clear ho hd
      go_wp2_with (go_at_call 11; refine (Cutr.out X).mono ?_; rintro e W1 ⟨m, ⟨hm, rfl⟩, rfl⟩; obtain rfl : m = rows.length := (by rw [hm]; exact Lenr.out.symm); clear hm)
      exact ⟨v12, v13, v30, v31, v32, v33, _, _, v36, v37, v38, v39, _, _, _, _, _, _, _, _, _, _, _, _, _, _, _, _, _, _, _, _, _, _, _, _, _, _, _, _, _, _, _, _, hB, fun h => i0 h, fun h => i1 h, fun h => i2 h, fun _ => rfl, fun _ => rfl, fun h => i5 h, fun h => i9 h, fun h => i11 h, fun h => q6 h, fun h => q7 h, fun h => q8 h, fun h => q10 h⟩
    · obtain rfl := Option.some.inj ho
      have s0 := (hB.cell (p := ⟨w.heap.size, 0, none⟩) (Nat.lt_of_lt_of_le lb7 le0)).trans ((HB7.out.cell (p := ⟨w.heap.size, 0, none⟩) lb7).trans G0.out)
      have s1 := (hB.cell (p := ⟨w.heap.size, 1, none⟩) (Nat.lt_of_lt_of_le lb7 le0)).trans ((HB7.out.cell (p := ⟨w.heap.size, 1, none⟩) lb7).trans G1.out)
      refine wpOp_plain ho rfl ?_
      clear ho hd
      go_wp2
      exact ⟨v12, v13, v30, v31, v32, v33, v34, v35, _, v37, v38, v39, _, _, _, _, _, _, _, _, _, _, _, _, _, _, _, _, _, _, _, _, _, _, _, _, _, _, _, _, _, _, _, _, hB, fun h => i0 h, fun h => i1 h, fun h => i2 h, fun h => i3 h, fun h => i4 h, fun _ => rfl, fun h => i9 h, fun h => i11 h, fun h => q6 h, fun h => q7 h, fun h => q8 h, fun h => q10 h⟩
    · obtain rfl := Option.some.inj ho
      obtain rfl := i0 (Hd.out ⟨0, .data⟩ (by simp) rfl)
      obtain rfl := i2 (Hd.out ⟨2, .data⟩ (by simp) rfl)
      obtain rfl := i4 (Hd.out ⟨4, .data⟩ (by simp) rfl)
      obtain rfl := i5 (Hd.out ⟨5, .data⟩ (by simp) rfl)
      have Hcall := Lib.hid (Cells.out X (HBw.out.trans (hB.mono HBw.out.size)))
      have j6 := Lib.hid q6
      have j7 := Lib.hid q7
      have j8 := Lib.hid q8
      have j10 := Lib.hid q10
      clear q6 q7 q8 q10
      refine wpOp_plain ho rfl ?_
      clear ho hd
      go_wp2_with (go_at_call 22; refine Hcall.out.mono ?_; rintro e W1 ⟨⟨A', c', rfl, hrc⟩, hb⟩)
      have q6 := j6.out
      have q7 := j7.out
      have q8 := j8.out
      have q10 := j10.out
      exact ⟨v12, v13, v30, _, v32, _, v34, _, _, _, v38, v39, _, _, _, _, _, _, _, _, _, _, _, _, _, _, _, _, _, _, _, _, _, _, _, _, _, _, _, _, _, _, _, _, hB.trans (hb.mono hB.size), fun _ => rfl, fun h => i1 h, fun _ => rfl, fun h => i3 h, fun _ => rfl, fun _ => rfl, fun h => i9 h, fun h => i11 h, fun _ => ⟨A', c', rfl, hrc⟩, fun h => (by obtain ⟨A', c', h1, h2⟩ := q7 h; exact ⟨A', c', h1, h2.below hb⟩), fun h => (by obtain ⟨A', c', h1, h2⟩ := q8 h; exact ⟨A', c', h1, h2.below hb⟩), fun h => (by obtain ⟨A', c', h1, h2⟩ := q10 h; exact ⟨A', c', h1, h2.below hb⟩)⟩
    · obtain rfl := Option.some.inj ho
      obtain ⟨A', c', rfl, hrc⟩ := q6 (Hd.out ⟨6, .data⟩ (by simp) rfl)
      refine wpOp_plain ho rfl ?_
      clear ho hd
      go_wp2
      exact ⟨v12, v13, _, v31, v32, v33, v34, v35, v36, _, v38, v39, _, _, _, _, _, _, _, _, _, _, _, _, _, _, _, _, _, _, _, _, _, _, _, _, _, _, _, _, _, _, _, _, hB, fun h => i0 h, fun h => i1 h, fun h => i2 h, fun h => i3 h, fun h => i4 h, fun h => i5 h, fun h => i9 h, fun h => i11 h, fun _ => ⟨A', c', rfl, hrc⟩, fun _ => ⟨A', c', rfl, hrc⟩, fun h => q8 h, fun h => q10 h⟩
    · obtain rfl := Option.some.inj ho
      obtain ⟨A', c', rfl, hrc⟩ := q7 (Hd.out ⟨7, .data⟩ (by simp) rfl)
      refine wpOp_plain ho rfl ?_
      clear ho hd
      go_wp2
      exact ⟨v12, v13, _, v31, v32, v33, v34, v35, v36, v37, _, v39, _, _, _, _, _, _, _, _, _, _, _, _, _, _, _, _, _, _, _, _, _, _, _, _, _, _, _, _, _, _, _, _, hB, fun h => i0 h, fun h => i1 h, fun h => i2 h, fun h => i3 h, fun h => i4 h, fun h => i5 h, fun h => i9 h, fun h => i11 h, fun h => q6 h, fun _ => ⟨A', c', rfl, hrc⟩, fun _ => ⟨A', c', rfl, hrc⟩, fun h => q10 h⟩
    · obtain rfl := Option.some.inj ho
      obtain ⟨A', c', rfl, hrc⟩ := q7 (Hd.out ⟨7, .data⟩ (by simp) rfl)
      refine wpOp_plain ho rfl ?_
      clear ho hd
      go_wp2
      exact ⟨v12, v13, _, v31, v32, v33, v34, v35, v36, v37, v38, _, _, _, _, _, _, _, _, _, _, _, _, _, _, _, _, _, _, _, _, _, _, _, _, _, _, _, _, _, _, _, _, _, hB, fun h => i0 h, fun h => i1 h, fun h => i2 h, fun h => i3 h, fun h => i4 h, fun h => i5 h, fun _ => rfl, fun h => i11 h, fun h => q6 h, fun _ => ⟨A', c', rfl, hrc⟩, fun h => q8 h, fun h => q10 h⟩
    · obtain rfl := Option.some.inj ho
      obtain ⟨A', c', rfl, hrc⟩ := q8 (Hd.out ⟨8, .data⟩ (by simp) rfl)
      refine wpOp_plain ho rfl ?_
      clear ho hd
      go_wp2
      exact ⟨_, v13, v30, v31, v32, v33, v34, v35, v36, v37, _, v39, _, _, _, _, _, _, _, _, _, _, _, _, _, _, _, _, _, _, _, _, _, _, _, _, _, _, _, _, _, _, _, _, hB, fun h => i0 h, fun h => i1 h, fun h => i2 h, fun h => i3 h, fun h => i4 h, fun h => i5 h, fun h => i9 h, fun h => i11 h, fun h => q6 h, fun h => q7 h, fun _ => ⟨A', c', rfl, hrc⟩, fun _ => ⟨A', c', rfl, hrc⟩⟩
    · obtain rfl := Option.some.inj ho
      obtain rfl := i9 (Hd.out ⟨9, .data⟩ (by simp) rfl)
      refine wpOp_plain ho rfl ?_
      clear ho hd
      go_wp2
      exact ⟨v12, _, v30, v31, v32, v33, v34, v35, v36, v37, v38, _, _, _, _, _, _, _, _, _, _, _, _, _, _, _, _, _, _, _, _, _, _, _, _, _, _, _, _, _, _, _, _, _, hB, fun h => i0 h, fun h => i1 h, fun h => i2 h, fun h => i3 h, fun h => i4 h, fun h => i5 h, fun _ => rfl, fun _ => rfl, fun h => q6 h, fun h => q7 h, fun h => q8 h, fun h => q10 h⟩
  rintro done a X hall ⟨v12, v13, v30, v31, v32, v33, v34, v35, v36, v37, v38, v39, f3, f4, f5, f6, f8, f14, f15, f16, f17, f18, f19, f20, f21, f22, f23, f24, f25, f26, f27, f28, f29, f40, f41, f42, f43, f44, f45, f46, f47, f48, f49, f50, hB, i0, i1, i2, i3, i4, i5, i9, i11, q6, q7, q8, q10⟩
  obtain ⟨A', c', e30, hrc⟩ := q10 (hall 10 (by simp))
  subst e30
  obtain rfl := i11 (hall 11 (by simp))
  clear hall i0 i1 i2 i3 i4 i5 i9 i11 q6 q7 q8 q10
  have HS := Lib.hid (c23 A1 A' rs c1 c' X (HR1.out.below hB) hrc hrs)
  have HBX := Lib.hid (HBw.out.trans (hB.mono HBw.out.size))
  clear hrc hB
  go_wp2_with (go_at_call 23; refine HS.out.mono ?_; rintro e w5 ⟨rfl, hd5⟩)
  go_ret
  exact ⟨rfl, HBX.out.trans ((hd5.below _).mono HBX.out.size)⟩

end Go.Proofs.Ytnjifmoclfgegaa
