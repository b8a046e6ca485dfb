/- Contract of rect.spans. -/
import Derived.Test.YtnlojbkjhlhogaaC
import Derived.Test.YtnlojbkjhlhogaaInv2
namespace Go.Proofs.Ytnlojbkjhlhogaa
open Go Go.RowKit IV
set_option linter.unusedVariables false

theorem two_in {X : World} {b : Nat} {t : TypeId} {a c : Value} {p q : Value} (h : X.heap[b]? = some (.cells #[p, q] t (0, 0))) : ((X.setCell ⟨b, 0, none⟩ a).setCell ⟨b, 1, none⟩ c).heap[b]? = some (.cells #[a, c] t (0, 0)) := by
  simp [World.setCell, Array.getElem?_modify, h]
theorem two_out {X : World} {b k : Nat} {a c : Value} (h : k ≠ b) : ((X.setCell ⟨b, 0, none⟩ a).setCell ⟨b, 1, none⟩ c).heap[k]? = X.heap[k]? := by
  rw [Below.heap_setCell _ _ _ _ h, Below.heap_setCell _ _ _ _ h]

inductive SpansI (w : World) (x y u v : Int) (done : Nat → Bool) : Act → World → Prop
  | mk {W : World} (v4 v5 v6 v7 v8 v9 v10 v11 v12 v13 v14 v15 v16 v17 v18 v19 : Value) (hB : Hid (Below w.heap.size w W)) (hR : Hid (W.heap[w.heap.size]? = some (.cells #[.int .i64 x, .int .i64 y, .int .i64 u, .int .i64 v] 23 (0, 0)))) (s1 : Hid (W.heap[w.heap.size + 1]? = some (.cells (if done 16 = true then #[.int .i64 x, .int .i64 (x + u)] else #[.int .i64 0, .int .i64 0]) 49 (0, 0)))) (s2 : Hid (W.heap[w.heap.size + 1 + 1]? = some (.cells (if done 17 = true then #[.int .i64 y, .int .i64 (y + v)] else #[.int .i64 0, .int .i64 0]) 49 (0, 0)))) (i0 : Hid (done 0 = true → v4 = .pointer (some ⟨w.heap.size, 0, none⟩))) (i1 : Hid (done 1 = true → v5 = .int .i64 x)) (i2 : Hid (done 2 = true → v6 = .pointer (some ⟨w.heap.size, 0, none⟩))) (i3 : Hid (done 3 = true → v7 = .int .i64 x)) (i4 : Hid (done 4 = true → v8 = .pointer (some ⟨w.heap.size, 2, none⟩))) (i5 : Hid (done 5 = true → v9 = .int .i64 u)) (i6 : Hid (done 6 = true → v10 = .int .i64 (x + u))) (i7 : Hid (done 7 = true → v11 = .agg #[.int .i64 x, .int .i64 (x + u)])) (i8 : Hid (done 8 = true → v12 = .pointer (some ⟨w.heap.size, 1, none⟩))) (i9 : Hid (done 9 = true → v13 = .int .i64 y)) (i10 : Hid (done 10 = true → v14 = .pointer (some ⟨w.heap.size, 1, none⟩))) (i11 : Hid (done 11 = true → v15 = .int .i64 y)) (i12 : Hid (done 12 = true → v16 = .pointer (some ⟨w.heap.size, 3, none⟩))) (i13 : Hid (done 13 = true → v17 = .int .i64 v)) (i14 : Hid (done 14 = true → v18 = .int .i64 (y + v))) (i15 : Hid (done 15 = true → v19 = .agg #[.int .i64 y, .int .i64 (y + v)])) : SpansI w x y u v done { tmps := #[.agg #[.int .i64 x, .int .i64 y, .int .i64 u, .int .i64 v], .pointer (some ⟨w.heap.size, 0, none⟩), .pointer (some ⟨w.heap.size + 1, 0, none⟩), .pointer (some ⟨w.heap.size + 1 + 1, 0, none⟩), v4, v5, v6, v7, v8, v9, v10, v11, v12, v13, v14, v15, v16, v17, v18, v19], defers := [] } W

set_option maxRecDepth 100000 in
set_option maxHeartbeats 4000000 in
theorem c26 (r : Rect) (w : World) (h1 : IntKind.i64.wrap (r.x + r.w) = r.x + r.w) (h2 : IntKind.i64.wrap (r.y + r.h) = r.y + r.h) :
    Calls Try.prog 26 #[.agg r.arr] w fun e w' => e = .returned (.tuple #[.agg #[.int .i64 r.x, .int .i64 (r.x + r.w)], .agg #[.int .i64 r.y, .int .i64 (r.y + r.h)]]) ∧ Below w.heap.size w w' := by
  obtain ⟨x, y, u, v⟩ := r
  unfold Rect.arr
  dsimp only at h1 h2 ⊢
  have X1 := Lib.hid h1
  have X2 := Lib.hid h2
  clear h1 h2
  have b0 := heap_alloc_new w (.cells #[.int .i64 x, .int .i64 y, .int .i64 u, .int .i64 v] 23)
  have b1 := heap_alloc_new (w.alloc (.cells #[.int .i64 x, .int .i64 y, .int .i64 u, .int .i64 v] 23)) (.cells #[.int .i64 0, .int .i64 0] 49)
  have b2 := heap_alloc_new ((w.alloc (.cells #[.int .i64 x, .int .i64 y, .int .i64 u, .int .i64 v] 23)).alloc (.cells #[.int .i64 0, .int .i64 0] 49)) (.cells #[.int .i64 0, .int .i64 0] 49)
  rw [World.size_alloc] at b1
  rw [World.size_alloc, World.size_alloc] at b2
  have HB : Hid (Below w.heap.size w (((w.alloc (.cells #[.int .i64 x, .int .i64 y, .int .i64 u, .int .i64 v] 23)).alloc (.cells #[.int .i64 0, .int .i64 0] 49)).alloc (.cells #[.int .i64 0, .int .i64 0] 49)).drew) := Lib.hid ((((Below.refl _ w).alloc (Nat.le_refl _) _).alloc (by simp) _).alloc (by simp; omega) _).drew
  go_enter Try.func26, Try.ntmps26
  go_wp2_with (fail)
  have B0 : Hid ((((w.alloc (.cells #[.int .i64 x, .int .i64 y, .int .i64 u, .int .i64 v] 23)).alloc (.cells #[.int .i64 0, .int .i64 0] 49)).alloc (.cells #[.int .i64 0, .int .i64 0] 49)).drew.heap[w.heap.size]? = some (.cells #[.int .i64 x, .int .i64 y, .int .i64 u, .int .i64 v] 23 (0, 0))) :=
    Lib.hid ((Below.heap_alloc _ _ _ (by simp; omega)).trans ((Below.heap_alloc _ _ _ (by simp)).trans b0))
  have B1 : Hid ((((w.alloc (.cells #[.int .i64 x, .int .i64 y, .int .i64 u, .int .i64 v] 23)).alloc (.cells #[.int .i64 0, .int .i64 0] 49)).alloc (.cells #[.int .i64 0, .int .i64 0] 49)).drew.heap[w.heap.size + 1]? = some (.cells #[.int .i64 0, .int .i64 0] 49 (0, 0))) :=
    Lib.hid ((Below.heap_alloc _ _ _ (by simp)).trans b1)
  have B2 : Hid ((((w.alloc (.cells #[.int .i64 x, .int .i64 y, .int .i64 u, .int .i64 v] 23)).alloc (.cells #[.int .i64 0, .int .i64 0] 49)).alloc (.cells #[.int .i64 0, .int .i64 0] 49)).drew.heap[w.heap.size + 1 + 1]? = some (.cells #[.int .i64 0, .int .i64 0] 49 (0, 0))) := Lib.hid b2
  clear b0 b1 b2
  refine wp_region_done2 (by kernel_rfl) (by kernel_rfl) (SpansI w x y u v) ?_ ?_ ?_
  · exact ⟨_, _, _, _, _, _, _, _, _, _, _, _, _, _, _, _, HB, B0, B1, B2, Lib.hid fun h => by simp at h, Lib.hid fun h => by simp at h, Lib.hid fun h => by simp at h, Lib.hid fun h => by simp at h, Lib.hid fun h => by simp at h, Lib.hid fun h => by simp at h, Lib.hid fun h => by simp at h, Lib.hid fun h => by simp at h, Lib.hid fun h => by simp at h, Lib.hid fun h => by simp at h, Lib.hid fun h => by simp at h, Lib.hid fun h => by simp at h, Lib.hid fun h => by simp at h, Lib.hid fun h => by simp at h, Lib.hid fun h => by simp at h, Lib.hid fun h => by simp at h⟩
  · rintro done i o a X ho hd he ⟨v4, v5, v6, v7, v8, v9, v10, v11, v12, v13, v14, v15, v16, v17, v18, v19, hB, hR, s1, s2, i0, i1, i2, i3, i4, i5, i6, i7, i8, i9, i10, i11, i12, i13, i14, i15⟩ K hK
    have Hd := Lib.hid he
    clear he
    rcases i with _ | _ | _ | _ | _ | _ | _ | _ | _ | _ | _ | _ | _ | _ | _ | _ | _ | _ | i
    rotate_left 18
    · exact absurd (Array.getElem?_eq_some_iff.1 ho).1 (by simp)
    · obtain rfl := Option.some.inj ho
      refine wpOp_plain ho rfl ?_
      clear ho hd
      go_wp2
      exact ⟨_, _, _, _, _, _, _, _, _, _, _, _, _, _, _, _, hB, hR, s1, s2, Lib.hid fun _ => rfl, Lib.hid fun h => i1.out h, Lib.hid fun h => i2.out h, Lib.hid fun h => i3.out h, Lib.hid fun h => i4.out h, Lib.hid fun h => i5.out h, Lib.hid fun h => i6.out h, Lib.hid fun h => i7.out h, Lib.hid fun h => i8.out h, Lib.hid fun h => i9.out h, Lib.hid fun h => i10.out h, Lib.hid fun h => i11.out h, Lib.hid fun h => i12.out h, Lib.hid fun h => i13.out h, Lib.hid fun h => i14.out h, Lib.hid fun h => i15.out h⟩
    · obtain rfl := Option.some.inj ho
      obtain rfl := i0.out (Hd.out ⟨0, .data⟩ (by simp) rfl)
      have z : X.cell? ⟨w.heap.size, 0, none⟩ = some (.int .i64 x) := by unfold World.cell?; rw [hR.out]; rfl
      refine wpOp_plain ho rfl ?_
      clear ho hd
      go_wp2
      exact ⟨_, _, _, _, _, _, _, _, _, _, _, _, _, _, _, _, hB, hR, s1, s2, Lib.hid fun _ => rfl, Lib.hid fun _ => rfl, Lib.hid fun h => i2.out h, Lib.hid fun h => i3.out h, Lib.hid fun h => i4.out h, Lib.hid fun h => i5.out h, Lib.hid fun h => i6.out h, Lib.hid fun h => i7.out h, Lib.hid fun h => i8.out h, Lib.hid fun h => i9.out h, Lib.hid fun h => i10.out h, Lib.hid fun h => i11.out h, Lib.hid fun h => i12.out h, Lib.hid fun h => i13.out h, Lib.hid fun h => i14.out h, Lib.hid fun h => i15.out h⟩
    · obtain rfl := Option.some.inj ho
      refine wpOp_plain ho rfl ?_
      clear ho hd
      go_wp2
      exact ⟨_, _, _, _, _, _, _, _, _, _, _, _, _, _, _, _, hB, hR, s1, s2, Lib.hid fun h => i0.out h, Lib.hid fun h => i1.out h, Lib.hid fun _ => rfl, Lib.hid fun h => i3.out h, Lib.hid fun h => i4.out h, Lib.hid fun h => i5.out h, Lib.hid fun h => i6.out h, Lib.hid fun h => i7.out h, Lib.hid fun h => i8.out h, Lib.hid fun h => i9.out h, Lib.hid fun h => i10.out h, Lib.hid fun h => i11.out h, Lib.hid fun h => i12.out h, Lib.hid fun h => i13.out h, Lib.hid fun h => i14.out h, Lib.hid fun h => i15.out h⟩
    · obtain rfl := Option.some.inj ho
      obtain rfl := i2.out (Hd.out ⟨2, .data⟩ (by simp) rfl)
      have z : X.cell? ⟨w.heap.size, 0, none⟩ = some (.int .i64 x) := by unfold World.cell?; rw [hR.out]; rfl
      refine wpOp_plain ho rfl ?_
      clear ho hd
      go_wp2
      exact ⟨_, _, _, _, _, _, _, _, _, _, _, _, _, _, _, _, hB, hR, s1, s2, Lib.hid fun h => i0.out h, Lib.hid fun h => i1.out h, Lib.hid fun _ => rfl, Lib.hid fun _ => rfl, Lib.hid fun h => i4.out h, Lib.hid fun h => i5.out h, Lib.hid fun h => i6.out h, Lib.hid fun h => i7.out h, Lib.hid fun h => i8.out h, Lib.hid fun h => i9.out h, Lib.hid fun h => i10.out h, Lib.hid fun h => i11.out h, Lib.hid fun h => i12.out h, Lib.hid fun h => i13.out h, Lib.hid fun h => i14.out h, Lib.hid fun h => i15.out h⟩
    · obtain rfl := Option.some.inj ho
      refine wpOp_plain ho rfl ?_
      clear ho hd
      go_wp2
      exact ⟨_, _, _, _, _, _, _, _, _, _, _, _, _, _, _, _, hB, hR, s1, s2, Lib.hid fun h => i0.out h, Lib.hid fun h => i1.out h, Lib.hid fun h => i2.out h, Lib.hid fun h => i3.out h, Lib.hid fun _ => rfl, Lib.hid fun h => i5.out h, Lib.hid fun h => i6.out h, Lib.hid fun h => i7.out h, Lib.hid fun h => i8.out h, Lib.hid fun h => i9.out h, Lib.hid fun h => i10.out h, Lib.hid fun h => i11.out h, Lib.hid fun h => i12.out h, Lib.hid fun h => i13.out h, Lib.hid fun h => i14.out h, Lib.hid fun h => i15.out h⟩
    · obtain rfl := Option.some.inj ho
      obtain rfl := i4.out (Hd.out ⟨4, .data⟩ (by simp) rfl)
      have z : X.cell? ⟨w.heap.size, 2, none⟩ = some (.int .i64 u) := by unfold World.cell?; rw [hR.out]; rfl
      refine wpOp_plain ho rfl ?_
      clear ho hd
      go_wp2
      exact ⟨_, _, _, _, _, _, _, _, _, _, _, _, _, _, _, _, hB, hR, s1, s2, Lib.hid fun h => i0.out h, Lib.hid fun h => i1.out h, Lib.hid fun h => i2.out h, Lib.hid fun h => i3.out h, Lib.hid fun _ => rfl, Lib.hid fun _ => rfl, Lib.hid fun h => i6.out h, Lib.hid fun h => i7.out h, Lib.hid fun h => i8.out h, Lib.hid fun h => i9.out h, Lib.hid fun h => i10.out h, Lib.hid fun h => i11.out h, Lib.hid fun h => i12.out h, Lib.hid fun h => i13.out h, Lib.hid fun h => i14.out h, Lib.hid fun h => i15.out h⟩
    · obtain rfl := Option.some.inj ho
      obtain rfl := i3.out (Hd.out ⟨3, .data⟩ (by simp) rfl)
      obtain rfl := i5.out (Hd.out ⟨5, .data⟩ (by simp) rfl)
      have s := X1.out
      refine wpOp_plain ho rfl ?_
      clear ho hd
      go_wp2
      exact ⟨_, _, _, _, _, _, _, _, _, _, _, _, _, _, _, _, hB, hR, s1, s2, Lib.hid fun h => i0.out h, Lib.hid fun h => i1.out h, Lib.hid fun h => i2.out h, Lib.hid fun _ => rfl, Lib.hid fun h => i4.out h, Lib.hid fun _ => rfl, Lib.hid fun _ => rfl, Lib.hid fun h => i7.out h, Lib.hid fun h => i8.out h, Lib.hid fun h => i9.out h, Lib.hid fun h => i10.out h, Lib.hid fun h => i11.out h, Lib.hid fun h => i12.out h, Lib.hid fun h => i13.out h, Lib.hid fun h => i14.out h, Lib.hid fun h => i15.out h⟩
    · obtain rfl := Option.some.inj ho
      obtain rfl := i1.out (Hd.out ⟨1, .data⟩ (by simp) rfl)
      obtain rfl := i6.out (Hd.out ⟨6, .data⟩ (by simp) rfl)
      refine wpOp_plain ho rfl ?_
      clear ho hd
      go_wp2
      exact ⟨_, _, _, _, _, _, _, _, _, _, _, _, _, _, _, _, hB, hR, s1, s2, Lib.hid fun h => i0.out h, Lib.hid fun _ => rfl, Lib.hid fun h => i2.out h, Lib.hid fun h => i3.out h, Lib.hid fun h => i4.out h, Lib.hid fun h => i5.out h, Lib.hid fun _ => rfl, Lib.hid fun _ => rfl, Lib.hid fun h => i8.out h, Lib.hid fun h => i9.out h, Lib.hid fun h => i10.out h, Lib.hid fun h => i11.out h, Lib.hid fun h => i12.out h, Lib.hid fun h => i13.out h, Lib.hid fun h => i14.out h, Lib.hid fun h => i15.out h⟩
    · obtain rfl := Option.some.inj ho
      refine wpOp_plain ho rfl ?_
      clear ho hd
      go_wp2
      exact ⟨_, _, _, _, _, _, _, _, _, _, _, _, _, _, _, _, hB, hR, s1, s2, Lib.hid fun h => i0.out h, Lib.hid fun h => i1.out h, Lib.hid fun h => i2.out h, Lib.hid fun h => i3.out h, Lib.hid fun h => i4.out h, Lib.hid fun h => i5.out h, Lib.hid fun h => i6.out h, Lib.hid fun h => i7.out h, Lib.hid fun _ => rfl, Lib.hid fun h => i9.out h, Lib.hid fun h => i10.out h, Lib.hid fun h => i11.out h, Lib.hid fun h => i12.out h, Lib.hid fun h => i13.out h, Lib.hid fun h => i14.out h, Lib.hid fun h => i15.out h⟩
    · obtain rfl := Option.some.inj ho
      obtain rfl := i8.out (Hd.out ⟨8, .data⟩ (by simp) rfl)
      have z : X.cell? ⟨w.heap.size, 1, none⟩ = some (.int .i64 y) := by unfold World.cell?; rw [hR.out]; rfl
      refine wpOp_plain ho rfl ?_
      clear ho hd
      go_wp2
      exact ⟨_, _, _, _, _, _, _, _, _, _, _, _, _, _, _, _, hB, hR, s1, s2, Lib.hid fun h => i0.out h, Lib.hid fun h => i1.out h, Lib.hid fun h => i2.out h, Lib.hid fun h => i3.out h, Lib.hid fun h => i4.out h, Lib.hid fun h => i5.out h, Lib.hid fun h => i6.out h, Lib.hid fun h => i7.out h, Lib.hid fun _ => rfl, Lib.hid fun _ => rfl, Lib.hid fun h => i10.out h, Lib.hid fun h => i11.out h, Lib.hid fun h => i12.out h, Lib.hid fun h => i13.out h, Lib.hid fun h => i14.out h, Lib.hid fun h => i15.out h⟩
    · obtain rfl := Option.some.inj ho
      refine wpOp_plain ho rfl ?_
      clear ho hd
      go_wp2
      exact ⟨_, _, _, _, _, _, _, _, _, _, _, _, _, _, _, _, hB, hR, s1, s2, Lib.hid fun h => i0.out h, Lib.hid fun h => i1.out h, Lib.hid fun h => i2.out h, Lib.hid fun h => i3.out h, Lib.hid fun h => i4.out h, Lib.hid fun h => i5.out h, Lib.hid fun h => i6.out h, Lib.hid fun h => i7.out h, Lib.hid fun h => i8.out h, Lib.hid fun h => i9.out h, Lib.hid fun _ => rfl, Lib.hid fun h => i11.out h, Lib.hid fun h => i12.out h, Lib.hid fun h => i13.out h, Lib.hid fun h => i14.out h, Lib.hid fun h => i15.out h⟩
    · obtain rfl := Option.some.inj ho
      obtain rfl := i10.out (Hd.out ⟨10, .data⟩ (by simp) rfl)
      have z : X.cell? ⟨w.heap.size, 1, none⟩ = some (.int .i64 y) := by unfold World.cell?; rw [hR.out]; rfl
      refine wpOp_plain ho rfl ?_
      clear ho hd
      go_wp2
      exact ⟨_, _, _, _, _, _, _, _, _, _, _, _, _, _, _, _, hB, hR, s1, s2, Lib.hid fun h => i0.out h, Lib.hid fun h => i1.out h, Lib.hid fun h => i2.out h, Lib.hid fun h => i3.out h, Lib.hid fun h => i4.out h, Lib.hid fun h => i5.out h, Lib.hid fun h => i6.out h, Lib.hid fun h => i7.out h, Lib.hid fun h => i8.out h, Lib.hid fun h => i9.out h, Lib.hid fun _ => rfl, Lib.hid fun _ => rfl, Lib.hid fun h => i12.out h, Lib.hid fun h => i13.out h, Lib.hid fun h => i14.out h, Lib.hid fun h => i15.out h⟩
    · obtain rfl := Option.some.inj ho
      refine wpOp_plain ho rfl ?_
      clear ho hd
      go_wp2
      exact ⟨_, _, _, _, _, _, _, _, _, _, _, _, _, _, _, _, hB, hR, s1, s2, Lib.hid fun h => i0.out h, Lib.hid fun h => i1.out h, Lib.hid fun h => i2.out h, Lib.hid fun h => i3.out h, Lib.hid fun h => i4.out h, Lib.hid fun h => i5.out h, Lib.hid fun h => i6.out h, Lib.hid fun h => i7.out h, Lib.hid fun h => i8.out h, Lib.hid fun h => i9.out h, Lib.hid fun h => i10.out h, Lib.hid fun h => i11.out h, Lib.hid fun _ => rfl, Lib.hid fun h => i13.out h, Lib.hid fun h => i14.out h, Lib.hid fun h => i15.out h⟩
    · obtain rfl := Option.some.inj ho
      obtain rfl := i12.out (Hd.out ⟨12, .data⟩ (by simp) rfl)
      have z : X.cell? ⟨w.heap.size, 3, none⟩ = some (.int .i64 v) := by unfold World.cell?; rw [hR.out]; rfl
      refine wpOp_plain ho rfl ?_
      clear ho hd
      go_wp2
      exact ⟨_, _, _, _, _, _, _, _, _, _, _, _, _, _, _, _, hB, hR, s1, s2, Lib.hid fun h => i0.out h, Lib.hid fun h => i1.out h, Lib.hid fun h => i2.out h, Lib.hid fun h => i3.out h, Lib.hid fun h => i4.out h, Lib.hid fun h => i5.out h, Lib.hid fun h => i6.out h, Lib.hid fun h => i7.out h, Lib.hid fun h => i8.out h, Lib.hid fun h => i9.out h, Lib.hid fun h => i10.out h, Lib.hid fun h => i11.out h, Lib.hid fun _ => rfl, Lib.hid fun _ => rfl, Lib.hid fun h => i14.out h, Lib.hid fun h => i15.out h⟩
    · obtain rfl := Option.some.inj ho
      obtain rfl := i11.out (Hd.out ⟨11, .data⟩ (by simp) rfl)
      obtain rfl := i13.out (Hd.out ⟨13, .data⟩ (by simp) rfl)
      have s := X2.out
      refine wpOp_plain ho rfl ?_
      clear ho hd
      go_wp2
      exact ⟨_, _, _, _, _, _, _, _, _, _, _, _, _, _, _, _, hB, hR, s1, s2, Lib.hid fun h => i0.out h, Lib.hid fun h => i1.out h, Lib.hid fun h => i2.out h, Lib.hid fun h => i3.out h, Lib.hid fun h => i4.out h, Lib.hid fun h => i5.out h, Lib.hid fun h => i6.out h, Lib.hid fun h => i7.out h, Lib.hid fun h => i8.out h, Lib.hid fun h => i9.out h, Lib.hid fun h => i10.out h, Lib.hid fun _ => rfl, Lib.hid fun h => i12.out h, Lib.hid fun _ => rfl, Lib.hid fun _ => rfl, Lib.hid fun h => i15.out h⟩
    · obtain rfl := Option.some.inj ho
      obtain rfl := i9.out (Hd.out ⟨9, .data⟩ (by simp) rfl)
      obtain rfl := i14.out (Hd.out ⟨14, .data⟩ (by simp) rfl)
      refine wpOp_plain ho rfl ?_
      clear ho hd
      go_wp2
      exact ⟨_, _, _, _, _, _, _, _, _, _, _, _, _, _, _, _, hB, hR, s1, s2, Lib.hid fun h => i0.out h, Lib.hid fun h => i1.out h, Lib.hid fun h => i2.out h, Lib.hid fun h => i3.out h, Lib.hid fun h => i4.out h, Lib.hid fun h => i5.out h, Lib.hid fun h => i6.out h, Lib.hid fun h => i7.out h, Lib.hid fun h => i8.out h, Lib.hid fun _ => rfl, Lib.hid fun h => i10.out h, Lib.hid fun h => i11.out h, Lib.hid fun h => i12.out h, Lib.hid fun h => i13.out h, Lib.hid fun _ => rfl, Lib.hid fun _ => rfl⟩
    · obtain rfl := Option.some.inj ho
      obtain rfl := i7.out (Hd.out ⟨7, .data⟩ (by simp) rfl)
      have e1 := s1.out
      rw [if_neg (by rw [hd]; simp)] at e1
      have z0 : X.cell? ⟨w.heap.size + 1, 0, none⟩ = some (.int .i64 0) := by unfold World.cell?; rw [e1]; rfl
      have z1 : X.cell? ⟨w.heap.size + 1, 1, none⟩ = some (.int .i64 0) := by unfold World.cell?; rw [e1]; rfl
      have f1 : ∀ i, X.frozen? ⟨w.heap.size + 1, i, none⟩ = false := fun i => by simp [World.frozen?, e1]
      have E1 := Lib.hid e1
      clear e1
      refine wpOp_plain ho rfl ?_
      clear ho hd
      go_wp2
      exact ⟨_, _, _, _, _, _, _, _, _, _, _, _, _, _, _, _, Lib.hid ((hB.out.setCell (by simp) _).setCell (by simp) _), Lib.hid (by rw [two_out (by simp)]; exact hR.out), Lib.hid (by rw [two_in E1.out]; rfl), Lib.hid (by rw [two_out (by simp)]; exact s2.out), Lib.hid fun h => i0.out h, Lib.hid fun h => i1.out h, Lib.hid fun h => i2.out h, Lib.hid fun h => i3.out h, Lib.hid fun h => i4.out h, Lib.hid fun h => i5.out h, Lib.hid fun h => i6.out h, Lib.hid fun _ => rfl, Lib.hid fun h => i8.out h, Lib.hid fun h => i9.out h, Lib.hid fun h => i10.out h, Lib.hid fun h => i11.out h, Lib.hid fun h => i12.out h, Lib.hid fun h => i13.out h, Lib.hid fun h => i14.out h, Lib.hid fun h => i15.out h⟩
    · obtain rfl := Option.some.inj ho
      obtain rfl := i15.out (Hd.out ⟨15, .data⟩ (by simp) rfl)
      have e1 := s2.out
      rw [if_neg (by rw [hd]; simp)] at e1
      have z0 : X.cell? ⟨w.heap.size + 1 + 1, 0, none⟩ = some (.int .i64 0) := by unfold World.cell?; rw [e1]; rfl
      have z1 : X.cell? ⟨w.heap.size + 1 + 1, 1, none⟩ = some (.int .i64 0) := by unfold World.cell?; rw [e1]; rfl
      have f1 : ∀ i, X.frozen? ⟨w.heap.size + 1 + 1, i, none⟩ = false := fun i => by simp [World.frozen?, e1]
      have E1 := Lib.hid e1
      clear e1
      refine wpOp_plain ho rfl ?_
      clear ho hd
      go_wp2
      exact ⟨_, _, _, _, _, _, _, _, _, _, _, _, _, _, _, _, Lib.hid ((hB.out.setCell (by simp; omega) _).setCell (by simp; omega) _), Lib.hid (by rw [two_out (by simp; omega)]; exact hR.out), Lib.hid (by rw [two_out (by simp)]; exact s1.out), Lib.hid (by rw [two_in E1.out]; rfl), Lib.hid fun h => i0.out h, Lib.hid fun h => i1.out h, Lib.hid fun h => i2.out h, Lib.hid fun h => i3.out h, Lib.hid fun h => i4.out h, Lib.hid fun h => i5.out h, Lib.hid fun h => i6.out h, Lib.hid fun h => i7.out h, Lib.hid fun h => i8.out h, Lib.hid fun h => i9.out h, Lib.hid fun h => i10.out h, Lib.hid fun h => i11.out h, Lib.hid fun h => i12.out h, Lib.hid fun h => i13.out h, Lib.hid fun h => i14.out h, Lib.hid fun _ => rfl⟩
  · rintro done a X hall ⟨v4, v5, v6, v7, v8, v9, v10, v11, v12, v13, v14, v15, v16, v17, v18, v19, hB, hR, s1, s2, i0, i1, i2, i3, i4, i5, i6, i7, i8, i9, i10, i11, i12, i13, i14, i15⟩
    obtain rfl := i0.out (hall 0 (by simp))
    obtain rfl := i1.out (hall 1 (by simp))
    obtain rfl := i2.out (hall 2 (by simp))
    obtain rfl := i3.out (hall 3 (by simp))
    obtain rfl := i4.out (hall 4 (by simp))
    obtain rfl := i5.out (hall 5 (by simp))
    obtain rfl := i6.out (hall 6 (by simp))
    obtain rfl := i7.out (hall 7 (by simp))
    obtain rfl := i8.out (hall 8 (by simp))
    obtain rfl := i9.out (hall 9 (by simp))
    obtain rfl := i10.out (hall 10 (by simp))
    obtain rfl := i11.out (hall 11 (by simp))
    obtain rfl := i12.out (hall 12 (by simp))
    obtain rfl := i13.out (hall 13 (by simp))
    obtain rfl := i14.out (hall 14 (by simp))
    obtain rfl := i15.out (hall 15 (by simp))
    clear i0 i1 i2 i3 i4 i5 i6 i7 i8 i9 i10 i11 i12 i13 i14 i15
    have e1 := s1.out
    have e2 := s2.out
    rw [if_pos (hall 16 (by simp))] at e1
    rw [if_pos (hall 17 (by simp))] at e2
    have y0 : X.cell? ⟨w.heap.size + 1, 0, none⟩ = some (.int .i64 x) := by unfold World.cell?; rw [e1]; rfl
    have y1 : X.cell? ⟨w.heap.size + 1, 1, none⟩ = some (.int .i64 (x + u)) := by unfold World.cell?; rw [e1]; rfl
    have y2 : X.cell? ⟨w.heap.size + 1 + 1, 0, none⟩ = some (.int .i64 y) := by unfold World.cell?; rw [e2]; rfl
    have y3 : X.cell? ⟨w.heap.size + 1 + 1, 1, none⟩ = some (.int .i64 (y + v)) := by unfold World.cell?; rw [e2]; rfl
    clear e1 e2 hall
    go_wp2_with (fail)
    exact ⟨rfl, .tuple #[.agg #[.int .i64 x, .int .i64 (x + u)], .agg #[.int .i64 y, .int .i64 (y + v)]], by simp [results, Try.results26, go_sem, *], rfl, hB.out⟩

end Go.Proofs.Ytnlojbkjhlhogaa
