/- The contract of contest.Winner: any slice of sides. -/
import Derived.Test.YtffnnfdlelaonaaD
namespace Go.Proofs.Ytffnnfdlelaonaa
open Go.RowKit Go.Shelf
set_option linter.unusedVariables false

/-- the one that is ahead of all among the first k -/
def led (xs : List Side) : Nat → Side
  | 0 => xs[0]?.getD default
  | k + 1 => if ord (xs[k]?.getD default) (led xs k) < 0 then xs[k]?.getD default else led xs k
theorem led_one (xs : List Side) : led xs 1 = xs[0]?.getD default := by
  show (if ord (xs[0]?.getD default) (xs[0]?.getD default) < 0 then xs[0]?.getD default else xs[0]?.getD default) = _
  by_cases h : ord (xs[0]?.getD default) (xs[0]?.getD default) < 0
  · rw [if_pos h]
  · rw [if_neg h]
theorem led_mem (xs : List Side) (h : xs ≠ []) : ∀ k, k ≤ xs.length → led xs k ∈ xs
  | 0, _ => by cases xs with
    | nil => exact absurd rfl h
    | cons x l => simp [led]
  | k + 1, hk => by
    have hm : xs[k]?.getD default ∈ xs := by
      rw [List.getElem?_eq_getElem (by omega)]; exact List.getElem_mem _
    simp only [led]
    split
    · exact hm
    · exact led_mem xs h k (by omega)

/-- what holds between the operations of Winner's comparison -/
def WinInv (W0 : World) (b off c n : Nat) (B2 B4 : Nat) (k : Nat) (x y : Side) (o : Int) (v6 v7 v8 v9 v10 v11 v12 v13 v14 v15 v16 v17 v18 v19 v20 v21 v22 v30 v31 v32 v33 v34 v35 : Value) (done : Nat → Bool) (a : Act) (W : World) : Prop :=
  ∃ v23 v24 v25 v26 v27 v28 v29 : Value, a = { tmps := #[.slice (some ⟨b, off, none⟩) n c, undef, .pointer (some ⟨B2, 0, none⟩), .int .i64 0, .pointer (some ⟨B4, 0, none⟩), .int .i64 k, v6, v7, v8, v9, v10, v11, v12, v13, v14, v15, v16, v17, v18, v19, v20, v21, v22, v23, v24, v25, v26, v27, v28, v29, v30, v31, v32, v33, v34, v35], defers := [] } ∧
    Below W0.heap.size W0 W ∧ (done 0 = true → v23 = .slice (some ⟨b, off, none⟩) n c) ∧ (done 1 = true → v24 = .int .i64 k) ∧ (done 2 = true → v25 = .pointer (some ⟨b, off + k * 6, none⟩)) ∧ (done 3 = true → v26 = .agg x.arr) ∧ (done 4 = true → v27 = .agg y.arr) ∧ (done 5 = true → v28 = .int .i64 o) ∧ (done 6 = true → v29 = .bool (decide (o < 0)))

/-- what holds at the label -/
def WinJ (w : World) (xs : List Side) (A : Option Addr) (c : Nat) (a : Act) (W : World) : Prop :=
  ∃ (k B2 B4 : Nat) (y : Side) (v6 v7 v8 v9 v10 v11 v12 v13 v14 v15 v16 v17 v18 v19 v20 v21 v22 v23 v24 v25 v26 v27 v28 v29 v30 v31 v32 v33 v34 v35 : Value), 1 ≤ k ∧ k ≤ xs.length ∧ Hid (y = led xs k) ∧ Row W B2 default ∧ Row W B4 y ∧ w.heap.size ≤ B2 ∧ w.heap.size ≤ B4 ∧ B2 ≠ B4 ∧ Below w.heap.size w W ∧
    a = { tmps := #[.slice A xs.length c, undef, .pointer (some ⟨B2, 0, none⟩), .int .i64 0, .pointer (some ⟨B4, 0, none⟩), .int .i64 k, v6, v7, v8, v9, v10, v11, v12, v13, v14, v15, v16, v17, v18, v19, v20, v21, v22, v23, v24, v25, v26, v27, v28, v29, v30, v31, v32, v33, v34, v35], defers := [] }

theorem wp_scope_label {P : Program} {a : Act} {w : World} {Q : Exit → Act → World → Prop} {c rest : Code} (l : Nat) (J : Act → World → Prop) (μ : Act → World → Nat) (hf : findLabel c l = some (Code.skip.seq rest))
    (first : (∀ a w, J a w → rest.wp P (Exit.jump l J Q) a w) → c.wp P (Exit.jump l J Q) a w)
    (pass : ∀ a w, J a w → rest.wp P (Exit.jump l (fun a' w' => J a' w' ∧ μ a' w' < μ a w) Q) a w) : (Code.scope c).wp P Q a w :=
  wp_scope_jumps l J μ hf (first fun a w hJ => Code.wp_mono (fun e a' w' h => by
    cases e with
    | goto l' => exact ⟨h.1, h.2.1⟩
    | _ => exact h) (pass a w hJ)) fun a w hJ => wp_seq (wp_skip (pass a w hJ))

set_option maxRecDepth 100000 in
set_option maxHeartbeats 2000000 in
theorem c15_right (A : Option Addr) (xs : List Side) (c : Nat) (w : World) (hx : Sides w A xs) (hl : xs.length ≤ 17592186044416) (hwf : ∀ x ∈ xs, x.wf) (hr : ∀ x ∈ xs, right x = true) (hn : xs ≠ []) :
    Calls Try.prog 15 #[.slice A xs.length c] w fun e w' => e = .returned (.tuple #[.agg (led xs xs.length).arr, .int .i64 0]) ∧ Below w.heap.size w w' := by
  have hpos : 0 < xs.length := List.length_pos_iff.2 hn
  have hw : wrongs xs = false := wrongs_iff.2 hr
  have H26 := Lib.hid (fun (s t : Side) W (hs : s ∈ xs) (ht : t ∈ xs) => c26 s t W (hr s hs) (hwf s hs) (hr t ht) (hwf t ht))
  have H25 := Lib.hid (fun W (h : Sides W A xs) => by have := c25 A xs c W h hl; rw [hw] at this; exact this)
  have Hm := Lib.hid (fun k => led_mem xs hn k)
  have Hx := Lib.hid hx
  clear hx hw hn hr hwf
  go_enter Try.func15, Try.ntmps15
  go_wp2
  refine wp_scope_label 0 (WinJ w xs A c) (fun a _ => xs.length - (intOf (a.tmps.getD 5 undef)).toNat) rfl ?first ?pass
  case first =>
    intro hpass
    have hbw : Below w.heap.size w (w.alloc (.cells (default : Side).arr 30)) := (Below.refl _ w).alloc (Nat.le_refl _) _
    obtain ⟨x, b, off, hx0, rfl, hc⟩ := (Hx.out.below hbw).get 0 hpos
    have t1 : ((xs.length : Int) == 0) = false := by rw [beq_eq_false_iff_ne]; omega
    have t2 : (xs.length == 0) = false := by rw [beq_eq_false_iff_ne]; omega
    have Hc := Lib.hid hc
    have Hbw := Lib.hid hbw
    clear hc hbw
    go_wp2_with (fail)
    refine (H25.out _ (Hx.out.below Hbw.out)).mono ?_
    rintro e w1 ⟨rfl, hb1⟩
    have hc1 := Hc.out.below hb1 Hc.out.lt
    rw [Nat.zero_mul, Nat.add_zero] at hc1
    obtain ⟨q0, q1, q2, q3, q4, q5⟩ := hc1
    go_wp2_with (fail)
    rename_i hK
    refine wp_label (hK _ _ (hpass _ _ ?_))
    clear hK
    have hsz := Hbw.out.size
    rw [World.size_alloc] at hsz
    have hs1 := hb1.size
    rw [World.size_alloc] at hs1
    have hB1 : Below w.heap.size w w1 := Hbw.out.trans (hb1.mono (by rw [World.size_alloc]; omega))
    refine ⟨1, w.heap.size, w1.heap.size, x, _, _, _, _, _, _, _, _, _, _, _, _, _, _, _, _, _, _, _, _, _, _, _, _, _, _, _, _, _, _, Nat.le_refl _, hpos, Lib.hid (by rw [led_one, hx0.out]), ((Row.new w default).turn hb1).alloc _, Row.new w1 x, Nat.le_refl _, by omega, by omega, hB1.alloc (by omega) _, rfl⟩
  case pass =>
    rintro a W ⟨k, B2, B4, y, v6, v7, v8, v9, v10, v11, v12, v13, v14, v15, v16, v17, v18, v19, v20, v21, v22, v23, v24, v25, v26, v27, v28, v29, v30, v31, v32, v33, v34, v35, hk1, hk, hy, R2, R4, hB2, hB4, hne, hB, rfl⟩
    have HM := Hm.out k hk
    rw [← hy.out] at HM
    obtain ⟨y0, y1, y2, y3, y4, y5⟩ := R4.side
    obtain ⟨z0, z1, z2, z3, z4, z5⟩ := R2.side
    by_cases hlt : k < xs.length
    · have t1 : (k == xs.length) = false := by rw [beq_eq_false_iff_ne]; omega
      have t2 : ((k : Int) == (xs.length : Int)) = false := by rw [beq_eq_false_iff_ne]; omega
      obtain ⟨x, b, off, hxk, rfl, hc⟩ := (Hx.out.below hB).get k hlt
      have hxm : x ∈ xs := by
        rw [← hxk.out, List.getElem?_eq_getElem hlt]; exact List.getElem_mem _
      have H := Lib.hid (fun W => H26.out x y W hxm HM)
      have Hc := Lib.hid hc
      clear hc
      go_wp2
      refine wp_region_done (by kernel_rfl) (by kernel_rfl) (WinInv W b off c xs.length B2 B4 k x y (ord x y) v6 v7 v8 v9 v10 v11 v12 v13 v14 v15 v16 v17 (.int .i64 k) (.slice (some ⟨b, off, none⟩) xs.length c) (.int .i64 xs.length) (.bool false) v22 v30 v31 v32 v33 v34 v35) ?_ ?_ ?_
      · exact ⟨_, _, _, _, _, _, _, rfl, (Dr.refl W).step1.below _, fun h => by simp at h, fun h => by simp at h, fun h => by simp at h, fun h => by simp at h, fun h => by simp at h, fun h => by simp at h, fun h => by simp at h⟩
      · rintro done i o a X ho hd he ⟨v23, v24, v25, v26, v27, v28, v29, rfl, hBX, i0, i1, i2, i3, i4, i5, i6⟩ K hK
        clear y0 y1 y2 y3 y4 y5 z0 z1 z2 z3 z4 z5
        have Hd := Lib.hid he
        clear he
        rcases i with _ | _ | _ | _ | _ | _ | _ | i
        rotate_left 7
        · exact absurd (Array.getElem?_eq_some_iff.1 ho).1 (by simp)
        · obtain rfl := Option.some.inj ho
          refine wpOp_plain ho rfl ?_
          clear ho hd
          go_wp2
          exact ⟨_, v24, v25, v26, v27, v28, v29, rfl, hBX, fun _ => rfl, fun h => i1 h, fun h => i2 h, fun h => i3 h, fun h => i4 h, fun h => i5 h, fun h => i6 h⟩
        · obtain rfl := Option.some.inj ho
          refine wpOp_plain ho rfl ?_
          clear ho hd
          go_wp2
          exact ⟨v23, _, v25, v26, v27, v28, v29, rfl, hBX, fun h => i0 h, fun _ => rfl, fun h => i2 h, fun h => i3 h, fun h => i4 h, fun h => i5 h, fun h => i6 h⟩
        · obtain rfl := Option.some.inj ho
          obtain rfl := i0 (Hd.out ⟨0, .data⟩ (by simp) rfl)
          obtain rfl := i1 (Hd.out ⟨1, .data⟩ (by simp) rfl)
          refine wpOp_plain ho rfl ?_
          clear ho hd
          go_wp2
          exact ⟨_, _, _, v26, v27, v28, v29, rfl, hBX, fun _ => rfl, fun _ => rfl, fun _ => rfl, fun h => i3 h, fun h => i4 h, fun h => i5 h, fun h => i6 h⟩
        · obtain rfl := Option.some.inj ho
          obtain rfl := i2 (Hd.out ⟨2, .data⟩ (by simp) rfl)
          obtain ⟨q0, q1, q2, q3, q4, q5⟩ := Hc.out.below hBX Hc.out.lt
          refine wpOp_plain ho rfl ?_
          clear ho hd
          go_wp2
          exact ⟨v23, v24, _, _, v27, v28, v29, rfl, hBX, fun h => i0 h, fun h => i1 h, fun _ => rfl, fun _ => rfl, fun h => i4 h, fun h => i5 h, fun h => i6 h⟩
        · obtain rfl := Option.some.inj ho
          obtain ⟨q0, q1, q2, q3, q4, q5⟩ := (R4.turn hBX).side
          refine wpOp_plain ho rfl ?_
          clear ho hd
          go_wp2
          exact ⟨v23, v24, v25, v26, _, v28, v29, rfl, hBX, fun h => i0 h, fun h => i1 h, fun h => i2 h, fun h => i3 h, fun _ => rfl, fun h => i5 h, fun h => i6 h⟩
        · obtain rfl := Option.some.inj ho
          obtain rfl := i3 (Hd.out ⟨3, .data⟩ (by simp) rfl)
          obtain rfl := i4 (Hd.out ⟨4, .data⟩ (by simp) rfl)
          refine wpOp_plain ho rfl ?_
          clear ho hd
          go_wp2_with (go_at_call 26; refine (H.out _).mono ?_; rintro e w2 ⟨rfl, hb2⟩)
          exact ⟨v23, v24, v25, _, _, _, v29, rfl, hBX.trans (hb2.mono hBX.size), fun h => i0 h, fun h => i1 h, fun h => i2 h, fun _ => rfl, fun _ => rfl, fun _ => rfl, fun h => i6 h⟩
        · obtain rfl := Option.some.inj ho
          obtain rfl := i5 (Hd.out ⟨5, .data⟩ (by simp) rfl)
          refine wpOp_plain ho rfl ?_
          clear ho hd
          go_wp2
          exact ⟨v23, v24, v25, v26, v27, _, _, rfl, hBX, fun h => i0 h, fun h => i1 h, fun h => i2 h, fun h => i3 h, fun h => i4 h, fun _ => rfl, fun _ => rfl⟩
      · rintro done a X hall ⟨v23, v24, v25, v26, v27, v28, v29, rfl, hBX, i0, i1, i2, i3, i4, i5, i6⟩
        obtain rfl := i0 (hall 0 (by simp))
        obtain rfl := i1 (hall 1 (by simp))
        obtain rfl := i2 (hall 2 (by simp))
        obtain rfl := i3 (hall 3 (by simp))
        obtain rfl := i4 (hall 4 (by simp))
        obtain rfl := i5 (hall 5 (by simp))
        obtain rfl := i6 (hall 6 (by simp))
        clear i0 i1 i2 i3 i4 i5 i6 hall y0 y1 y2 y3 y4 y5 z0 z1 z2 z3 z4 z5
        have hBx : Below w.heap.size w X := hB.trans (hBX.mono hB.size)
        have hsx := hBX.size
        by_cases ho : ord x y < 0
        · have hd : decide (ord x y < 0) = true := decide_eq_true ho
          have hle : x = led xs (k + 1) := by
            simp only [led]; rw [hxk.out, ← hy.out, if_pos ho]
          rw [hd]
          have Hle := Lib.hid hle
          obtain ⟨q0, q1, q2, q3, q4, q5⟩ := Hc.out.below hBX Hc.out.lt
          have r4 := R4.turn hBX
          have r2 := R2.turn hBX
          obtain ⟨p0, p1, p2, p3, p4, p5⟩ := r4.side
          have f0 := r4.frozen 0
          have f1 := r4.frozen 1
          have f2 := r4.frozen 2
          have f3 := r4.frozen 3
          have f4 := r4.frozen 4
          have f5 := r4.frozen 5
          have R4' := Lib.hid (r4.put x)
          have R2' := Lib.hid (r2.other x hne)
          have HB' := Lib.hid (hBx.trans (put6_below (W := X) (B := B4) (C := w.heap.size) x hB4 hBx.size))
          clear hle ho hd r4 r2
          go_wp2
          refine wp_goto ?_
          exact ⟨rfl, ⟨k + 1, B2, B4, x, _, _, _, _, _, _, _, _, _, _, _, _, _, _, _, _, _, _, _, _, _, _, _, _, _, _, _, _, _, _, by omega, by omega, Hle, R2'.out, R4'.out, hB2, hB4, hne, HB'.out, rfl⟩, by simp [intOf]; omega⟩
        · have hd : decide (ord x y < 0) = false := decide_eq_false ho
          have hle : y = led xs (k + 1) := by
            simp only [led]; rw [hxk.out, ← hy.out, if_neg ho]
          rw [hd]
          have Hle := Lib.hid hle
          clear hle ho hd
          go_wp2
          refine wp_goto ?_
          exact ⟨rfl, ⟨k + 1, B2, B4, y, _, _, _, _, _, _, _, _, _, _, _, _, _, _, _, _, _, _, _, _, _, _, _, _, _, _, _, _, _, _, by omega, by omega, Hle, R2.turn hBX, R4.turn hBX, hB2, hB4, hne, hBx, rfl⟩, by simp [intOf]; omega⟩
    · obtain rfl : k = xs.length := by omega
      have f0 := R2.frozen 0
      have f1 := R2.frozen 1
      have f2 := R2.frozen 2
      have f3 := R2.frozen 3
      have f4 := R2.frozen 4
      have f5 := R2.frozen 5
      have hR := R2.put y
      have hbl := hB.trans (put6_below (W := W) (B := B2) (C := w.heap.size) y hB2 hB.size)
      unfold put6 at hR hbl
      have HR := Lib.hid hR
      have Hbl := Lib.hid hbl
      clear hR hbl
      go_wp2
      generalize ((((((W.setCell ⟨B2, 0, none⟩ (.int .i64 y.style)).setCell ⟨B2, 1, none⟩ (.int .i64 y.width)).setCell ⟨B2, 2, none⟩ (.int .u32 y.color)).setCell ⟨B2, 3, none⟩ (.int .i64 y.by_)).setCell ⟨B2, 4, none⟩ (.int .i64 y.row)).setCell ⟨B2, 5, none⟩ (.int .i64 y.col)) = W2 at *
      obtain ⟨z0, z1, z2, z3, z4, z5⟩ := HR.out.side
      refine ⟨rfl, .tuple #[.agg y.arr, .int .i64 0], by simp [results, Try.results15, go_sem, Side.arr, *], ?_⟩
      rw [← hy.out]
      exact ⟨rfl, Hbl.out⟩

end Go.Proofs.Ytffnnfdlelaonaa
