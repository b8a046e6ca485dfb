/- Contract of the reference's Winner (chapter 11's text, turned to this program). -/
import Derived.Test.YtmlcjiabnmdfeaaCU
import Derived.Test.YtmlcjiabnmdfeaaOrd
namespace Go.Proofs.Ytmlcjiabnmdfeaa.CT
open Go Go.RowKit Go.Shelf Ords
set_option linter.unusedVariables false

theorem row_put (W : World) (B : Nat) (t s : Side) (h : Row W B t) : Row (((((((W.setCell ⟨B, 0, none⟩ (.int .i64 s.style)).setCell ⟨B, 1, none⟩ (.int .i64 s.width)).setCell ⟨B, 2, none⟩ (.int .u32 s.color)).setCell ⟨B, 3, none⟩ (.int .i64 s.by_)).setCell ⟨B, 4, none⟩ (.int .i64 s.row)).setCell ⟨B, 5, none⟩ (.int .i64 s.col))) B s := h.put s
theorem put_below (W : World) (B C : Nat) (s : Side) (hC : C ≤ B) (hs : C ≤ W.heap.size) : Below C W (((((((W.setCell ⟨B, 0, none⟩ (.int .i64 s.style)).setCell ⟨B, 1, none⟩ (.int .i64 s.width)).setCell ⟨B, 2, none⟩ (.int .u32 s.color)).setCell ⟨B, 3, none⟩ (.int .i64 s.by_)).setCell ⟨B, 4, none⟩ (.int .i64 s.row)).setCell ⟨B, 5, none⟩ (.int .i64 s.col))) := put6_below s hC hs
theorem bad_of {xs : List Side} {k : Nat} (hk : k < xs.length) (h : right (xs[k]?.getD default) = false) : winY xs = default ∧ winF xs = 110 := by
  have hb : bad xs = true := by unfold bad; rw [wrongs_of hk h, Bool.or_true]
  unfold winY winF
  rw [if_pos hb, if_pos hb]
  exact ⟨rfl, rfl⟩
theorem good_of {xs : List Side} (h0 : xs ≠ []) (h : ∀ j, j < xs.length → right (xs[j]?.getD default) = true) : winY xs = led xs xs.length ∧ winF xs = 0 := by
  have hb : ¬ bad xs = true := by
    unfold bad
    rw [wrongs_none h, Bool.or_false, List.isEmpty_iff]
    exact h0
  unfold winY winF
  rw [if_neg hb, if_neg hb]
  exact ⟨rfl, rfl⟩
set_option maxRecDepth 100000 in
set_option maxHeartbeats 4000000 in
/-- the reference's Winner -/
theorem c35 (A : Option Addr) (xs : List Side) (c : Nat) (w : World) (hx : Sides w A xs) (hl : xs.length ≤ 1000) :
    Calls Try.prog 35 #[.slice A xs.length c] w fun e w' => e = .returned (.tuple #[.agg (winY xs).arr, .int .i64 (winF xs)]) ∧ Below w.heap.size w w' := by
  have hb0 : Below w.heap.size w (w.alloc (.cells #[.int .i64 0, .int .i64 0, .int .u32 0, .int .i64 0, .int .i64 0, .int .i64 0] 45)) := (Below.refl _ w).alloc (Nat.le_refl _) _
  have Hb0 := Lib.hid hb0
  have HR0 := Lib.hid (show Row (w.alloc (.cells #[.int .i64 0, .int .i64 0, .int .u32 0, .int .i64 0, .int .i64 0, .int .i64 0] 45)) w.heap.size ⟨0, 0, 0, 0, 0, 0⟩ from Row.new w ⟨0, 0, 0, 0, 0, 0⟩)
  have Hx := Lib.hid (hx.below hb0)
  have hsz : w.heap.size < (w.alloc (.cells #[.int .i64 0, .int .i64 0, .int .u32 0, .int .i64 0, .int .i64 0, .int .i64 0] 45)).heap.size := by simp
  clear hx hb0
  by_cases h0 : xs = []
  · subst h0
    have hY : winY [] = ⟨0, 0, 0, 0, 0, 0⟩ ∧ winF [] = 110 := ⟨rfl, rfl⟩
    rw [hY.1, hY.2]
    clear hY Hx
    go_enter Try.func35, Try.ntmps35
    generalize hw0 : w.alloc (.cells #[.int .i64 0, .int .i64 0, .int .u32 0, .int .i64 0, .int .i64 0, .int .i64 0] 45) = w0 at *
    have f0 := HR0.out.frozen 0
    have f1 := HR0.out.frozen 1
    have f2 := HR0.out.frozen 2
    have f3 := HR0.out.frozen 3
    have f4 := HR0.out.frozen 4
    have f5 := HR0.out.frozen 5
    obtain ⟨z0, z1, z2, z3, z4, z5⟩ := HR0.out.side
    dsimp only at z0 z1 z2 z3 z4 z5
    have HR := Lib.hid (row_put _ _ _ ⟨0, 0, 0, 0, 0, 0⟩ HR0.out)
    have HB := Lib.hid (Hb0.out.trans (put_below w0 w.heap.size w.heap.size ⟨0, 0, 0, 0, 0, 0⟩ (Nat.le_refl _) Hb0.out.size))
    dsimp only at HR HB
    go_wp2_with (fail)
    generalize ((((((w0.setCell ⟨w.heap.size, 0, none⟩ (.int .i64 0)).setCell ⟨w.heap.size, 1, none⟩ (.int .i64 0)).setCell ⟨w.heap.size, 2, none⟩ (.int .u32 0)).setCell ⟨w.heap.size, 3, none⟩ (.int .i64 0)).setCell ⟨w.heap.size, 4, none⟩ (.int .i64 0)).setCell ⟨w.heap.size, 5, none⟩ (.int .i64 0)) = W2 at HR HB ⊢
    clear z0 z1 z2 z3 z4 z5
    obtain ⟨z0, z1, z2, z3, z4, z5⟩ := HR.out.side
    dsimp only at z0 z1 z2 z3 z4 z5
    refine ⟨rfl, .tuple #[.agg #[.int .i64 0, .int .i64 0, .int .u32 0, .int .i64 0, .int .i64 0, .int .i64 0], .int .i64 110], by simp [results, Try.results35, go_sem, *], ?_⟩
    exact ⟨rfl, HB.out⟩
  · have hpos : 0 < xs.length := List.length_pos_iff.2 h0
    have t0 : ((xs.length : Int) == 0) = false := by rw [beq_eq_false_iff_ne]; omega
    have Hn := Lib.hid h0
    clear h0
    go_enter Try.func35, Try.ntmps35
    go_wp2_with (fail)
    generalize w.alloc (.cells #[.int .i64 0, .int .i64 0, .int .u32 0, .int .i64 0, .int .i64 0, .int .i64 0] 45) = w0 at *
    go_loopw [4, 5] (fun bv i wr => ∃ k bi : Nat, k ≤ xs.length ∧ bi < xs.length ∧ i = .int .i64 k ∧ bv = .int .i64 bi ∧ Hid (∀ j, j < k → right (xs[j]?.getD default) = true) ∧ Hid (xs[bi]?.getD default = led xs k) ∧ Hid (Below w0.heap.size w0 wr)) (fun _ i _ => xs.length - (intOf i).toNat)
    case atStart => exact ⟨0, 0, Nat.zero_le _, hpos, rfl, rfl, Lib.hid fun j hj => absurd hj (Nat.not_lt_zero j), Lib.hid rfl, Lib.hid (Below.refl _ _)⟩
    case round =>
      obtain ⟨k, bi, hk, hbi, rfl, rfl, Hrt, Hled, HB⟩ := hrel
      by_cases hlt : k < xs.length
      · have tk : decide ((k : Int) < (xs.length : Int)) = true := decide_eq_true (by omega)
        obtain ⟨x, b, off, hxk, rfl, hc⟩ := (Hx.out.below HB.out).get k hlt
        obtain ⟨y, b', off', hyk, hA, hcy⟩ := (Hx.out.below HB.out).get bi hbi
        cases hA
        have Hc := Lib.hid hc
        have Hcy := Lib.hid hcy
        obtain ⟨x0, x1, x2, x3, x4, x5⟩ := x
        obtain ⟨y0, y1, y2, y3, y4, y5⟩ := y
        obtain ⟨q0, q1, q2, q3, q4, q5⟩ := hc
        clear hcy
        dsimp only at q0 q1 q2 q3 q4 q5
        have C17 := Lib.hid (c17 ⟨x0, x1, x2, x3, x4, x5⟩ wr)
        unfold Side.arr at C17
        dsimp only at C17
        obtain ⟨rx, hrx⟩ : ∃ rx, right ⟨x0, x1, x2, x3, x4, x5⟩ = rx := ⟨_, rfl⟩
        rw [hrx] at C17
        have Hrx := Lib.hid hrx
        clear hrx
        go_wp2_with (fail)
        refine C17.out.mono ?_
        rintro e w1 ⟨rfl, hb1⟩
        clear C17 q0 q1 q2 q3 q4 q5
        have HB1 := Lib.hid (HB.out.trans (hb1.mono HB.out.size))
        have hc1 := Hc.out.below hb1 Hc.out.lt
        have hcy1 := Hcy.out.below hb1 Hcy.out.lt
        obtain ⟨q0, q1, q2, q3, q4, q5⟩ := hc1
        obtain ⟨m0, m1, m2, m3, m4, m5⟩ := hcy1
        dsimp only at q0 q1 q2 q3 q4 q5 m0 m1 m2 m3 m4 m5
        clear hb1
        cases rx with
        | false =>
          have hbad := bad_of hlt (by rw [hxk.out]; exact Hrx.out)
          have Hbad := Lib.hid hbad
          have hr1 := HR0.out.below HB1.out hsz
          have f0 := hr1.frozen 0
          have f1 := hr1.frozen 1
          have f2 := hr1.frozen 2
          have f3 := hr1.frozen 3
          have f4 := hr1.frozen 4
          have f5 := hr1.frozen 5
          obtain ⟨z0, z1, z2, z3, z4, z5⟩ := hr1.side
          dsimp only at z0 z1 z2 z3 z4 z5
          have HR := Lib.hid (row_put _ _ _ ⟨0, 0, 0, 0, 0, 0⟩ hr1)
          have hB2 := Hb0.out.trans (HB1.out.mono Hb0.out.size)
          have HBf := Lib.hid (hB2.trans (put_below w1 w.heap.size w.heap.size ⟨0, 0, 0, 0, 0, 0⟩ (Nat.le_refl _) hB2.size))
          dsimp only at HR HBf
          clear hbad hr1 hB2 q0 q1 q2 q3 q4 q5 m0 m1 m2 m3 m4 m5
          go_wp2_with (fail)
          generalize ((((((w1.setCell ⟨w.heap.size, 0, none⟩ (.int .i64 0)).setCell ⟨w.heap.size, 1, none⟩ (.int .i64 0)).setCell ⟨w.heap.size, 2, none⟩ (.int .u32 0)).setCell ⟨w.heap.size, 3, none⟩ (.int .i64 0)).setCell ⟨w.heap.size, 4, none⟩ (.int .i64 0)).setCell ⟨w.heap.size, 5, none⟩ (.int .i64 0)) = W2 at HR HBf ⊢
          clear z0 z1 z2 z3 z4 z5
          obtain ⟨z0, z1, z2, z3, z4, z5⟩ := HR.out.side
          dsimp only at z0 z1 z2 z3 z4 z5
          refine ⟨rfl, .tuple #[.agg #[.int .i64 0, .int .i64 0, .int .u32 0, .int .i64 0, .int .i64 0, .int .i64 0], .int .i64 110], by simp [results, Try.results35, go_sem, *], ?_⟩
          rw [Hbad.out.1, Hbad.out.2]
          exact ⟨rfl, HBf.out⟩
        | true =>
        go_wp2_with (fail)
        refine wp_region_ord 10 [(0, true), (1, true), (2, true), (3, true), (4, true), (5, true), (6, true), (7, true), (8, true), (9, true)] (by kernel_rfl) (by kernel_rfl) ?_
        intro Wc hWc
        iterate 2
          apply OrdAt.op (fun _ _ _ h => h) rfl rfl rfl
          · intro X hB
            go_simp
            try rfl
          · dsimp only [List.set_cons_zero, List.set_cons_succ]
        apply OrdAt.op (fun _ _ _ h => h) rfl rfl rfl
        · intro X hB
          have tk : decide ((k : Int) < (xs.length : Int)) = true := decide_eq_true (by omega)
          go_simp
          try rfl
        · dsimp only [List.set_cons_zero, List.set_cons_succ]
        apply OrdAt.op (fun _ _ _ h => h) rfl rfl rfl
        · intro X hB
          have s0 := rd (hWc.tr hB) q0
          have s1 := rd (hWc.tr hB) q1
          have s2 := rd (hWc.tr hB) q2
          have s3 := rd (hWc.tr hB) q3
          have s4 := rd (hWc.tr hB) q4
          have s5 := rd (hWc.tr hB) q5
          go_simp
          try rfl
        · dsimp only [List.set_cons_zero, List.set_cons_succ]
        iterate 2
          apply OrdAt.op (fun _ _ _ h => h) rfl rfl rfl
          · intro X hB
            go_simp
            try rfl
          · dsimp only [List.set_cons_zero, List.set_cons_succ]
        apply OrdAt.op (fun _ _ _ h => h) rfl rfl rfl
        · intro X hB
          have tb : decide ((bi : Int) < (xs.length : Int)) = true := decide_eq_true (by omega)
          go_simp
          try rfl
        · dsimp only [List.set_cons_zero, List.set_cons_succ]
        apply OrdAt.op (fun _ _ _ h => h) rfl rfl rfl
        · intro X hB
          have s0 := rd (hWc.tr hB) m0
          have s1 := rd (hWc.tr hB) m1
          have s2 := rd (hWc.tr hB) m2
          have s3 := rd (hWc.tr hB) m3
          have s4 := rd (hWc.tr hB) m4
          have s5 := rd (hWc.tr hB) m5
          go_simp
          try rfl
        · dsimp only [List.set_cons_zero, List.set_cons_succ]
        apply OrdAt.call (fun _ _ _ h => h) rfl rfl rfl
        · intro X hB
          go_simp
          first | exact ⟨rfl, rfl⟩ | rfl
        · intro X hB
          refine (c19 ⟨x0, x1, x2, x3, x4, x5⟩ ⟨y0, y1, y2, y3, y4, y5⟩ _).mono ?_; rintro e W1 ⟨rfl, hb⟩; exact ⟨rfl, hb⟩
        · dsimp only [List.set_cons_zero, List.set_cons_succ]
        apply OrdAt.op (fun _ _ _ h => h) rfl rfl rfl
        · intro X hB
          go_simp
          try rfl
        · dsimp only [List.set_cons_zero, List.set_cons_succ]
        refine OrdAt.done ?_
        intro W5 hW5
        have hW5 := hWc.tr hW5
        have HBf := Lib.hid (HB1.out.trans (hW5.mono HB1.out.size))
        have hor := ord_ref ⟨x0, x1, x2, x3, x4, x5⟩ ⟨y0, y1, y2, y3, y4, y5⟩
        have Hrt2 : Hid (∀ j, j < k + 1 → right (xs[j]?.getD default) = true) := Lib.hid fun j hj => by
          by_cases h : j < k
          · exact Hrt.out j h
          · obtain rfl : j = k := by omega
            rw [hxk.out]; exact Hrx.out
        have hl1 : led xs (k + 1) = if ord ⟨x0, x1, x2, x3, x4, x5⟩ ⟨y0, y1, y2, y3, y4, y5⟩ < 0 then ⟨x0, x1, x2, x3, x4, x5⟩ else ⟨y0, y1, y2, y3, y4, y5⟩ := by
          show (if ord (xs[k]?.getD default) (led xs k) < 0 then xs[k]?.getD default else led xs k) = _
          rw [hxk.out, ← Hled.out, hyk.out]
        clear q0 q1 q2 q3 q4 q5 m0 m1 m2 m3 m4 m5 HB1 HB hW5 hWc
        obtain ⟨rw0, hrw⟩ : ∃ r, refw ⟨x0, x1, x2, x3, x4, x5⟩ ⟨y0, y1, y2, y3, y4, y5⟩ = r := ⟨_, rfl⟩
        rw [hrw] at hor
        rw [hrw]
        cases rw0 with
        | false =>
          rw [if_neg (of_decide_eq_false hor), ← hyk.out] at hl1
          have Hl1 := Lib.hid hl1
          clear hl1 hor hrw
          go_wp2_with (fail)
          go_roundw
          case rel => exact ⟨k + 1, bi, by omega, hbi, by go_num, rfl, Hrt2, Lib.hid Hl1.out.symm, HBf⟩
          case measure => simp [intOf]; omega
        | true =>
          rw [if_pos (of_decide_eq_true hor), ← hxk.out] at hl1
          have Hl1 := Lib.hid hl1
          clear hl1 hor hrw
          go_wp2_with (fail)
          go_roundw
          case rel => exact ⟨k + 1, k, by omega, hlt, by go_num, rfl, Hrt2, Lib.hid Hl1.out.symm, HBf⟩
          case measure => simp [intOf]; omega
      · obtain rfl : k = xs.length := by omega
        have tk : decide ((xs.length : Int) < (xs.length : Int)) = false := decide_eq_false (by omega)
        have tb : decide ((bi : Int) < (xs.length : Int)) = true := decide_eq_true (by omega)
        have hgood := good_of Hn.out Hrt.out
        have Hgood := Lib.hid hgood
        obtain ⟨y, b, off, hyk, rfl, hc⟩ := (Hx.out.below HB.out).get bi hbi
        have hy : y = led xs xs.length := by rw [← hyk.out]; exact Hled.out
        have Hy := Lib.hid hy
        clear hgood hy Hled
        obtain ⟨y0, y1, y2, y3, y4, y5⟩ := y
        obtain ⟨m0, m1, m2, m3, m4, m5⟩ := hc
        dsimp only at m0 m1 m2 m3 m4 m5
        have hr1 := HR0.out.below HB.out hsz
        have f0 := hr1.frozen 0
        have f1 := hr1.frozen 1
        have f2 := hr1.frozen 2
        have f3 := hr1.frozen 3
        have f4 := hr1.frozen 4
        have f5 := hr1.frozen 5
        obtain ⟨z0, z1, z2, z3, z4, z5⟩ := hr1.side
        dsimp only at z0 z1 z2 z3 z4 z5
        have HR := Lib.hid (row_put _ _ _ ⟨y0, y1, y2, y3, y4, y5⟩ hr1)
        have hB2 := Hb0.out.trans (HB.out.mono Hb0.out.size)
        have HBf := Lib.hid (hB2.trans (put_below wr w.heap.size w.heap.size ⟨y0, y1, y2, y3, y4, y5⟩ (Nat.le_refl _) hB2.size))
        dsimp only at HR HBf
        clear hr1 hB2
        go_wp2_with (fail)
        generalize ((((((wr.setCell ⟨w.heap.size, 0, none⟩ (.int .i64 y0)).setCell ⟨w.heap.size, 1, none⟩ (.int .i64 y1)).setCell ⟨w.heap.size, 2, none⟩ (.int .u32 y2)).setCell ⟨w.heap.size, 3, none⟩ (.int .i64 y3)).setCell ⟨w.heap.size, 4, none⟩ (.int .i64 y4)).setCell ⟨w.heap.size, 5, none⟩ (.int .i64 y5)) = W2 at HR HBf ⊢
        clear z0 z1 z2 z3 z4 z5
        obtain ⟨z0, z1, z2, z3, z4, z5⟩ := HR.out.side
        dsimp only at z0 z1 z2 z3 z4 z5
        refine ⟨rfl, .tuple #[.agg #[.int .i64 y0, .int .i64 y1, .int .u32 y2, .int .i64 y3, .int .i64 y4, .int .i64 y5], .int .i64 0], by simp [results, Try.results35, go_sem, *], ?_⟩
        rw [Hgood.out.1, Hgood.out.2, ← Hy.out]
        exact ⟨rfl, HBf.out⟩
end Go.Proofs.Ytmlcjiabnmdfeaa.CT
