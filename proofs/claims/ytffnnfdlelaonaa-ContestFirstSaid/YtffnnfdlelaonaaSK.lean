/- The walk of the law ContestFirst: any sides. -/
import Derived.Test.YtffnnfdlelaonaaSI
namespace Go.Proofs.Ytffnnfdlelaonaa
open Go Go.RowKit Go.Shelf Ords
set_option linter.unusedVariables false

theorem srt_all {xs : List Side} (i : Nat) (hi : i + 1 < (srt xs).length) : ¬ ord ((srt xs)[i + 1]?.getD default) ((srt xs)[i]?.getD default) < 0 := by
  have hp := List.pairwise_iff_getElem.1 (srt_sorted xs) i (i + 1) (by omega) hi (by omega)
  rw [leS_iff] at hp
  rw [List.getElem?_eq_getElem hi, List.getElem?_eq_getElem (show i < (srt xs).length by omega)]
  exact hp

set_option maxRecDepth 100000 in
set_option maxHeartbeats 8000000 in
theorem first_walk (A : Option Addr) (xs0 : List Side) (c : Nat) (w : World) (hx0 : Sides w A xs0) (hc : xs0.length ≤ c) (hl : xs0.length ≤ 17592186044416) (hwf : ∀ x ∈ xs0, x.wf) :
    Calls Try.prog 10 #[.slice A xs0.length c] w fun e w' => e = .returned (.bool true) ∧ Below w.heap.size w w' := by
  have C14 := Lib.hid (fun W => cut14 A xs0 c W hc hl)
  have hlen : (xs0.take 60).length ≤ 60 := by rw [List.length_take]; omega
  have hlc : (xs0.take 60).length ≤ c := by rw [List.length_take]; omega
  have Hx := Lib.hid ((sides_ms hx0).take 60)
  have hwf6 : ∀ x ∈ xs0.take 60, x.wf := fun x h => hwf x (List.mem_of_mem_take h)
  have C15 := Lib.hid (fun W (h : MS W A (xs0.take 60)) => c15 A (xs0.take 60) c W (ms_sides h) (by omega) hwf6)
  have C21 := Lib.hid (fun W (h : MS W A (xs0.take 60)) => c21 A (xs0.take 60) c W h hwf6 (by omega) hlc)
  have Hwf := Lib.hid hwf6
  generalize xs0.take 60 = xs at *
  clear hwf hx0 hwf6
  cases hbad : bad xs with
  | true =>
    have hY : winY xs = default ∧ winF xs = 110 := by unfold winY winF; rw [if_pos hbad, if_pos hbad]; exact ⟨rfl, rfl⟩
    rw [hY.1, hY.2] at C15
    have e0 : (default : Side).arr = #[.int .i64 0, .int .i64 0, .int .u32 0, .int .i64 0, .int .i64 0, .int .i64 0] := rfl
    rw [e0] at C15
    have Hbad := Lib.hid hbad
    clear hY hbad e0
    go_enter Try.func10, Try.ntmps10
    go_wp2_with (fail)
    refine (c11 w).mono ?_
    rintro e w1 ⟨rfl, hb⟩
    have HB1 := Lib.hid hb
    have Hx1 := Lib.hid (Hx.out.below hb)
    clear hb Hx
    go_wp2_with (go_at_call 14; refine (C14.out _).mono ?_; rintro e W1 ⟨rfl, rfl⟩)
    refine (C15.out _ Hx1.out).mono ?_
    rintro e w2 ⟨rfl, hb⟩
    have hb3 := (Below.refl _ w2).alloc (Nat.le_refl _) (.cells #[.int .i64 0, .int .i64 0, .int .u32 0, .int .i64 0, .int .i64 0, .int .i64 0] 30)
    have HB3 := Lib.hid ((HB1.out.trans (hb.mono HB1.out.size)).trans (hb3.mono (Nat.le_trans HB1.out.size hb.size)))
    have Hx3 := Lib.hid ((Hx1.out.below hb).below hb3)
    clear hb hb3 HB1 Hx1
    go_wp2_with (fail)
    refine (C21.out _ Hx3.out).mono ?_
    rintro e w4 ⟨⟨A1, c1, rfl, hm⟩, hb⟩
    have HB4 := Lib.hid (HB3.out.trans (hb.mono HB3.out.size))
    clear hb hm HB3 Hx3
    cases hw : wrongs xs with
    | true =>
      have hs : srtE xs = 110 := by unfold srtE; rw [if_pos hw]
      rw [hs]
      have Hw := Lib.hid hw
      clear hw hs
      go_wp2_with (fail)
      go_ret
      exact ⟨rfl, HB4.out⟩
    | false =>
      have hs : srtE xs = 0 := by unfold srtE; rw [hw]; rfl
      have h0 : xs.length = 0 := by
        have := Hbad.out
        unfold bad at this
        rw [hw, Bool.or_false, List.isEmpty_iff] at this
        rw [this]; rfl
      rw [hs]
      have t0 : ((xs.length : Int) == 0) = true := by rw [beq_iff_eq]; omega
      have Hw := Lib.hid hw
      have H0 := Lib.hid h0
      clear hw hs h0
      go_wp2_with (fail)
      go_ret
      exact ⟨rfl, HB4.out⟩
  | false =>
    have hw : wrongs xs = false := by unfold bad at hbad; rw [Bool.or_eq_false_iff] at hbad; exact hbad.2
    have hne : xs ≠ [] := fun e => by subst e; simp [bad] at hbad
    have hpos : 0 < xs.length := List.length_pos_iff.2 hne
    have hY : winY xs = led xs xs.length ∧ winF xs = 0 := by unfold winY winF; rw [hbad]; exact ⟨rfl, rfl⟩
    have hS : srtY xs = srt xs ∧ srtE xs = 0 := by unfold srtY srtE; rw [hw]; exact ⟨rfl, rfl⟩
    have hright := wrongs_iff.1 hw
    have hh := srt_head hne
    have hall := fun x (h : x ∈ xs) => led_all h
    have hmem := led_mem xs hne xs.length (Nat.le_refl _)
    have hsr : ∀ j, j < (srt xs).length → (srt xs)[j]?.getD default ∈ xs := fun j hj => by rw [List.getElem?_eq_getElem hj]; exact (srt_perm xs).mem_iff.1 (List.getElem_mem hj)
    have hso := fun i => srt_all (xs := xs) i
    have hyl : (srt xs).length = xs.length := srt_len xs
    rw [hY.1, hY.2] at C15
    rw [hS.1, hS.2, hyl] at C21
    generalize led xs xs.length = y at *
    generalize srt xs = ys at *
    have C16 := fun (a b : Side) (W : World) (ha : a ∈ xs) (hb : b ∈ xs) => c16 a b W (Hwf.out a ha) (Hwf.out b hb)
    have C16' : Hid (∀ (a b : Side) (W : World), a ∈ xs → b ∈ xs → Calls Try.prog 16 #[.agg a.arr, .agg b.arr] W fun e w' => e = .returned (.tuple #[.bool (decide (ord a b < 0)), .int .i64 0]) ∧ Below W.heap.size W w') := Lib.hid fun a b W ha hb => by
      have h := C16 a b W ha hb
      have e1 : winsB a b = decide (ord a b < 0) := by unfold winsB; rw [hright a ha, hright b hb]; rfl
      have e2 : okE a b = 0 := by unfold okE; rw [hright a ha, hright b hb]; rfl
      rw [e1, e2] at h
      exact h
    have Hh := Lib.hid hh
    have Hall := Lib.hid hall
    have Hmem := Lib.hid hmem
    have Hsr := Lib.hid hsr
    have Hso := Lib.hid hso
    have Hyl := Lib.hid hyl
    have Hgx := Lib.hid (fun k (hk : k < xs.length) => (show xs[k]?.getD default ∈ xs by rw [List.getElem?_eq_getElem hk]; exact List.getElem_mem hk))
    clear hw hne hY hS hright hh hall hmem hsr hso hyl C16 hbad
    obtain ⟨y0, y1, y2, y3, y4, y5⟩ := y
    unfold Side.arr at C15
    dsimp only at C15
    go_enter Try.func10, Try.ntmps10
    go_wp2_with (fail)
    refine (c11 w).mono ?_
    rintro e w1 ⟨rfl, hb⟩
    have HB1 := Lib.hid hb
    have Hx1 := Lib.hid (Hx.out.below hb)
    clear hb Hx
    go_wp2_with (go_at_call 14; refine (C14.out _).mono ?_; rintro e W1 ⟨rfl, rfl⟩)
    refine (C15.out _ Hx1.out).mono ?_
    rintro e w2 ⟨rfl, hb⟩
    have hb3 := (Below.refl _ w2).alloc (Nat.le_refl _) (.cells #[.int .i64 y0, .int .i64 y1, .int .u32 y2, .int .i64 y3, .int .i64 y4, .int .i64 y5] 30)
    have HB3 := Lib.hid ((HB1.out.trans (hb.mono HB1.out.size)).trans (hb3.mono (Nat.le_trans HB1.out.size hb.size)))
    have HR3 := Lib.hid (show Row (w2.alloc (.cells #[.int .i64 y0, .int .i64 y1, .int .u32 y2, .int .i64 y3, .int .i64 y4, .int .i64 y5] 30)) w2.heap.size ⟨y0, y1, y2, y3, y4, y5⟩ from Row.new w2 ⟨y0, y1, y2, y3, y4, y5⟩)
    have Hx3 := Lib.hid ((Hx1.out.below hb).below hb3)
    clear hb hb3 HB1 Hx1
    go_wp2_with (fail)
    refine (C21.out _ Hx3.out).mono ?_
    rintro e w4 ⟨⟨A1, c1, rfl, hm⟩, hb⟩
    have HB4 := Lib.hid (HB3.out.trans (hb.mono HB3.out.size))
    have Hx4 := Lib.hid (Hx3.out.below hb)
    have HR4 := Lib.hid (HR3.out.turn hb)
    have HM4 := Lib.hid hm
    obtain ⟨r0, r1, r2, r3, r4, r5⟩ := HR4.out.side
    obtain ⟨z, bz, oz, hz, rfl, hcz⟩ := (ms_sides hm).get 0 (by rw [Hyl.out]; exact hpos)
    have hzy : z = ⟨y0, y1, y2, y3, y4, y5⟩ := by rw [← hz.out]; exact Hh.out
    subst hzy
    obtain ⟨q0, q1, q2, q3, q4, q5⟩ := hcz
    rw [Nat.zero_mul, Nat.add_zero] at q0 q1 q2 q3 q4 q5
    dsimp only at r0 r1 r2 r3 r4 r5 q0 q1 q2 q3 q4 q5
    have tk0 : decide ((0 : Int) < (xs.length : Int)) = true := decide_eq_true (by omega)
    clear hb hm HB3 Hx3 HR3 hz
    go_wp2_with (fail)
    repeat (go_quiet (fail); try go_wp2)
    clear r0 r1 r2 r3 r4 r5 q0 q1 q2 q3 q4 q5 tk0
    go_loopw [8] (fun i wr => ∃ k : Nat, k ≤ xs.length ∧ i = .int .i64 k ∧ Hid (Below w4.heap.size w4 wr)) (fun i _ => xs.length - (intOf i).toNat)
    case atStart => exact ⟨0, Nat.zero_le _, rfl, Lib.hid (by repeat (first | exact Below.refl _ _ | apply below_drewN | apply Below.drew))⟩
    case round =>
      obtain ⟨k, hk, rfl, HBk⟩ := hrel
      by_cases hlt : k < xs.length
      · have tk : decide ((k : Int) < (xs.length : Int)) = true := decide_eq_true (by omega)
        obtain ⟨x, b, off, hxk, rfl, hcx⟩ := ((ms_sides Hx4.out).below HBk.out).get k hlt
        have Hcx := Lib.hid hcx
        have hxm := Hgx.out k hlt
        rw [hxk.out] at hxm
        have hle := Hall.out x hxm
        rw [leS_iff] at hle
        have HRk := Lib.hid (HR4.out.turn HBk.out)
        obtain ⟨r0, r1, r2, r3, r4, r5⟩ := HRk.out.side
        have hC := fun W => C16'.out ⟨y0, y1, y2, y3, y4, y5⟩ x W Hmem.out hxm
        have hon := ord_neg ⟨y0, y1, y2, y3, y4, y5⟩ x
        have hoz := @ord_zero ⟨y0, y1, y2, y3, y4, y5⟩ x
        obtain ⟨x0, x1, x2, x3, x4, x5⟩ := x
        obtain ⟨q0, q1, q2, q3, q4, q5⟩ := hcx
        unfold Side.arr at hC
        dsimp only at r0 r1 r2 r3 r4 r5 q0 q1 q2 q3 q4 q5 hC
        have C16 := Lib.hid hC
        have Hon := Lib.hid hon
        have Hoz := Lib.hid hoz
        have Hle := Lib.hid hle
        clear hC hon hoz hle hxm
        obtain ⟨wb, hwb⟩ : ∃ wb, decide (ord ⟨y0, y1, y2, y3, y4, y5⟩ ⟨x0, x1, x2, x3, x4, x5⟩ < 0) = wb := ⟨_, rfl⟩
        rw [hwb] at C16
        have Hwb := Lib.hid hwb
        clear hwb
        go_wp2_with (fail)
        refine wp_region_ord 11 [(0, true), (1, true), (2, true), (3, true), (4, true), (5, true), (6, true), (7, true), (8, true), (9, true), (10, true)] (by kernel_rfl) (by kernel_rfl) ?_
        intro Wc hWc
        apply OrdAt.op (fun _ _ _ h => h) rfl rfl rfl
        · intro X hB
          have s0 := rd (hWc.tr hB) r0
          have s1 := rd (hWc.tr hB) r1
          have s2 := rd (hWc.tr hB) r2
          have s3 := rd (hWc.tr hB) r3
          have s4 := rd (hWc.tr hB) r4
          have s5 := rd (hWc.tr hB) r5
          go_simp
          try rfl
        · dsimp only [List.set_cons_zero, List.set_cons_succ]
        iterate 2
          apply OrdAt.op (fun _ _ _ h => h) rfl rfl rfl
          · intro X hB
            go_simp
            try rfl
          · dsimp only [List.set_cons_zero, List.set_cons_succ]
        apply OrdAt.op (fun _ _ _ h => h) rfl rfl rfl
        · intro X hB
          have tk : decide ((k : Int) < (xs.length : Int)) = true := decide_eq_true (by omega)
          go_simp
          try rfl
        · dsimp only [List.set_cons_zero, List.set_cons_succ]
        apply OrdAt.op (fun _ _ _ h => h) rfl rfl rfl
        · intro X hB
          have s0 := rd (hWc.tr hB) q0
          have s1 := rd (hWc.tr hB) q1
          have s2 := rd (hWc.tr hB) q2
          have s3 := rd (hWc.tr hB) q3
          have s4 := rd (hWc.tr hB) q4
          have s5 := rd (hWc.tr hB) q5
          go_simp
          try rfl
        · dsimp only [List.set_cons_zero, List.set_cons_succ]
        apply OrdAt.call (fun _ _ _ h => h) rfl rfl rfl
        · intro X hB
          go_simp
          first | exact ⟨rfl, rfl⟩ | rfl
        · intro X hB
          refine (C16.out _).mono ?_; rintro e W1 ⟨rfl, hb⟩; exact ⟨rfl, hb⟩
        · dsimp only [List.set_cons_zero, List.set_cons_succ]
        iterate 5
          apply OrdAt.op (fun _ _ _ h => h) rfl rfl rfl
          · intro X hB
            go_simp
            try rfl
          · dsimp only [List.set_cons_zero, List.set_cons_succ]
        refine OrdAt.done ?_
        intro W5 hW5
        have hW5 := hWc.tr hW5
        have HB5 := Lib.hid (HBk.out.trans (hW5.mono HBk.out.size))
        have HR5 := Lib.hid (HRk.out.turn hW5)
        have HC5 := Lib.hid (Hcx.out.below hW5 Hcx.out.lt)
        clear r0 r1 r2 r3 r4 r5 q0 q1 q2 q3 q4 q5 hW5 hWc
        cases wb with
        | true =>
          go_wp2_with (fail)
          repeat (go_quiet (fail); try go_wp2)
          go_roundw
          case rel => exact ⟨k + 1, by omega, by go_num, Lib.hid (by repeat (first | exact HB5.out | apply below_drewN | apply Below.drew))⟩
          case measure => simp [intOf]; omega
        | false =>
          have hxy : (⟨y0, y1, y2, y3, y4, y5⟩ : Side) = ⟨x0, x1, x2, x3, x4, x5⟩ := Hoz.out (by have := of_decide_eq_false Hwb.out; have := Hon.out; have := Hle.out; omega)
          injection hxy with a0 a1 a2 a3 a4 a5
          subst a0 a1 a2 a3 a4 a5
          obtain ⟨r0, r1, r2, r3, r4, r5⟩ := HR5.out.side
          obtain ⟨q0, q1, q2, q3, q4, q5⟩ := HC5.out
          dsimp only at r0 r1 r2 r3 r4 r5 q0 q1 q2 q3 q4 q5
          go_wp2_with (fail)
          repeat (go_quiet (fail); try go_wp2)
          go_roundw
          case rel => exact ⟨k + 1, by omega, by go_num, Lib.hid (by repeat (first | exact HB5.out | apply below_drewN | apply Below.drew))⟩
          case measure => simp [intOf]; omega
      · obtain rfl : k = xs.length := by omega
        have tk : decide ((xs.length : Int) < (xs.length : Int)) = false := decide_eq_false (by omega)
        have HBk2 := HBk
        clear HBk
        obtain ⟨wz, hwz⟩ : ∃ wz, wz = wr := ⟨_, rfl⟩
        subst hwz
        go_wp2_with (fail)
        go_loopw [11] (fun i wr => ∃ p : Nat, p + 1 ≤ xs.length ∧ i = .int .i64 ((p : Int) + 1) ∧ Hid (Below w4.heap.size w4 wr)) (fun i _ => xs.length - (intOf i).toNat)
        case atStart => exact ⟨0, hpos, rfl, HBk2⟩
        case round =>
          obtain ⟨p, hp, rfl, HBp⟩ := hrel
          have tn : ((p : Int) + 1).toNat = p + 1 := by omega
          by_cases hlt2 : p + 1 < xs.length
          · have tp : decide (((p : Int) + 1) < (xs.length : Int)) = true := decide_eq_true (by omega)
            obtain ⟨x, b, off, hxk, hA, hcx⟩ := ((ms_sides HM4.out).below HBp.out).get (p + 1) (by rw [Hyl.out]; exact hlt2)
            obtain ⟨z, b', off', hzk, hA', hcz⟩ := ((ms_sides HM4.out).below HBp.out).get p (by rw [Hyl.out]; omega)
            cases hA
            cases hA'
            have hno := Hso.out p (by rw [Hyl.out]; exact hlt2)
            have hxm := Hsr.out (p + 1) (by rw [Hyl.out]; exact hlt2)
            have hzm := Hsr.out p (by rw [Hyl.out]; omega)
            rw [hxk.out] at hno hxm
            rw [hzk.out] at hno hzm
            have hC := fun W => C16'.out x z W hxm hzm
            rw [decide_eq_false (show ¬ ord x z < 0 by omega)] at hC
            obtain ⟨x0, x1, x2, x3, x4, x5⟩ := x
            obtain ⟨z0, z1, z2, z3, z4, z5⟩ := z
            obtain ⟨q0, q1, q2, q3, q4, q5⟩ := hcx
            obtain ⟨m0, m1, m2, m3, m4, m5⟩ := hcz
            unfold Side.arr at hC
            dsimp only at q0 q1 q2 q3 q4 q5 m0 m1 m2 m3 m4 m5 hC
            have C16 := Lib.hid hC
            clear hC hno hxm hzm
            go_wp2_with (fail)
            refine wp_region_ord 15 [(0, true), (1, true), (2, true), (3, true), (4, true), (5, true), (6, true), (7, true), (8, true), (9, true), (10, true), (11, true), (12, true), (13, true), (14, true)] (by kernel_rfl) (by kernel_rfl) ?_
            intro Wc hWc
            iterate 2
              apply OrdAt.op (fun _ _ _ h => h) rfl rfl rfl
              · intro X hB
                go_simp
                try rfl
              · dsimp only [List.set_cons_zero, List.set_cons_succ]
            apply OrdAt.op (fun _ _ _ h => h) rfl rfl rfl
            · intro X hB
              have tp : decide (((p : Int) + 1) < (xs.length : Int)) = true := decide_eq_true (by omega)
              have tpp : ((p : Int) + 1 < (xs.length : Int)) = True := eq_true (by omega)
              have tp0 : (0 ≤ (p : Int) + 1) = True := eq_true (by omega)
              have tn : ((p : Int) + 1).toNat = p + 1 := by omega
              go_simp
              try rfl
            · dsimp only [List.set_cons_zero, List.set_cons_succ]
            apply OrdAt.op (fun _ _ _ h => h) rfl rfl rfl
            · intro X hB
              have s0 := rd (hWc.tr hB) q0
              have s1 := rd (hWc.tr hB) q1
              have s2 := rd (hWc.tr hB) q2
              have s3 := rd (hWc.tr hB) q3
              have s4 := rd (hWc.tr hB) q4
              have s5 := rd (hWc.tr hB) q5
              go_simp
              try rfl
            · dsimp only [List.set_cons_zero, List.set_cons_succ]
            iterate 2
              apply OrdAt.op (fun _ _ _ h => h) rfl rfl rfl
              · intro X hB
                go_simp
                try rfl
              · dsimp only [List.set_cons_zero, List.set_cons_succ]
            apply OrdAt.op (fun _ _ _ h => h) rfl rfl rfl
            · intro X hB
              have tw : IntKind.i64.wrap (p : Int) = (p : Int) := IntWalk.i64_in _ (by omega)
              go_simp
              try rfl
            · dsimp only [List.set_cons_zero, List.set_cons_succ]
            apply OrdAt.op (fun _ _ _ h => h) rfl rfl rfl
            · intro X hB
              have tw : IntKind.i64.wrap (p : Int) = (p : Int) := IntWalk.i64_in _ (by omega)
              have tp2 : decide ((p : Int) < (xs.length : Int)) = true := decide_eq_true (by omega)
              have tpp2 : p < xs.length := by omega
              go_simp
              try rfl
            · dsimp only [List.set_cons_zero, List.set_cons_succ]
            apply OrdAt.op (fun _ _ _ h => h) rfl rfl rfl
            · intro X hB
              have s0 := rd (hWc.tr hB) m0
              have s1 := rd (hWc.tr hB) m1
              have s2 := rd (hWc.tr hB) m2
              have s3 := rd (hWc.tr hB) m3
              have s4 := rd (hWc.tr hB) m4
              have s5 := rd (hWc.tr hB) m5
              go_simp
              try rfl
            · dsimp only [List.set_cons_zero, List.set_cons_succ]
            apply OrdAt.call (fun _ _ _ h => h) rfl rfl rfl
            · intro X hB
              go_simp
              first | exact ⟨rfl, rfl⟩ | rfl
            · intro X hB
              refine (C16.out _).mono ?_; rintro e W1 ⟨rfl, hb⟩; exact ⟨rfl, hb⟩
            · dsimp only [List.set_cons_zero, List.set_cons_succ]
            iterate 5
              apply OrdAt.op (fun _ _ _ h => h) rfl rfl rfl
              · intro X hB
                go_simp
                try rfl
              · dsimp only [List.set_cons_zero, List.set_cons_succ]
            refine OrdAt.done ?_
            intro W5 hW5
            have hW5 := hWc.tr hW5
            have HB5 := Lib.hid (HBp.out.trans (hW5.mono HBp.out.size))
            clear q0 q1 q2 q3 q4 q5 m0 m1 m2 m3 m4 m5
            have tw2 : IntKind.i64.wrap ((p : Int) + 1 + 1) = ((p + 1 : Nat) : Int) + 1 := by rw [IntWalk.i64_in _ (by omega)]; omega
            go_wp2_with (fail)
            go_roundw
            case rel => exact ⟨p + 1, by omega, by go_num, HB5⟩
            case measure => simp [intOf]; omega
          · have tp : decide (((p : Int) + 1) < (xs.length : Int)) = false := decide_eq_false (by omega)
            go_wp2_with (fail)
            go_ret
            exact ⟨rfl, HB4.out.trans (HBp.out.mono HB4.out.size)⟩

end Go.Proofs.Ytffnnfdlelaonaa
