/- Contract of the reference's Sorted: any sides. -/
import Derived.Test.YtffnnfdlelaonaaSF
namespace Go.Proofs.Ytffnnfdlelaonaa
open Go Go.RowKit Go.Shelf Ords
set_option linter.unusedVariables false

set_option maxRecDepth 100000 in
set_option maxHeartbeats 8000000 in
theorem c22 (A : Option Addr) (xs : List Side) (c : Nat) (w : World) (hx : MS w A xs) (hl : xs.length ≤ 1000) :
    Calls Try.prog 22 #[.slice A xs.length c] w fun e w' => (∃ A' c', e = .returned (.tuple #[.slice A' (srtY xs).length c', .int .i64 (srtE xs)]) ∧ MS w' A' (srtY xs)) ∧ Below w.heap.size w w' := by
  have Hx := Lib.hid (ms_sides hx)
  clear hx
  go_enter Try.func22, Try.ntmps22
  go_wp2_with (fail)
  go_loopw [4, 5] (fun o i wr => ∃ k : Nat, k ≤ xs.length ∧ i = .int .i64 k ∧ Hid (∀ j, j < k → right (xs[j]?.getD default) = true) ∧ Hid (Below w.heap.size w wr) ∧ Hid (wr.ownsRow w.heap.size 30 6 o k (GR.flat Side.cells (insTo xs k)))) (fun _ i _ => xs.length - (intOf i).toNat)
  case atStart => exact ⟨0, Nat.zero_le _, rfl, Lib.hid fun j hj => absurd hj (Nat.not_lt_zero j), Lib.hid (Below.refl _ _), Lib.hid (GR.own_nil _ _ _ _)⟩
  case round =>
    obtain ⟨k, hk, rfl, Hrt, HB, HO⟩ := hrel
    by_cases hlt : k < xs.length
    · have tk : decide ((k : Int) < (xs.length : Int)) = true := decide_eq_true (by omega)
      obtain ⟨x, b, off, hxk, rfl, hc⟩ := (Hx.out.below HB.out).get k hlt
      have Hc := Lib.hid hc
      obtain ⟨x0, x1, x2, x3, x4, x5⟩ := x
      obtain ⟨q0, q1, q2, q3, q4, q5⟩ := hc
      dsimp only at q0 q1 q2 q3 q4 q5
      have C17 := Lib.hid (c17 ⟨x0, x1, x2, x3, x4, x5⟩ wr)
      unfold Side.arr at C17
      dsimp only at C17
      obtain ⟨rx, hrx⟩ : ∃ rx, right ⟨x0, x1, x2, x3, x4, x5⟩ = rx := ⟨_, rfl⟩
      rw [hrx] at C17
      have Hrx := Lib.hid hrx
      clear hrx
      go_wp2_with (fail)
      refine C17.out.mono ?_
      rintro e w1 ⟨rfl, hb1⟩
      clear C17 q0 q1 q2 q3 q4 q5
      have HB1 := Lib.hid (HB.out.trans (hb1.mono HB.out.size))
      have HO1 := Lib.hid (GR.own_turn HO.out hb1)
      have HC1 := Lib.hid (Hc.out.below hb1 Hc.out.lt)
      clear hb1 HO HB Hc
      cases rx with
      | false =>
        have hw := wrongs_of hlt (by rw [hxk.out]; exact Hrx.out)
        have hs : srtY xs = [] ∧ srtE xs = 110 := by unfold srtY srtE; rw [if_pos hw, if_pos hw]; exact ⟨rfl, rfl⟩
        have Hs := Lib.hid hs
        clear hw hs
        go_wp2_with (fail)
        go_ret2
        rw [Hs.out.1, Hs.out.2]
        exact ⟨⟨none, 0, rfl, GR.Many.nil _ _⟩, HB1.out⟩
      | true =>
        have Hrt2 : Hid (∀ j, j < k + 1 → right (xs[j]?.getD default) = true) := Lib.hid fun j hj => by
          by_cases h : j < k
          · exact Hrt.out j h
          · obtain rfl : j = k := by omega
            rw [hxk.out]; exact Hrx.out
        obtain ⟨os, hos⟩ : ∃ os, Hid (insTo xs k = os) := ⟨_, Lib.hid rfl⟩
        rw [hos.out] at HO1
        have Hol : Hid (os.length = k) := Lib.hid (by rw [← hos.out, insTo_len xs k hk])
        obtain ⟨A2, cap, rfl, hcap, hM, hA2⟩ := GR.own_many side_len HO1.out Hol.out.symm
        have HM := Lib.hid hM
        have HA2 := Lib.hid hA2
        have Hcap := Lib.hid hcap
        clear hM hA2 HO1 Hrt
        obtain ⟨wb, hwb⟩ : ∃ wb, wb = w1 := ⟨_, rfl⟩
        subst hwb
        go_wp2_with (fail)
        go_loopw [7] (fun j wr => ∃ q : Nat, q ≤ plc ⟨x0, x1, x2, x3, x4, x5⟩ os ∧ j = .int .i64 q ∧ Hid (Below wb.heap.size wb wr)) (fun j _ => k - (intOf j).toNat)
        case atStart => exact ⟨0, Nat.zero_le _, rfl, Lib.hid (Below.refl _ _)⟩
        case round =>
          obtain ⟨q, hq, rfl, HBi⟩ := hrel
          have hpl := plc_le ⟨x0, x1, x2, x3, x4, x5⟩ os
          rw [Hol.out] at hpl
          have HBx := Lib.hid (HB1.out.trans (HBi.out.mono HB1.out.size))
          have HCx := Lib.hid (HC1.out.below HBi.out HC1.out.lt)
          have HOs := Lib.hid (HM.out.below HBi.out)
          have hcap := Hcap.out
          obtain ⟨p0, p1, p2, p3, p4, p5⟩ := HCx.out
          dsimp only at p0 p1 p2 p3 p4 p5
          by_cases hqk : q < k
          · obtain ⟨y, g, off2, hyq, rfl, hcy⟩ := (ms_sides HOs.out).get q (by rw [Hol.out]; exact hqk)
            obtain ⟨rfl, _⟩ := HA2.out.2 _ _ _ rfl
            obtain ⟨y0, y1, y2, y3, y4, y5⟩ := y
            obtain ⟨m0, m1, m2, m3, m4, m5⟩ := hcy
            dsimp only at m0 m1 m2 m3 m4 m5
            rw [Nat.zero_add] at m0 m1 m2 m3 m4 m5
            have hor := ord_ref ⟨x0, x1, x2, x3, x4, x5⟩ ⟨y0, y1, y2, y3, y4, y5⟩
            have hq1 : ord ⟨x0, x1, x2, x3, x4, x5⟩ ⟨y0, y1, y2, y3, y4, y5⟩ < 0 → plc ⟨x0, x1, x2, x3, x4, x5⟩ os = q := fun h => by
              rcases Nat.lt_or_ge q (plc ⟨x0, x1, x2, x3, x4, x5⟩ os) with h' | h'
              · have := plc_pass _ os q h'
                rw [hyq.out] at this
                exact absurd h this
              · omega
            have hq2 : ¬ ord ⟨x0, x1, x2, x3, x4, x5⟩ ⟨y0, y1, y2, y3, y4, y5⟩ < 0 → q + 1 ≤ plc ⟨x0, x1, x2, x3, x4, x5⟩ os := fun h => by
              rcases Nat.lt_or_ge q (plc ⟨x0, x1, x2, x3, x4, x5⟩ os) with h' | h'
              · omega
              · have e : plc ⟨x0, x1, x2, x3, x4, x5⟩ os = q := by omega
                have := plc_stop ⟨x0, x1, x2, x3, x4, x5⟩ os (by rw [Hol.out, e]; exact hqk)
                rw [e, hyq.out] at this
                exact absurd this h
            have Hq1 := Lib.hid hq1
            have Hq2 := Lib.hid hq2
            have Hor := Lib.hid hor
            clear hq1 hq2 hor
            go_wp2_with (fail)
            refine wp_region_ord 16 [(0, true), (1, true), (2, true), (3, true), (4, true), (5, true), (6, true), (7, true), (8, true), (9, true), (10, true), (11, true), (12, true), (13, true), (14, true), (15, true)] (by kernel_rfl) (by kernel_rfl) ?_
            intro Wc hWc
            iterate 2
              apply OrdAt.op (fun _ _ _ h => h) rfl rfl rfl
              · intro X hB
                go_simp
                try rfl
              · dsimp only [List.set_cons_zero, List.set_cons_succ]
            apply OrdAt.op (fun _ _ _ h => h) rfl rfl rfl
            · intro X hB
              go_simp
              try rfl
            · dsimp only [List.set_cons_zero, List.set_cons_succ]
            apply OrdAt.op (fun _ _ _ h => h) rfl rfl rfl
            · intro X hB
              have tq : decide ((q : Int) < (k : Int)) = true := decide_eq_true (by omega)
              go_simp
              try rfl
            · dsimp only [List.set_cons_zero, List.set_cons_succ]
            apply OrdAt.op (fun _ _ _ h => h) rfl rfl rfl
            · intro X hB
              go_simp
              try rfl
            · dsimp only [List.set_cons_zero, List.set_cons_succ]
            iterate 2
              apply OrdAt.op_if (fun _ _ _ h => h) rfl rfl rfl
              · intro X hB
                go_simp
                try rfl
              · dsimp only [List.set_cons_zero, List.set_cons_succ]
            apply OrdAt.op_if (fun _ _ _ h => h) rfl rfl rfl
            · intro X hB
              have tk : decide ((k : Int) < (xs.length : Int)) = true := decide_eq_true (by omega)
              go_simp
              try rfl
            · dsimp only [List.set_cons_zero, List.set_cons_succ]
            apply OrdAt.op_if (fun _ _ _ h => h) rfl rfl rfl
            · intro X hB
              have s0 := rd (hWc.tr hB) p0
              have s1 := rd (hWc.tr hB) p1
              have s2 := rd (hWc.tr hB) p2
              have s3 := rd (hWc.tr hB) p3
              have s4 := rd (hWc.tr hB) p4
              have s5 := rd (hWc.tr hB) p5
              go_simp
              try rfl
            · dsimp only [List.set_cons_zero, List.set_cons_succ]
            iterate 2
              apply OrdAt.op_if (fun _ _ _ h => h) rfl rfl rfl
              · intro X hB
                go_simp
                try rfl
              · dsimp only [List.set_cons_zero, List.set_cons_succ]
            apply OrdAt.op_if (fun _ _ _ h => h) rfl rfl rfl
            · intro X hB
              have tq : decide ((q : Int) < (k : Int)) = true := decide_eq_true (by omega)
              go_simp
              try rfl
            · dsimp only [List.set_cons_zero, List.set_cons_succ]
            apply OrdAt.op_if (fun _ _ _ h => h) rfl rfl rfl
            · intro X hB
              have s0 := rd (hWc.tr hB) m0
              have s1 := rd (hWc.tr hB) m1
              have s2 := rd (hWc.tr hB) m2
              have s3 := rd (hWc.tr hB) m3
              have s4 := rd (hWc.tr hB) m4
              have s5 := rd (hWc.tr hB) m5
              go_simp
              try rfl
            · dsimp only [List.set_cons_zero, List.set_cons_succ]
            apply OrdAt.call (fun _ _ _ h => h) rfl rfl rfl
            · intro X hB
              go_simp
              first | exact ⟨rfl, rfl⟩ | rfl
            · intro X hB
              refine (c19 ⟨x0, x1, x2, x3, x4, x5⟩ ⟨y0, y1, y2, y3, y4, y5⟩ _).mono ?_; rintro e W1 ⟨rfl, hb⟩; exact ⟨rfl, hb⟩
            · dsimp only [List.set_cons_zero, List.set_cons_succ]
            apply OrdAt.op_if (fun _ _ _ h => h) rfl rfl rfl
            · intro X hB
              go_simp
              try rfl
            · dsimp only [List.set_cons_zero, List.set_cons_succ]
            apply OrdAt.op (fun _ _ _ h => h) rfl rfl rfl
            · intro X hB
              go_simp
              try rfl
            · dsimp only [List.set_cons_zero, List.set_cons_succ]
            refine OrdAt.done ?_
            intro W5 hW5
            have hW5 := hWc.tr hW5
            have HBx2 := Lib.hid (HBx.out.trans (hW5.mono HBx.out.size))
            have HBi2 := Lib.hid (HBi.out.trans (hW5.mono HBi.out.size))
            have HCx2 := Lib.hid (HCx.out.below hW5 HCx.out.lt)
            have HOs2 := Lib.hid (HOs.out.below hW5)
            clear p0 p1 p2 p3 p4 p5 m0 m1 m2 m3 m4 m5 HBx HBi HCx HOs hW5 hWc
            obtain ⟨rw0, hrw⟩ : ∃ r, refw ⟨x0, x1, x2, x3, x4, x5⟩ ⟨y0, y1, y2, y3, y4, y5⟩ = r := ⟨_, rfl⟩
            rw [hrw] at Hor
            rw [hrw]
            cases rw0 with
            | false =>
              have h1 := Hq2.out (by have := of_decide_eq_false Hor.out; omega)
              have H1 := Lib.hid h1
              clear h1 hrw
              go_wp2_with (fail)
              go_roundw
              case rel => exact ⟨q + 1, H1.out, by go_num, HBi2⟩
              case measure => simp [intOf]; omega
            | true =>
              have Hplc := Lib.hid (Hq1.out (of_decide_eq_true Hor.out))
              have HBx := HBx2
              have HCx := HCx2
              have HOs := HOs2
              clear hrw HBx2 HCx2 HOs2 hpl hq
              have Htk : Hid ((os.take q).length = q) := Lib.hid (by rw [List.length_take, Hol.out]; omega)
              have Hdr : Hid ((os.drop q).length = k - q) := Lib.hid (by rw [List.length_drop, Hol.out])
              have tc : q ≤ cap := by omega
              have tn : q ≤ k := by omega
              have tcc : (cap = q) = False := eq_false (by omega)
              go_wp2_with (first | (at_builtin; (refine GR.wpList_app (enc := Side.cells) (k := 6) rfl side_len side_one (by decide) Try.underlying25 info30' rfl W5.heap.size _ _ rfl _ 0 [] rfl (GR.own_nil W5 W5.heap.size 30 6) ⟨g, 0, none⟩ q cap (os.take q) Htk.out rfl ((HOs.out.take q).flat side_len) (by omega) (by decide) (Nat.le_refl _) ?_; intro v1 W1 hown1 hb1 _; rw [List.nil_append, Nat.zero_add] at hown1; have Hown1 := Lib.hid hown1; have HB1 := Lib.hid hb1; have HC1 := Lib.hid (HCx.out.below hb1 HCx.out.lt); obtain ⟨r0, r1, r2, r3, r4, r5⟩ := HC1.out; dsimp only at r0 r1 r2 r3 r4 r5; clear hown1 hb1)) | (at_builtin; (refine GR.wpList_app_one (enc := Side.cells) (k := 6) rfl side_len side_one (by decide) Try.underlying25 info30' rfl W5.heap.size _ _ rfl _ q (os.take q) rfl (GR.own_turn Hown1.out ((Below.refl _ W1).alloc (Nat.le_refl _) _)) W1.heap.size 1 ⟨x0, x1, x2, x3, x4, x5⟩ rfl (GR.One.new (enc := Side.cells) 30 W1 ⟨x0, x1, x2, x3, x4, x5⟩) (by omega) (by decide) (Nat.le_trans HB1.out.size (by simp)) ?_; intro v2 W2 hown2 hb2 _; have Hown2 := Lib.hid hown2; have HB2 := Lib.hid (HB1.out.trans ((((Below.refl _ W1).alloc (Nat.le_refl _) _).mono HB1.out.size).trans hb2)); clear hown2 hb2)) | (at_builtin; (refine GR.wpList_app (enc := Side.cells) (k := 6) rfl side_len side_one (by decide) Try.underlying25 info30' rfl W5.heap.size _ _ rfl _ (q + 1) _ rfl Hown2.out ⟨g, q * 6, none⟩ (k - q) (cap - q) (os.drop q) Hdr.out rfl (by have hd := (HOs.out.below HB2.out).drop q; rw [Nat.zero_add] at hd; exact hd.flat side_len) (by omega) (by decide) HB2.out.size ?_; intro v3 W3 hown3 hb3 _; have Hown3 := Lib.hid hown3; have HB3 := Lib.hid (HB2.out.trans hb3); clear hown3 hb3)))
              have Hfin : Hid ((q + 1 + (k - q)) = k + 1) := Lib.hid (by omega)
              have Hins : Hid (insTo xs (k + 1) = os.take q ++ [⟨x0, x1, x2, x3, x4, x5⟩] ++ os.drop q) := Lib.hid (by show insS (xs[k]?.getD default) (insTo xs k) = _; rw [hxk.out, hos.out]; unfold insS; rw [Hplc.out])
              have HBn := Lib.hid (HBx.out.trans (HB3.out.mono HBx.out.size))
              have Hnew := Lib.hid (GR.own_base (base' := w.heap.size) Hown3.out HBx.out.size)
              rw [Hfin.out] at Hnew
              go_roundw
              case rel => exact ⟨k + 1, by omega, by go_num, Hrt2, HBn, Lib.hid (by rw [Hins.out]; exact Hnew.out)⟩
              case measure => simp [intOf]; omega
          · obtain rfl : k = q := by omega
            have Hplc : Hid (plc ⟨x0, x1, x2, x3, x4, x5⟩ os = k) := Lib.hid (by omega)
            go_wp2_with (fail)
            refine wp_region_ord 16 [(0, true), (1, true), (2, true), (3, true), (4, true), (5, true), (6, true), (7, true), (8, true), (9, true), (10, true), (11, true), (12, true), (13, true), (14, true), (15, true)] (by kernel_rfl) (by kernel_rfl) ?_
            intro Wc hWc
            iterate 3
              apply OrdAt.op (fun _ _ _ h => h) rfl rfl rfl
              · intro X hB
                go_simp
                try rfl
              · dsimp only [List.set_cons_zero, List.set_cons_succ]
            apply OrdAt.op (fun _ _ _ h => h) rfl rfl rfl
            · intro X hB
              have tq : decide ((k : Int) < (k : Int)) = false := decide_eq_false (by omega)
              go_simp
              try rfl
            · dsimp only [List.set_cons_zero, List.set_cons_succ]
            apply OrdAt.op (fun _ _ _ h => h) rfl rfl rfl
            · intro X hB
              go_simp
              try rfl
            · dsimp only [List.set_cons_zero, List.set_cons_succ]
            apply OrdAt.op_not (fun _ _ _ h => h) rfl rfl rfl
            · dsimp only [List.set_cons_zero, List.set_cons_succ]
            apply OrdAt.op_not (fun _ _ _ h => h) rfl rfl rfl
            · dsimp only [List.set_cons_zero, List.set_cons_succ]
            apply OrdAt.op_not (fun _ _ _ h => h) rfl rfl rfl
            · dsimp only [List.set_cons_zero, List.set_cons_succ]
            apply OrdAt.op_not (fun _ _ _ h => h) rfl rfl rfl
            · dsimp only [List.set_cons_zero, List.set_cons_succ]
            apply OrdAt.op_not (fun _ _ _ h => h) rfl rfl rfl
            · dsimp only [List.set_cons_zero, List.set_cons_succ]
            apply OrdAt.op_not (fun _ _ _ h => h) rfl rfl rfl
            · dsimp only [List.set_cons_zero, List.set_cons_succ]
            apply OrdAt.op_not (fun _ _ _ h => h) rfl rfl rfl
            · dsimp only [List.set_cons_zero, List.set_cons_succ]
            apply OrdAt.op_not (fun _ _ _ h => h) rfl rfl rfl
            · dsimp only [List.set_cons_zero, List.set_cons_succ]
            apply OrdAt.op_not (fun _ _ _ h => h) rfl rfl rfl
            · dsimp only [List.set_cons_zero, List.set_cons_succ]
            apply OrdAt.op_not (fun _ _ _ h => h) rfl rfl rfl
            · dsimp only [List.set_cons_zero, List.set_cons_succ]
            apply OrdAt.op (fun _ _ _ h => h) rfl rfl rfl
            · intro X hB
              go_simp
              try rfl
            · dsimp only [List.set_cons_zero, List.set_cons_succ]
            refine OrdAt.done ?_
            intro W5 hW5
            have hW5 := hWc.tr hW5
            have HBx2 := Lib.hid (HBx.out.trans (hW5.mono HBx.out.size))
            have HCx2 := Lib.hid (HCx.out.below hW5 HCx.out.lt)
            have HOs2 := Lib.hid (HOs.out.below hW5)
            clear p0 p1 p2 p3 p4 p5 HBx HCx HOs hW5 hWc
            have HBx := HBx2
            have HCx := HCx2
            have HOs := HOs2
            clear HBx2 HCx2 HOs2 hpl hq
            cases A2 with
            | none =>
              obtain ⟨rfl, rfl⟩ := HA2.out.1 rfl
              have Hon : Hid (os = []) := Lib.hid (List.length_eq_zero_iff.1 Hol.out)
              obtain ⟨r0, r1, r2, r3, r4, r5⟩ := HCx.out
              dsimp only at r0 r1 r2 r3 r4 r5
              rw [Nat.zero_mul, Nat.add_zero] at r0 r1 r2 r3 r4 r5
              have tk0 : decide ((0 : Int) < (xs.length : Int)) = true := decide_eq_true (by omega)
              go_wp2_with (first | (at_builtin; (refine GR.wpList_app_none rfl Try.underlying25 info30' W5.heap.size _ _ rfl _ 0 [] rfl (GR.own_nil W5 W5.heap.size 30 6) rfl ?_; have Hown1 := Lib.hid (GR.own_nil W5 W5.heap.size 30 6); have HB1 := Lib.hid (Below.refl W5.heap.size W5))) | (at_builtin; (refine GR.wpList_app_one (enc := Side.cells) (k := 6) rfl side_len side_one (by decide) Try.underlying25 info30' rfl W5.heap.size _ _ rfl _ 0 [] rfl (GR.own_turn Hown1.out ((Below.refl _ W5).alloc (Nat.le_refl _) _)) W5.heap.size 1 ⟨x0, x1, x2, x3, x4, x5⟩ rfl (GR.One.new (enc := Side.cells) 30 W5 ⟨x0, x1, x2, x3, x4, x5⟩) (by omega) (by decide) (Nat.le_trans HB1.out.size (by simp)) ?_; intro v2 W2 hown2 hb2 _; have Hown2 := Lib.hid hown2; have HB2 := Lib.hid (HB1.out.trans ((((Below.refl _ W5).alloc (Nat.le_refl _) _).mono HB1.out.size).trans hb2)); clear hown2 hb2)) | (at_builtin; (refine GR.wpList_app_none rfl Try.underlying25 info30' W5.heap.size _ _ rfl _ _ _ rfl Hown2.out rfl ?_; have Hown3 := Hown2; have HB3 := HB2)))
              have Hfin : Hid ((0 + 1) = 0 + 1) := Lib.hid (by omega)
              have Hins : Hid (insTo xs (0 + 1) = [⟨x0, x1, x2, x3, x4, x5⟩]) := Lib.hid (by show insS (xs[0]?.getD default) (insTo xs 0) = _; rw [hxk.out, hos.out]; unfold insS; rw [Hplc.out]; rw [Hon.out]; rfl)
              have HBn := Lib.hid (HBx.out.trans (HB3.out.mono HBx.out.size))
              have Hnew := Lib.hid (GR.own_base (base' := w.heap.size) Hown3.out HBx.out.size)
              rw [Hfin.out] at Hnew
              go_roundw
              case rel => exact ⟨0 + 1, by omega, by go_num, Hrt2, HBn, Lib.hid (by rw [Hins.out]; exact Hnew.out)⟩
              case measure => simp [intOf]; omega
            | some ad =>
              obtain ⟨g, o2, s2⟩ := ad
              obtain ⟨rfl, rfl⟩ := HA2.out.2 _ _ _ rfl
              by_cases hce : cap = k
              · subst hce
                have Htk : Hid ((os.take cap).length = cap) := Lib.hid (by rw [List.length_take, Hol.out]; omega)
                have Hdr : Hid ((os.drop cap).length = 0) := Lib.hid (by rw [List.length_drop, Hol.out]; omega)
                have tc : cap ≤ cap := by omega
                have tn : cap ≤ cap := by omega
                have Hdn : Hid (os.drop cap = []) := Lib.hid (List.length_eq_zero_iff.1 Hdr.out)
                have Hdn2 : Hid (os.drop cap = []) := Lib.hid (List.length_eq_zero_iff.1 Hdr.out)
                have tcc : (cap = cap) = True := eq_true (by omega)
                go_wp2_with (first | (at_builtin; (refine GR.wpList_app (enc := Side.cells) (k := 6) rfl side_len side_one (by decide) Try.underlying25 info30' rfl W5.heap.size _ _ rfl _ 0 [] rfl (GR.own_nil W5 W5.heap.size 30 6) ⟨g, 0, none⟩ cap cap (os.take cap) Htk.out rfl ((HOs.out.take cap).flat side_len) (by omega) (by decide) (Nat.le_refl _) ?_; intro v1 W1 hown1 hb1 _; rw [List.nil_append, Nat.zero_add] at hown1; have Hown1 := Lib.hid hown1; have HB1 := Lib.hid hb1; have HC1 := Lib.hid (HCx.out.below hb1 HCx.out.lt); obtain ⟨r0, r1, r2, r3, r4, r5⟩ := HC1.out; dsimp only at r0 r1 r2 r3 r4 r5; clear hown1 hb1)) | (at_builtin; (refine GR.wpList_app_one (enc := Side.cells) (k := 6) rfl side_len side_one (by decide) Try.underlying25 info30' rfl W5.heap.size _ _ rfl _ cap (os.take cap) rfl (GR.own_turn Hown1.out ((Below.refl _ W1).alloc (Nat.le_refl _) _)) W1.heap.size 1 ⟨x0, x1, x2, x3, x4, x5⟩ rfl (GR.One.new (enc := Side.cells) 30 W1 ⟨x0, x1, x2, x3, x4, x5⟩) (by omega) (by decide) (Nat.le_trans HB1.out.size (by simp)) ?_; intro v2 W2 hown2 hb2 _; have Hown2 := Lib.hid hown2; have HB2 := Lib.hid (HB1.out.trans ((((Below.refl _ W1).alloc (Nat.le_refl _) _).mono HB1.out.size).trans hb2)); clear hown2 hb2)) | (at_builtin; (refine GR.wpList_app (enc := Side.cells) (k := 6) rfl side_len side_one (by decide) Try.underlying25 info30' rfl W5.heap.size _ _ rfl _ (cap + 1) _ rfl Hown2.out ⟨g, 0, none⟩ 0 0 (os.drop cap) Hdr.out rfl (fun j u hu => by rw [Hdn.out] at hu; simp [GR.flat] at hu) (by omega) (by decide) HB2.out.size ?_; intro v3 W3 hown3 hb3 _; have Hown3 := Lib.hid hown3; have HB3 := Lib.hid (HB2.out.trans hb3); clear hown3 hb3)))
                have Hfin : Hid ((cap + 1 + 0) = cap + 1) := Lib.hid (by omega)
                have Hins : Hid (insTo xs (cap + 1) = os.take cap ++ [⟨x0, x1, x2, x3, x4, x5⟩] ++ os.drop cap) := Lib.hid (by show insS (xs[cap]?.getD default) (insTo xs cap) = _; rw [hxk.out, hos.out]; unfold insS; rw [Hplc.out])
                have HBn := Lib.hid (HBx.out.trans (HB3.out.mono HBx.out.size))
                have Hnew := Lib.hid (GR.own_base (base' := w.heap.size) Hown3.out HBx.out.size)
                rw [Hfin.out] at Hnew
                go_roundw
                case rel => exact ⟨cap + 1, by omega, by go_num, Hrt2, HBn, Lib.hid (by rw [Hins.out]; exact Hnew.out)⟩
                case measure => simp [intOf]; omega
              · skip
                have Htk : Hid ((os.take k).length = k) := Lib.hid (by rw [List.length_take, Hol.out]; omega)
                have Hdr : Hid ((os.drop k).length = 0) := Lib.hid (by rw [List.length_drop, Hol.out]; omega)
                have tc : k ≤ cap := by omega
                have tn : k ≤ k := by omega
                have Hdn : Hid (os.drop k = []) := Lib.hid (List.length_eq_zero_iff.1 Hdr.out)
                have tcc : (cap = k) = False := eq_false (by omega)
                go_wp2_with (first | (at_builtin; (refine GR.wpList_app (enc := Side.cells) (k := 6) rfl side_len side_one (by decide) Try.underlying25 info30' rfl W5.heap.size _ _ rfl _ 0 [] rfl (GR.own_nil W5 W5.heap.size 30 6) ⟨g, 0, none⟩ k cap (os.take k) Htk.out rfl ((HOs.out.take k).flat side_len) (by omega) (by decide) (Nat.le_refl _) ?_; intro v1 W1 hown1 hb1 _; rw [List.nil_append, Nat.zero_add] at hown1; have Hown1 := Lib.hid hown1; have HB1 := Lib.hid hb1; have HC1 := Lib.hid (HCx.out.below hb1 HCx.out.lt); obtain ⟨r0, r1, r2, r3, r4, r5⟩ := HC1.out; dsimp only at r0 r1 r2 r3 r4 r5; clear hown1 hb1)) | (at_builtin; (refine GR.wpList_app_one (enc := Side.cells) (k := 6) rfl side_len side_one (by decide) Try.underlying25 info30' rfl W5.heap.size _ _ rfl _ k (os.take k) rfl (GR.own_turn Hown1.out ((Below.refl _ W1).alloc (Nat.le_refl _) _)) W1.heap.size 1 ⟨x0, x1, x2, x3, x4, x5⟩ rfl (GR.One.new (enc := Side.cells) 30 W1 ⟨x0, x1, x2, x3, x4, x5⟩) (by omega) (by decide) (Nat.le_trans HB1.out.size (by simp)) ?_; intro v2 W2 hown2 hb2 _; have Hown2 := Lib.hid hown2; have HB2 := Lib.hid (HB1.out.trans ((((Below.refl _ W1).alloc (Nat.le_refl _) _).mono HB1.out.size).trans hb2)); clear hown2 hb2)) | (at_builtin; (refine GR.wpList_app (enc := Side.cells) (k := 6) rfl side_len side_one (by decide) Try.underlying25 info30' rfl W5.heap.size _ _ rfl _ (k + 1) _ rfl Hown2.out ⟨g, k * 6, none⟩ 0 (cap - k) (os.drop k) Hdr.out rfl (fun j u hu => by rw [Hdn.out] at hu; simp [GR.flat] at hu) (by omega) (by decide) HB2.out.size ?_; intro v3 W3 hown3 hb3 _; have Hown3 := Lib.hid hown3; have HB3 := Lib.hid (HB2.out.trans hb3); clear hown3 hb3)))
                have Hfin : Hid ((k + 1 + 0) = k + 1) := Lib.hid (by omega)
                have Hins : Hid (insTo xs (k + 1) = os.take k ++ [⟨x0, x1, x2, x3, x4, x5⟩] ++ os.drop k) := Lib.hid (by show insS (xs[k]?.getD default) (insTo xs k) = _; rw [hxk.out, hos.out]; unfold insS; rw [Hplc.out])
                have HBn := Lib.hid (HBx.out.trans (HB3.out.mono HBx.out.size))
                have Hnew := Lib.hid (GR.own_base (base' := w.heap.size) Hown3.out HBx.out.size)
                rw [Hfin.out] at Hnew
                go_roundw
                case rel => exact ⟨k + 1, by omega, by go_num, Hrt2, HBn, Lib.hid (by rw [Hins.out]; exact Hnew.out)⟩
                case measure => simp [intOf]; omega

    · obtain rfl : k = xs.length := by omega
      have tk : decide ((xs.length : Int) < (xs.length : Int)) = false := decide_eq_false (by omega)
      have hw : wrongs xs = false := wrongs_none Hrt.out
      have hs : srtY xs = insTo xs xs.length ∧ srtE xs = 0 := by unfold srtY srtE; rw [hw, insTo_srt]; exact ⟨rfl, rfl⟩
      have Hs := Lib.hid hs
      obtain ⟨A2, cap, rfl, _, hM, _⟩ := GR.own_many side_len HO.out (insTo_len xs xs.length (Nat.le_refl _)).symm
      have HM := Lib.hid hM
      clear hw hs hM
      go_wp2_with (fail)
      go_ret2
      rw [Hs.out.1, Hs.out.2, insTo_len xs xs.length (Nat.le_refl _)]
      exact ⟨⟨A2, cap, rfl, HM.out⟩, HB.out⟩

end Go.Proofs.Ytffnnfdlelaonaa
