/- The walk of the law ContestOrder: any sides, turn, way round. -/
import Derived.Test.YtffnnfdlelaonaaSI
namespace Go.Proofs.Ytffnnfdlelaonaa
open Go Go.RowKit Go.Shelf
set_option linter.unusedVariables false

theorem at61 (n : Int) : ∃ m : Nat, m ≤ 60 ∧ IntKind.i64.wrap ((IntKind.u64.wrap n).tmod 61) = m := by
  have h : 0 ≤ IntKind.u64.wrap n := by simp [IntKind.wrap, IntKind.bits, IntKind.signed]; omega
  generalize IntKind.u64.wrap n = z at *
  rw [Int.tmod_eq_emod_of_nonneg h]
  have a := Int.emod_nonneg z (show (61 : Int) ≠ 0 by omega)
  have b := Int.emod_lt_of_pos z (show (0 : Int) < 61 by omega)
  refine ⟨(z % 61).toNat, by omega, ?_⟩
  rw [IntWalk.i64_in _ (by omega)]
  omega

set_option maxRecDepth 100000 in
set_option maxHeartbeats 4000000 in
theorem order_walk (A : Option Addr) (xs0 : List Side) (c : Nat) (n : Int) (back : Bool) (w : World) (hx0 : Sides w A xs0) (hc : xs0.length ≤ c) (hl : xs0.length ≤ 17592186044416) (hwf : ∀ x ∈ xs0, x.wf) :
    Calls Try.prog 9 #[.slice A xs0.length c, .int .i64 n, .bool back] w fun e w' => e = .returned (.bool true) ∧ Below w.heap.size w w' := by
  have C14 := Lib.hid (fun W => cut14 A xs0 c W hc hl)
  have hlen : (xs0.take 60).length ≤ 60 := by rw [List.length_take]; omega
  have hlc : (xs0.take 60).length ≤ c := by rw [List.length_take]; omega
  have Hx := Lib.hid ((sides_ms hx0).take 60)
  have hwf6 : ∀ x ∈ xs0.take 60, x.wf := fun x h => hwf x (List.mem_of_mem_take h)
  obtain ⟨m, hm60, f61⟩ := at61 n
  have C24 := Lib.hid (fun W (h : MS W A (xs0.take 60)) => c24 A (xs0.take 60) c m back W h (by omega) (by omega))
  have hp := trn_perm (xs0.take 60) m back
  have hwin := win_perm hp
  have htl := trn_len (xs0.take 60) m back
  have hwft : ∀ x ∈ trn (xs0.take 60) m back, x.wf := fun x h => hwf6 x (hp.mem_iff.1 h)
  have C15 := Lib.hid (fun W (h : MS W A (xs0.take 60)) => c15 A (xs0.take 60) c W (ms_sides h) (by omega) hwf6)
  have C21 := Lib.hid (fun W (h : MS W A (xs0.take 60)) => c21 A (xs0.take 60) c W h hwf6 (by omega) hlc)
  have D15 := Lib.hid (fun A' c' W (h : MS W A' (trn (xs0.take 60) m back)) => c15 A' (trn (xs0.take 60) m back) c' W (ms_sides h) (by omega) hwft)
  have D21 := Lib.hid (fun A' c' W (h : MS W A' (trn (xs0.take 60) m back)) (hc' : (trn (xs0.take 60) m back).length ≤ c') => c21 A' (trn (xs0.take 60) m back) c' W h hwft (by omega) hc')
  have hsl : (srtY (xs0.take 60)).length ≤ 60 := by unfold srtY; split; simp; rw [srt_len]; exact hlen
  rw [hwin.1, hwin.2.1, htl] at D15
  rw [hwin.2.2.1, hwin.2.2.2, htl] at D21
  obtain ⟨ys, hys⟩ : ∃ ys, srtY (xs0.take 60) = ys := ⟨_, rfl⟩
  obtain ⟨y, hy⟩ : ∃ y, winY (xs0.take 60) = y := ⟨_, rfl⟩
  rw [hys] at C21 D21 hsl
  rw [hy] at C15 D15
  clear hwin htl hwft hp hwf6
  generalize winF (xs0.take 60) = f at *
  generalize srtE (xs0.take 60) = g at *
  generalize trn (xs0.take 60) m back = ts at *
  generalize xs0.take 60 = xs at *
  clear hwf hx0 hys hy
  obtain ⟨y0, y1, y2, y3, y4, y5⟩ := y
  unfold Side.arr at C15 D15
  dsimp only at C15 D15
  go_enter Try.func9, Try.ntmps9
  go_wp2_with (fail)
  refine (c11 w).mono ?_
  rintro e w1 ⟨rfl, hb⟩
  have HB1 := Lib.hid hb
  have Hx1 := Lib.hid (Hx.out.below hb)
  clear hb Hx
  go_wp2_with (go_at_call 14; refine (C14.out _).mono ?_; rintro e W1 ⟨rfl, rfl⟩)
  refine (C24.out _ Hx1.out).mono ?_
  rintro e wt ⟨⟨At, ct, rfl, hct, hmt⟩, hb⟩
  have HBt := Lib.hid (HB1.out.trans (hb.mono HB1.out.size))
  have Hxt := Lib.hid (Hx1.out.below hb)
  have HMt := Lib.hid hmt
  have Hct := Lib.hid hct
  clear hb hmt hct HB1 Hx1
  go_wp2_with (fail)
  refine (C15.out _ Hxt.out).mono ?_
  rintro e w2 ⟨rfl, hb⟩
  have hb3 := (Below.refl _ w2).alloc (Nat.le_refl _) (.cells #[.int .i64 y0, .int .i64 y1, .int .u32 y2, .int .i64 y3, .int .i64 y4, .int .i64 y5] 30)
  have HB3 := Lib.hid ((HBt.out.trans (hb.mono HBt.out.size)).trans (hb3.mono (Nat.le_trans HBt.out.size hb.size)))
  have HR3 := Lib.hid (show Row (w2.alloc (.cells #[.int .i64 y0, .int .i64 y1, .int .u32 y2, .int .i64 y3, .int .i64 y4, .int .i64 y5] 30)) w2.heap.size ⟨y0, y1, y2, y3, y4, y5⟩ from Row.new w2 ⟨y0, y1, y2, y3, y4, y5⟩)
  have Hx3 := Lib.hid ((Hxt.out.below hb).below hb3)
  have HM3 := Lib.hid ((HMt.out.below hb).below hb3)
  clear hb hb3 HBt Hxt HMt
  go_wp2_with (fail)
  refine (D15.out _ _ _ HM3.out).mono ?_
  rintro e w3 ⟨rfl, hb⟩
  have hb5 := (Below.refl _ w3).alloc (Nat.le_refl _) (.cells #[.int .i64 y0, .int .i64 y1, .int .u32 y2, .int .i64 y3, .int .i64 y4, .int .i64 y5] 30)
  have HB5 := Lib.hid ((HB3.out.trans (hb.mono HB3.out.size)).trans (hb5.mono (Nat.le_trans HB3.out.size hb.size)))
  have HR5 := Lib.hid ((HR3.out.turn hb).turn hb5)
  have HS5 := Lib.hid (show Row (w3.alloc (.cells #[.int .i64 y0, .int .i64 y1, .int .u32 y2, .int .i64 y3, .int .i64 y4, .int .i64 y5] 30)) w3.heap.size ⟨y0, y1, y2, y3, y4, y5⟩ from Row.new w3 ⟨y0, y1, y2, y3, y4, y5⟩)
  have Hx5 := Lib.hid ((Hx3.out.below hb).below hb5)
  have HM5 := Lib.hid ((HM3.out.below hb).below hb5)
  clear hb hb5 HB3 HR3 Hx3 HM3
  go_wp2_with (fail)
  refine (C21.out _ Hx5.out).mono ?_
  rintro e w4 ⟨⟨A1, c1, rfl, hm⟩, hb⟩
  have HB6 := Lib.hid (HB5.out.trans (hb.mono HB5.out.size))
  have HM6 := Lib.hid (HM5.out.below hb)
  have HR6 := Lib.hid (HR5.out.turn hb)
  have HS6 := Lib.hid (HS5.out.turn hb)
  have HN6 := Lib.hid hm
  clear hb hm HB5 HM5 HR5 HS5 Hx5
  go_wp2_with (fail)
  refine (D21.out _ _ _ HM6.out Hct.out).mono ?_
  rintro e w5 ⟨⟨A2, c2, rfl, hm⟩, hb⟩
  have HB7 := Lib.hid (HB6.out.trans (hb.mono HB6.out.size))
  have HR7 := Lib.hid (HR6.out.turn hb)
  have HS7 := Lib.hid (HS6.out.turn hb)
  have HM7 := Lib.hid (HN6.out.below hb)
  have HN7 := Lib.hid hm
  clear hb hm HB6 HM6 HR6 HS6 HN6
  obtain ⟨r0, r1, r2, r3, r4, r5⟩ := HR7.out.side
  obtain ⟨s0, s1, s2, s3, s4, s5⟩ := HS7.out.side
  dsimp only at r0 r1 r2 r3 r4 r5 s0 s1 s2 s3 s4 s5
  go_wp2_with (go_at_call 23; refine (c23 A1 A2 ys c1 c2 _ HM7.out HN7.out (by omega)).mono ?_; rintro e W1 ⟨rfl, hd⟩; have HB8 := Lib.hid (HB7.out.trans (hd.below w.heap.size)); clear hd)
  go_ret
  exact ⟨rfl, HB8.out⟩

end Go.Proofs.Ytffnnfdlelaonaa
