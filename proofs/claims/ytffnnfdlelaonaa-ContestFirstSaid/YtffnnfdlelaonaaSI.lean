/- The walk of the law ContestWinners: any sides. -/
import Derived.Test.YtffnnfdlelaonaaSH
namespace Go.Proofs.Ytffnnfdlelaonaa
open Go Go.RowKit Go.Shelf
set_option linter.unusedVariables false

theorem cut14 (A : Option Addr) (xs : List Side) (c : Nat) (w : World) (hc : xs.length ≤ c) (hl : xs.length ≤ 17592186044416) :
    Calls Try.prog 14 #[.slice A xs.length c] w fun e w' => e = .returned (.slice A (xs.take 60).length c) ∧ w = w' := by
  have m0 : (if (60 : Int) < (xs.length : Int) then (60 : Int) else (xs.length : Int)) = ((xs.take 60).length : Int) := by rw [List.length_take]; split <;> omega
  have m1 : min (xs.length : Int) (60 : Int) = ((xs.take 60).length : Int) := by rw [List.length_take]; omega
  have s0 : (xs.take 60).length ≤ c := by rw [List.length_take]; omega
  generalize xs.take 60 = ys at *
  go_enter Try.func14, Try.ntmps14
  go_wp2_with (fail)
  go_ret
  exact ⟨rfl, rfl⟩

set_option maxRecDepth 100000 in
set_option maxHeartbeats 4000000 in
theorem winners_walk (A : Option Addr) (xs0 : List Side) (c : Nat) (w : World) (hx0 : Sides w A xs0) (hc : xs0.length ≤ c) (hl : xs0.length ≤ 17592186044416) (hwf : ∀ x ∈ xs0, x.wf) :
    Calls Try.prog 8 #[.slice A xs0.length c] w fun e w' => e = .returned (.bool true) ∧ Below w.heap.size w w' := by
  have C14 := Lib.hid (fun W => cut14 A xs0 c W hc hl)
  have hlen : (xs0.take 60).length ≤ 60 := by rw [List.length_take]; omega
  have hlc : (xs0.take 60).length ≤ c := by rw [List.length_take]; omega
  have Hx := Lib.hid ((sides_ms hx0).take 60)
  have hwf6 : ∀ x ∈ xs0.take 60, x.wf := fun x h => hwf x (List.mem_of_mem_take h)
  have C15 := Lib.hid (fun W (h : MS W A (xs0.take 60)) => c15 A (xs0.take 60) c W (ms_sides h) (by omega) hwf6)
  have C20 := Lib.hid (fun W (h : MS W A (xs0.take 60)) => c20 A (xs0.take 60) c W h (by omega))
  have C21 := Lib.hid (fun W (h : MS W A (xs0.take 60)) => c21 A (xs0.take 60) c W h hwf6 (by omega) hlc)
  have C22 := Lib.hid (fun W (h : MS W A (xs0.take 60)) => c22 A (xs0.take 60) c W h (by omega))
  have hsl : (srtY (xs0.take 60)).length ≤ 60 := by unfold srtY; split; simp; rw [srt_len]; exact hlen
  obtain ⟨ys, hys⟩ : ∃ ys, srtY (xs0.take 60) = ys := ⟨_, rfl⟩
  obtain ⟨y, hy⟩ : ∃ y, winY (xs0.take 60) = y := ⟨_, rfl⟩
  rw [hys] at C21 C22 hsl
  rw [hy] at C15 C20
  generalize winF (xs0.take 60) = f at *
  generalize srtE (xs0.take 60) = g at *
  generalize xs0.take 60 = xs at *
  clear hwf hx0 hwf6 hys hy
  obtain ⟨y0, y1, y2, y3, y4, y5⟩ := y
  unfold Side.arr at C15 C20
  dsimp only at C15 C20
  go_enter Try.func8, Try.ntmps8
  go_wp2_with (fail)
  refine (c11 w).mono ?_
  rintro e w1 ⟨rfl, hb⟩
  have HB1 := Lib.hid hb
  have Hx1 := Lib.hid (Hx.out.below hb)
  clear hb Hx
  go_wp2_with (go_at_call 14; refine (C14.out _).mono ?_; rintro e W1 ⟨rfl, rfl⟩)
  refine (C15.out _ Hx1.out).mono ?_
  rintro e w2 ⟨rfl, hb⟩
  have HB2 := Lib.hid (HB1.out.trans (hb.mono HB1.out.size))
  have Hx2 := Lib.hid (Hx1.out.below hb)
  have HB3 := Lib.hid (HB2.out.alloc HB2.out.size (.cells #[.int .i64 y0, .int .i64 y1, .int .u32 y2, .int .i64 y3, .int .i64 y4, .int .i64 y5] 30))
  have HR3 := Lib.hid (show Row (w2.alloc (.cells #[.int .i64 y0, .int .i64 y1, .int .u32 y2, .int .i64 y3, .int .i64 y4, .int .i64 y5] 30)) w2.heap.size ⟨y0, y1, y2, y3, y4, y5⟩ from Row.new w2 ⟨y0, y1, y2, y3, y4, y5⟩)
  have Hx3 := Lib.hid (Hx2.out.below ((Below.refl _ w2).alloc (Nat.le_refl _) (.cells #[.int .i64 y0, .int .i64 y1, .int .u32 y2, .int .i64 y3, .int .i64 y4, .int .i64 y5] 30)))
  clear hb HB1 Hx1
  go_wp2_with (go_at_call 14; refine (C14.out _).mono ?_; rintro e W1 ⟨rfl, rfl⟩)
  refine (C20.out _ Hx3.out).mono ?_
  rintro e w3 ⟨rfl, hb⟩
  have HB4 := Lib.hid (HB3.out.trans (hb.mono HB3.out.size))
  have Hx4 := Lib.hid (Hx3.out.below hb)
  have HR4 := Lib.hid (HR3.out.turn hb)
  have HB5 := Lib.hid (HB4.out.alloc HB4.out.size (.cells #[.int .i64 y0, .int .i64 y1, .int .u32 y2, .int .i64 y3, .int .i64 y4, .int .i64 y5] 30))
  have HS5 := Lib.hid (show Row (w3.alloc (.cells #[.int .i64 y0, .int .i64 y1, .int .u32 y2, .int .i64 y3, .int .i64 y4, .int .i64 y5] 30)) w3.heap.size ⟨y0, y1, y2, y3, y4, y5⟩ from Row.new w3 ⟨y0, y1, y2, y3, y4, y5⟩)
  have hb5 := (Below.refl _ w3).alloc (Nat.le_refl _) (.cells #[.int .i64 y0, .int .i64 y1, .int .u32 y2, .int .i64 y3, .int .i64 y4, .int .i64 y5] 30)
  have Hx5 := Lib.hid (Hx4.out.below hb5)
  have HR5 := Lib.hid (HR4.out.turn hb5)
  clear hb hb5 HB2 Hx2 HB3 HR3 Hx3
  go_wp2_with (go_at_call 14; refine (C14.out _).mono ?_; rintro e W1 ⟨rfl, rfl⟩)
  refine (C21.out _ Hx5.out).mono ?_
  rintro e w4 ⟨⟨A1, c1, rfl, hm⟩, hb⟩
  have HB6 := Lib.hid (HB5.out.trans (hb.mono HB5.out.size))
  have Hx6 := Lib.hid (Hx5.out.below hb)
  have HR6 := Lib.hid (HR5.out.turn hb)
  have HS6 := Lib.hid (HS5.out.turn hb)
  have HM6 := Lib.hid hm
  clear hb hm HB4 Hx4 HR4 HB5 HS5 Hx5 HR5
  go_wp2_with (go_at_call 14; refine (C14.out _).mono ?_; rintro e W1 ⟨rfl, rfl⟩)
  refine (C22.out _ Hx6.out).mono ?_
  rintro e w5 ⟨⟨A2, c2, rfl, hm⟩, hb⟩
  have HB7 := Lib.hid (HB6.out.trans (hb.mono HB6.out.size))
  have HR7 := Lib.hid (HR6.out.turn hb)
  have HS7 := Lib.hid (HS6.out.turn hb)
  have HM7 := Lib.hid (HM6.out.below hb)
  have HN7 := Lib.hid hm
  clear hb hm HB6 Hx6 HR6 HS6 HM6
  obtain ⟨r0, r1, r2, r3, r4, r5⟩ := HR7.out.side
  obtain ⟨s0, s1, s2, s3, s4, s5⟩ := HS7.out.side
  dsimp only at r0 r1 r2 r3 r4 r5 s0 s1 s2 s3 s4 s5
  go_wp2_with (go_at_call 23; refine (c23 A1 A2 ys c1 c2 _ HM7.out HN7.out (by omega)).mono ?_; rintro e W1 ⟨rfl, hd⟩; have HB8 := Lib.hid (HB7.out.trans (hd.below w.heap.size)); clear hd)
  go_ret
  exact ⟨rfl, HB8.out⟩

end Go.Proofs.Ytffnnfdlelaonaa
