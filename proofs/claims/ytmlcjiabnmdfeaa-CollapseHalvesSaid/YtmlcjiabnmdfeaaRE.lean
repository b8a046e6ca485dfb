/- The reference's test of a framing. -/
import Derived.Test.YtmlcjiabnmdfeaaRD
import Derived.Test.YtmlcjiabnmdfeaaRB
import Derived.Test.YtmlcjiabnmdfeaaUA
namespace Go.Proofs.Ytmlcjiabnmdfeaa
open Go Go.RowKit Go.Shelf CT
set_option linter.unusedVariables false

/-- the reference's Slots refuses numbers below zero -/
theorem c28_neg (A : Option Addr) (n cp : Nat) (R C : Int) (w : World) (hR : R ≤ 8) (hC : C ≤ 8) (h : ¬ (0 ≤ R ∧ 0 ≤ C)) :
    Calls Try.prog 28 #[.slice A n cp, .int .i64 R, .int .i64 C] w fun e w' => e = .returned (.tuple #[.slice none 0 0, .int .i64 70]) ∧ Below w.heap.size w w' := by
  by_cases c1 : R < 0
  · have t1 : decide (R < 0) = true := decide_eq_true c1
    clear c1 h hR hC
    go_enter Try.func28, Try.ntmps28
    go_wp2_with (fail)
    refine ⟨rfl, _, results_tmp2 rfl _ _ _, ?_⟩
    exact ⟨rfl, Below.refl _ _⟩
  · have t1 : decide (R < 0) = false := decide_eq_false c1
    have t2 : decide (65536 < R) = false := decide_eq_false (by omega)
    have t3 : decide (C < 0) = true := decide_eq_true (by omega)
    clear c1 h hR hC
    go_enter Try.func28, Try.ntmps28
    go_wp2_with (fail)
    refine ⟨rfl, _, results_tmp2 rfl _ _ _, ?_⟩
    exact ⟨rfl, Below.refl _ _⟩
theorem c28z (A : Option Addr) (ps : List Place) (cp : Nat) (R C : Int) (w : World) (hx : GR.Many Place.cells 5 w A ps) (hl : ps.length ≤ 10) (hR : R ≤ 8) (hC : C ≤ 8) :
    Calls Try.prog 28 #[.slice A ps.length cp, .int .i64 R, .int .i64 C] w fun e w' => (okZ ps R C = true → ∃ v vs, e = .returned (.tuple #[v, .int .i64 0]) ∧ TabR w' w.heap.size v R.toNat vs (fun _ => C.toNat) (whoTo ps ps.length)) ∧
      (okZ ps R C = false → e = .returned (.tuple #[.slice none 0 0, .int .i64 70])) ∧ Below w.heap.size w w' := by
  by_cases hp : 0 ≤ R ∧ 0 ≤ C
  · obtain ⟨r, rfl⟩ := Int.eq_ofNat_of_zero_le hp.1
    obtain ⟨c, rfl⟩ := Int.eq_ofNat_of_zero_le hp.2
    have e : okZ ps r c = okS ps r c := by unfold okZ; rw [decide_eq_true hp, Bool.true_and, Int.toNat_natCast, Int.toNat_natCast]
    rw [e]
    refine (c28 A ps cp r c w hx hl (by omega) (by omega)).mono ?_
    rintro e w' ⟨⟨h1, h2⟩, hb⟩
    exact ⟨h1, h2, hb⟩
  · have e : okZ ps R C = false := by unfold okZ; rw [decide_eq_false hp, Bool.false_and]
    rw [e]
    refine (c28_neg A ps.length cp R C w hR hC hp).mono ?_
    rintro e w' ⟨h1, hb⟩
    exact ⟨fun h => (by cases h), fun _ => h1, hb⟩

set_option maxRecDepth 100000 in
set_option maxHeartbeats 16000000 in
/-- the reference's Right -/
theorem c13 (f : Fr) (w : World) (hI : f.In w) (hR : f.R ≤ 8) (hC : f.C ≤ 8) :
    Calls Try.prog 13 #[.agg f.arr] w fun e w' => e = .returned (.bool (okFr f)) ∧ Below w.heap.size w w' := by
  have hB : Below w.heap.size w (w.alloc (.cells f.arr 30)) := (Below.refl _ _).alloc (Nat.le_refl _) _
  have HA := Lib.hid (Fr.At.new f w)
  have HI := Lib.hid (hI.turn hB)
  have HB := Lib.hid hB
  obtain ⟨z, hz⟩ : ∃ z, okZ f.pl f.R f.C = z := ⟨_, rfl⟩
  obtain ⟨b1, hb1⟩ : ∃ b, decide (f.cl.length = f.pl.length) = b := ⟨_, rfl⟩
  obtain ⟨b2, hb2⟩ : ∃ b, (!wrongL f.t.lines) = b := ⟨_, rfl⟩
  obtain ⟨b3, hb3⟩ : ∃ b, (f.cl.all fun q => !wrongL q.lines) = b := ⟨_, rfl⟩
  obtain ⟨b4, hb4⟩ : ∃ b, (!wrongR f.R f.rl) = b := ⟨_, rfl⟩
  obtain ⟨b5, hb5⟩ : ∃ b, (!wrongR f.R f.gl) = b := ⟨_, rfl⟩
  obtain ⟨b6, hb6⟩ : ∃ b, (!wrongR f.C f.kl) = b := ⟨_, rfl⟩
  obtain ⟨b7, hb7⟩ : ∃ b, (!wrongR f.C f.hl) = b := ⟨_, rfl⟩
  have HOK : Hid (okFr f = (z && (b1 && (b2 && (b3 && (b4 && (b5 && (b6 && b7)))))))) := Lib.hid (by rw [← hz, ← hb1, ← hb2, ← hb3, ← hb4, ← hb5, ← hb6, ← hb7]; rfl)
  have HZ := Lib.hid hz
  have Hb1 := Lib.hid hb1
  have Hb3 := Lib.hid hb3
  have H28 := Lib.hid (fun W hx => c28z f.pa f.pl f.pc f.R f.C W hx hI.len.1 hR hC)
  have H29 := Lib.hid (fun W => c29 f.t W)
  rw [hb2] at H29
  have H30r : Hid (∀ W : World, f.In W → Calls Try.prog 30 #[.slice f.ra f.rl.length f.rc, .int .i64 f.R] W fun e w' => e = .returned (.bool b4) ∧ Below W.heap.size W w') := Lib.hid fun W h => by rw [← hb4]; exact c30 f.ra f.rl f.rc f.R W h.r (by have := h.len; omega)
  have H30g : Hid (∀ W : World, f.In W → Calls Try.prog 30 #[.slice f.ga f.gl.length f.gc, .int .i64 f.R] W fun e w' => e = .returned (.bool b5) ∧ Below W.heap.size W w') := Lib.hid fun W h => by rw [← hb5]; exact c30 f.ga f.gl f.gc f.R W h.g (by have := h.len; omega)
  have H30k : Hid (∀ W : World, f.In W → Calls Try.prog 30 #[.slice f.ka f.kl.length f.kc, .int .i64 f.C] W fun e w' => e = .returned (.bool b6) ∧ Below W.heap.size W w') := Lib.hid fun W h => by rw [← hb6]; exact c30 f.ka f.kl f.kc f.C W h.k (by have := h.len; omega)
  have H30h : Hid (∀ W : World, f.In W → Calls Try.prog 30 #[.slice f.ha f.hl.length f.hc, .int .i64 f.C] W fun e w' => e = .returned (.bool b7) ∧ Below W.heap.size W w') := Lib.hid fun W h => by rw [← hb7]; exact c30 f.ha f.hl f.hc f.C W h.h (by have := h.len; omega)
  have HRC : Hid (f.R ≤ 8 ∧ f.C ≤ 8) := Lib.hid ⟨hR, hC⟩
  have HLn := Lib.hid hI.len
  clear hB hI hz hb1 hb2 hb3 hb4 hb5 hb6 hb7 hR hC
  obtain ⟨ca, hca⟩ : ∃ ca, f.ca = ca := ⟨_, rfl⟩
  unfold L4.arr at H29
  go_enter Try.func13, Try.ntmps13
  obtain ⟨p0, p1, p2, p3, p4, p5, p6, p7⟩ := HA.out.eight
  go_wp2_with (fail)
  refine (H28.out _ HI.out.p).mono ?_
  rintro e w2 ⟨h1, h2, hb⟩
  clear p0 p1 p2 p3 p4 p5 p6 p7
  have HA := Lib.hid (HA.out.turn hb)
  have HI := Lib.hid (HI.out.turn hb)
  have HB := Lib.hid (HB.out.trans (hb.mono HB.out.size))
  clear hb
  cases z with
  | false =>
    obtain rfl := h2 HZ.out
    clear h1 h2
    have t0 : w2.cell? ⟨w.heap.size, 8, none⟩ = some (.int .i64 f.t.a0) := HA.out.table 0 _ rfl
    have t1 : w2.cell? ⟨w.heap.size, 9, none⟩ = some (.int .i64 f.t.a1) := HA.out.table 1 _ rfl
    have t2 : w2.cell? ⟨w.heap.size, 10, none⟩ = some (.int .u32 f.t.a2) := HA.out.table 2 _ rfl
    have t3 : w2.cell? ⟨w.heap.size, 11, none⟩ = some (.int .i64 f.t.b0) := HA.out.table 3 _ rfl
    have t4 : w2.cell? ⟨w.heap.size, 12, none⟩ = some (.int .i64 f.t.b1) := HA.out.table 4 _ rfl
    have t5 : w2.cell? ⟨w.heap.size, 13, none⟩ = some (.int .u32 f.t.b2) := HA.out.table 5 _ rfl
    have t6 : w2.cell? ⟨w.heap.size, 14, none⟩ = some (.int .i64 f.t.c0) := HA.out.table 6 _ rfl
    have t7 : w2.cell? ⟨w.heap.size, 15, none⟩ = some (.int .i64 f.t.c1) := HA.out.table 7 _ rfl
    have t8 : w2.cell? ⟨w.heap.size, 16, none⟩ = some (.int .u32 f.t.c2) := HA.out.table 8 _ rfl
    have t9 : w2.cell? ⟨w.heap.size, 17, none⟩ = some (.int .i64 f.t.d0) := HA.out.table 9 _ rfl
    have t10 : w2.cell? ⟨w.heap.size, 18, none⟩ = some (.int .i64 f.t.d1) := HA.out.table 10 _ rfl
    have t11 : w2.cell? ⟨w.heap.size, 19, none⟩ = some (.int .u32 f.t.d2) := HA.out.table 11 _ rfl
    go_wp2_with (fail)
    refine (H29.out _).mono ?_
    rintro e w3 ⟨rfl, hb⟩
    have HB := Lib.hid (HB.out.trans (hb.mono HB.out.size))
    clear t0 t1 t2 t3 t4 t5 t6 t7 t8 t9 t10 t11
    clear hb
    go_wp2_with (fail)
    go_ret
    exact ⟨by rw [HOK.out]; rfl, HB.out⟩
  | true =>
    obtain ⟨v, vs, rfl, -⟩ := h1 HZ.out
    clear h1 h2
    have t0 : w2.cell? ⟨w.heap.size, 8, none⟩ = some (.int .i64 f.t.a0) := HA.out.table 0 _ rfl
    have t1 : w2.cell? ⟨w.heap.size, 9, none⟩ = some (.int .i64 f.t.a1) := HA.out.table 1 _ rfl
    have t2 : w2.cell? ⟨w.heap.size, 10, none⟩ = some (.int .u32 f.t.a2) := HA.out.table 2 _ rfl
    have t3 : w2.cell? ⟨w.heap.size, 11, none⟩ = some (.int .i64 f.t.b0) := HA.out.table 3 _ rfl
    have t4 : w2.cell? ⟨w.heap.size, 12, none⟩ = some (.int .i64 f.t.b1) := HA.out.table 4 _ rfl
    have t5 : w2.cell? ⟨w.heap.size, 13, none⟩ = some (.int .u32 f.t.b2) := HA.out.table 5 _ rfl
    have t6 : w2.cell? ⟨w.heap.size, 14, none⟩ = some (.int .i64 f.t.c0) := HA.out.table 6 _ rfl
    have t7 : w2.cell? ⟨w.heap.size, 15, none⟩ = some (.int .i64 f.t.c1) := HA.out.table 7 _ rfl
    have t8 : w2.cell? ⟨w.heap.size, 16, none⟩ = some (.int .u32 f.t.c2) := HA.out.table 8 _ rfl
    have t9 : w2.cell? ⟨w.heap.size, 17, none⟩ = some (.int .i64 f.t.d0) := HA.out.table 9 _ rfl
    have t10 : w2.cell? ⟨w.heap.size, 18, none⟩ = some (.int .i64 f.t.d1) := HA.out.table 10 _ rfl
    have t11 : w2.cell? ⟨w.heap.size, 19, none⟩ = some (.int .u32 f.t.d2) := HA.out.table 11 _ rfl
    go_wp2_with (fail)
    refine (H29.out _).mono ?_
    rintro e w3 ⟨rfl, hb⟩
    clear t0 t1 t2 t3 t4 t5 t6 t7 t8 t9 t10 t11
    have HA := Lib.hid (HA.out.turn hb)
    have HI := Lib.hid (HI.out.turn hb)
    have HB := Lib.hid (HB.out.trans (hb.mono HB.out.size))
    clear hb
    have hm := mul_small (f.R) (f.C) HRC.out.1 HRC.out.2 (okZ_pos HZ.out)
    have f0 : IntKind.i64.wrap (f.R * f.C) = f.R * f.C := IntWalk.i64_in _ (by omega)
    have d1 : decide (10000 < f.R * f.C) = false := decide_eq_false (by omega)
    clear hm
    obtain ⟨p0, p1, p2, p3, p4, p5, p6, p7⟩ := HA.out.eight
    cases b1 with
    | false =>
      have u1 : ((f.cl.length : Int) != (f.pl.length : Int)) = true := by have := of_decide_eq_false Hb1.out; rw [bne_iff_ne]; omega
      go_wp2_with (fail)
      go_ret
      exact ⟨by rw [HOK.out]; rfl, HB.out⟩
    | true =>
      have u1 : ((f.cl.length : Int) != (f.pl.length : Int)) = false := by have := of_decide_eq_true Hb1.out; rw [bne_eq_false_iff_eq]; omega
      cases b2 with
      | false =>
        go_wp2_with (fail)
        go_ret
        exact ⟨by rw [HOK.out]; rfl, HB.out⟩
      | true =>
        go_wp2_with (fail)
        clear p0 p1 p2 p3 p4 p5 p6 p7
        clear f0 d1 u1
        have HA3 := HA
        clear HA
        go_loopw [6] (fun a wr => ∃ k : Nat, k ≤ f.cl.length ∧ a = .int .i64 k ∧ Hid (f.At wr w.heap.size) ∧ Hid (f.In wr) ∧ Hid (Below w.heap.size w wr) ∧ Hid (∀ j, j < k → (!wrongL (f.cl[j]?.getD default).lines) = true)) (fun a _ => f.cl.length - (intOf a).toNat)
        case atStart => exact ⟨0, Nat.zero_le _, rfl, HA3, HI, HB, Lib.hid fun j hj => absurd hj (Nat.not_lt_zero j)⟩
        case round =>
          clear HI HB HA3
          obtain ⟨k, hk, rfl, HA, HI, HB, HK⟩ := hrel
          have hlen := HLn.out
          by_cases hlt : k < f.cl.length
          · obtain ⟨x, b, off, hxk, hca2, hat, _⟩ := HI.out.c.get k hlt
            rw [hca] at hca2
            subst hca2
            have ti : decide ((k : Int) < (f.cl.length : Int)) = true := decide_eq_true (by omega)
            obtain ⟨bx, hbx⟩ : ∃ b, (!wrongL x.lines) = b := ⟨_, rfl⟩
            have Hbx := Lib.hid hbx
            have h29 := c29 x wr
            rw [hbx] at h29
            have HC29 := Lib.hid h29
            clear h29 hbx
            obtain ⟨x0, x1, x2, x3, x4, x5, x6, x7, x8, x9, x10, x11⟩ := x
            have q0 : wr.cell? ⟨b, off + k * 12, none⟩ = some (.int .i64 x0) := hat 0 _ rfl
            have q1 : wr.cell? ⟨b, off + k * 12 + 1, none⟩ = some (.int .i64 x1) := hat 1 _ rfl
            have q2 : wr.cell? ⟨b, off + k * 12 + 2, none⟩ = some (.int .u32 x2) := hat 2 _ rfl
            have q3 : wr.cell? ⟨b, off + k * 12 + 3, none⟩ = some (.int .i64 x3) := hat 3 _ rfl
            have q4 : wr.cell? ⟨b, off + k * 12 + 4, none⟩ = some (.int .i64 x4) := hat 4 _ rfl
            have q5 : wr.cell? ⟨b, off + k * 12 + 5, none⟩ = some (.int .u32 x5) := hat 5 _ rfl
            have q6 : wr.cell? ⟨b, off + k * 12 + 6, none⟩ = some (.int .i64 x6) := hat 6 _ rfl
            have q7 : wr.cell? ⟨b, off + k * 12 + 7, none⟩ = some (.int .i64 x7) := hat 7 _ rfl
            have q8 : wr.cell? ⟨b, off + k * 12 + 8, none⟩ = some (.int .u32 x8) := hat 8 _ rfl
            have q9 : wr.cell? ⟨b, off + k * 12 + 9, none⟩ = some (.int .i64 x9) := hat 9 _ rfl
            have q10 : wr.cell? ⟨b, off + k * 12 + 10, none⟩ = some (.int .i64 x10) := hat 10 _ rfl
            have q11 : wr.cell? ⟨b, off + k * 12 + 11, none⟩ = some (.int .u32 x11) := hat 11 _ rfl
            unfold L4.arr at HC29
            dsimp only at HC29 q0
            clear hat hlen
            obtain ⟨p0, p1, p2, p3, p4, p5, p6, p7⟩ := HA.out.eight
            go_wp2_with (fail)
            refine HC29.out.mono ?_
            rintro e w4 ⟨rfl, hb⟩
            clear q0 q1 q2 q3 q4 q5 q6 q7 q8 q9 q10 q11
            clear p0 p1 p2 p3 p4 p5 p6 p7
            have HA := Lib.hid (HA.out.turn hb)
            have HI := Lib.hid (HI.out.turn hb)
            have HB := Lib.hid (HB.out.trans (hb.mono HB.out.size))
            clear hb
            cases bx with
            | false =>
              have hall : b3 = false := by rw [← Hb3.out, List.all_eq_false]; exact ⟨f.cl[k], List.getElem_mem hlt, by have e := hxk.out; rw [List.getElem?_eq_getElem hlt] at e; rw [show f.cl[k] = _ from e, Hbx.out]; decide⟩
              subst hall
              go_wp2_with (fail)
              go_ret
              exact ⟨by rw [HOK.out]; rfl, HB.out⟩
            | true =>
              have HK2 : Hid (∀ j, j < k + 1 → (!wrongL (f.cl[j]?.getD default).lines) = true) := Lib.hid fun j hj => by
                by_cases e : j = k
                · subst e; rw [hxk.out]; exact Hbx.out
                · exact HK.out j (by omega)
              have f9 : IntKind.i64.wrap ((k : Int) + 1) = (k : Int) + 1 := IntWalk.i64_in _ (by have := HLn.out; omega)
              go_wp2_with (fail)
              go_roundw
              case rel => exact ⟨k + 1, by omega, by go_num, HA, HI, HB, HK2⟩
              case measure => simp [intOf]; omega
          · obtain rfl : k = f.cl.length := by omega
            have ti : decide ((f.cl.length : Int) < (f.cl.length : Int)) = false := decide_eq_false (by omega)
            have hall : b3 = true := by
              rw [← Hb3.out, List.all_eq_true]
              intro y hy
              obtain ⟨j, hj, rfl⟩ := List.getElem_of_mem hy
              have := HK.out j hj
              rw [List.getElem?_eq_getElem hj] at this
              exact this
            subst hall
            clear HK hlen
            obtain ⟨p0, p1, p2, p3, p4, p5, p6, p7⟩ := HA.out.eight
            go_wp2_with (fail)
            refine (H30r.out _ HI.out).mono ?_
            rintro e _ ⟨rfl, hb⟩
            clear p0 p1 p2 p3 p4 p5 p6 p7
            have HA := Lib.hid (HA.out.turn hb)
            have HI := Lib.hid (HI.out.turn hb)
            have HB := Lib.hid (HB.out.trans (hb.mono HB.out.size))
            clear hb
            obtain ⟨p0, p1, p2, p3, p4, p5, p6, p7⟩ := HA.out.eight
            go_wp2_with (fail)
            refine (H30g.out _ HI.out).mono ?_
            rintro e _ ⟨rfl, hb⟩
            clear p0 p1 p2 p3 p4 p5 p6 p7
            have HA := Lib.hid (HA.out.turn hb)
            have HI := Lib.hid (HI.out.turn hb)
            have HB := Lib.hid (HB.out.trans (hb.mono HB.out.size))
            clear hb
            obtain ⟨p0, p1, p2, p3, p4, p5, p6, p7⟩ := HA.out.eight
            go_wp2_with (fail)
            refine (H30k.out _ HI.out).mono ?_
            rintro e _ ⟨rfl, hb⟩
            clear p0 p1 p2 p3 p4 p5 p6 p7
            have HA := Lib.hid (HA.out.turn hb)
            have HI := Lib.hid (HI.out.turn hb)
            have HB := Lib.hid (HB.out.trans (hb.mono HB.out.size))
            clear hb
            obtain ⟨p0, p1, p2, p3, p4, p5, p6, p7⟩ := HA.out.eight
            go_wp2_with (fail)
            refine (H30h.out _ HI.out).mono ?_
            rintro e _ ⟨rfl, hb⟩
            clear p0 p1 p2 p3 p4 p5 p6 p7
            have HA := Lib.hid (HA.out.turn hb)
            have HI := Lib.hid (HI.out.turn hb)
            have HB := Lib.hid (HB.out.trans (hb.mono HB.out.size))
            clear hb
            cases b4 <;> cases b5 <;> cases b6 <;> cases b7
            all_goals (go_wp2_with (fail); go_ret; exact ⟨by rw [HOK.out]; rfl, HB.out⟩)
end Go.Proofs.Ytmlcjiabnmdfeaa
