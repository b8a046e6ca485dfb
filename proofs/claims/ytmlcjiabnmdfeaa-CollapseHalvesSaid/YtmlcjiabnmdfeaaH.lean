/- Contract of collapse.Right. -/
import Derived.Test.YtmlcjiabnmdfeaaG
namespace Go.Proofs.Ytmlcjiabnmdfeaa
open Go Go.RowKit Go.Shelf CT
set_option linter.unusedVariables false

theorem okZ_pos {ps : List Place} {R C : Int} (h : okZ ps R C = true) : 0 ≤ R ∧ 0 ≤ C := by
  unfold okZ at h
  rw [Bool.and_eq_true] at h
  exact of_decide_eq_true h.1
theorem mul_small (R C : Int) (hR : R ≤ 8) (hC : C ≤ 8) (h : 0 ≤ R ∧ 0 ≤ C) : 0 ≤ R * C ∧ R * C ≤ 64 :=
  ⟨Int.mul_nonneg h.1 h.2, by have := Int.mul_le_mul hR hC h.2 (by omega : (0 : Int) ≤ 8); omega⟩
theorem at_four {w : World} {b : Nat} {q : L4} (h : GR.At L4.cells w b 0 q) (hb : b < w.heap.size) : GR.Many Line.cells 3 w (some ⟨b, 0, none⟩) q.lines := four_lines h hb
set_option maxRecDepth 100000 in
set_option maxHeartbeats 8000000 in
theorem c14 (f : Fr) (w : World) (hI : f.In w) (hR : f.R ≤ 8) (hC : f.C ≤ 8) :
    Calls Try.prog 14 #[.agg f.arr] w fun e w' => e = .returned (.bool (okFr f)) ∧ Below w.heap.size w w' := by
  have hB : Below w.heap.size w (w.alloc (.cells f.arr 30)) := (Below.refl _ _).alloc (Nat.le_refl _) _
  have HA := Lib.hid (Fr.At.new f w)
  have HI := Lib.hid (hI.turn hB)
  have HB := Lib.hid hB
  obtain ⟨z, hz⟩ : ∃ z, okZ f.pl f.R f.C = z := ⟨_, rfl⟩
  obtain ⟨b1, hb1⟩ : ∃ b, decide (f.cl.length = f.pl.length) = b := ⟨_, rfl⟩
  obtain ⟨b2, hb2⟩ : ∃ b, (!wrongL f.t.lines) = b := ⟨_, rfl⟩
  obtain ⟨b3, hb3⟩ : ∃ b, (f.cl.all fun q => !wrongL q.lines) = b := ⟨_, rfl⟩
  obtain ⟨b4, hb4⟩ : ∃ b, (!wrongR f.R f.rl) = b := ⟨_, rfl⟩
  obtain ⟨b5, hb5⟩ : ∃ b, (!wrongR f.R f.gl) = b := ⟨_, rfl⟩
  obtain ⟨b6, hb6⟩ : ∃ b, (!wrongR f.C f.kl) = b := ⟨_, rfl⟩
  obtain ⟨b7, hb7⟩ : ∃ b, (!wrongR f.C f.hl) = b := ⟨_, rfl⟩
  have HOK : Hid (okFr f = (z && (b1 && (b2 && (b3 && (b4 && (b5 && (b6 && b7)))))))) := Lib.hid (by rw [← hz, ← hb1, ← hb2, ← hb3, ← hb4, ← hb5, ← hb6, ← hb7]; rfl)
  have HZ := Lib.hid hz
  have Hb1 := Lib.hid hb1
  have Hb3 := Lib.hid hb3
  have H25 := Lib.hid (fun W hx => c25z f.pa f.pl f.pc f.R f.C W hx hI.len.1 hR hC)
  have H31 : Hid (∀ (W : World) (B : Nat), f.At W B → Calls Try.prog 31 #[.slice (some ⟨B, 8, none⟩) 4 4] W fun e w' => e = .returned (.bool b2) ∧ Below W.heap.size W w') := Lib.hid fun W B h => by rw [← hb2]; exact c31 (some ⟨B, 8, none⟩) f.t.lines 4 W (four_lines h.table h.lt) (by show 4 ≤ _; decide)
  have H32r : Hid (∀ W : World, f.In W → Calls Try.prog 32 #[.int .i64 f.R, .slice f.ra f.rl.length f.rc] W fun e w' => e = .returned (.bool b4) ∧ Below W.heap.size W w') := Lib.hid fun W h => by rw [← hb4]; exact c32 f.R f.ra f.rl f.rc W h.r (by have := h.len; omega)
  have H32g : Hid (∀ W : World, f.In W → Calls Try.prog 32 #[.int .i64 f.R, .slice f.ga f.gl.length f.gc] W fun e w' => e = .returned (.bool b5) ∧ Below W.heap.size W w') := Lib.hid fun W h => by rw [← hb5]; exact c32 f.R f.ga f.gl f.gc W h.g (by have := h.len; omega)
  have H32k : Hid (∀ W : World, f.In W → Calls Try.prog 32 #[.int .i64 f.C, .slice f.ka f.kl.length f.kc] W fun e w' => e = .returned (.bool b6) ∧ Below W.heap.size W w') := Lib.hid fun W h => by rw [← hb6]; exact c32 f.C f.ka f.kl f.kc W h.k (by have := h.len; omega)
  have H32h : Hid (∀ W : World, f.In W → Calls Try.prog 32 #[.int .i64 f.C, .slice f.ha f.hl.length f.hc] W fun e w' => e = .returned (.bool b7) ∧ Below W.heap.size W w') := Lib.hid fun W h => by rw [← hb7]; exact c32 f.C f.ha f.hl f.hc W h.h (by have := h.len; omega)
  have HRC : Hid (f.R ≤ 8 ∧ f.C ≤ 8) := Lib.hid ⟨hR, hC⟩
  have HLn := Lib.hid hI.len
  clear hB hI hz hb1 hb2 hb3 hb4 hb5 hb6 hb7 hR hC
  obtain ⟨ca, hca⟩ : ∃ ca, f.ca = ca := ⟨_, rfl⟩
  go_enter Try.func14, Try.ntmps14
  obtain ⟨p0, p1, p2, p3, p4, p5, p6, p7⟩ := HA.out.eight
  go_wp2_with (fail)
  refine (H25.out _ HI.out.p).mono ?_
  rintro e w2 ⟨h1, h2, hb⟩
  clear p0 p1 p2 p3 p4 p5 p6 p7
  have HA := Lib.hid (HA.out.turn hb)
  have HI := Lib.hid (HI.out.turn hb)
  have HB := Lib.hid (HB.out.trans (hb.mono HB.out.size))
  clear hb
  cases z with
  | false =>
    obtain rfl := h2 HZ.out
    clear h1 h2
    go_wp2_with (fail)
    go_ret
    exact ⟨by rw [HOK.out]; rfl, HB.out⟩
  | true =>
    obtain ⟨g, vs, rfl, -⟩ := h1 HZ.out
    clear h1 h2
    have hm := mul_small (f.R) (f.C) HRC.out.1 HRC.out.2 (okZ_pos HZ.out)
    have f0 : IntKind.i64.wrap (f.R * f.C) = f.R * f.C := IntWalk.i64_in _ (by omega)
    have d1 : decide (10000 < f.R * f.C) = false := decide_eq_false (by omega)
    clear hm
    obtain ⟨p0, p1, p2, p3, p4, p5, p6, p7⟩ := HA.out.eight
    cases b1 with
    | false =>
      have t1 : ((f.cl.length : Int) != (f.pl.length : Int)) = true := by have := of_decide_eq_false Hb1.out; rw [bne_iff_ne]; omega
      go_wp2_with (fail)
      go_ret
      exact ⟨by rw [HOK.out]; rfl, HB.out⟩
    | true =>
      have t1 : ((f.cl.length : Int) != (f.pl.length : Int)) = false := by have := of_decide_eq_true Hb1.out; rw [bne_eq_false_iff_eq]; omega
      go_wp2_with (fail)
      refine (H31.out _ _ HA.out).mono ?_
      rintro e w3 ⟨rfl, hb⟩
      clear p0 p1 p2 p3 p4 p5 p6 p7
      have HA := Lib.hid (HA.out.turn hb)
      have HI := Lib.hid (HI.out.turn hb)
      have HB := Lib.hid (HB.out.trans (hb.mono HB.out.size))
      clear hb
      clear f0 d1 t1
      cases b2 with
      | false =>
        go_wp2_with (fail)
        go_ret
        exact ⟨by rw [HOK.out]; rfl, HB.out⟩
      | true =>
        obtain ⟨p0, p1, p2, p3, p4, p5, p6, p7⟩ := HA.out.eight
        go_wp2_with (fail)
        clear p0 p1 p2 p3 p4 p5 p6 p7
        have HA3 := HA
        clear HA
        go_loopw [45] (fun a wr => ∃ k : Nat, k ≤ f.cl.length ∧ a = .int .i64 k ∧ Hid (f.At wr w.heap.size) ∧ Hid (f.In wr) ∧ Hid (Below w.heap.size w wr) ∧ Hid (∀ j, j < k → (!wrongL (f.cl[j]?.getD default).lines) = true)) (fun a _ => f.cl.length - (intOf a).toNat)
        case atStart => exact ⟨0, Nat.zero_le _, rfl, HA3, HI, HB, Lib.hid fun j hj => absurd hj (Nat.not_lt_zero j)⟩
        case round =>
          clear HI HB HA3
          obtain ⟨k, hk, rfl, HA, HI, HB, HK⟩ := hrel
          have hlen := HLn.out
          by_cases hlt : k < f.cl.length
          · obtain ⟨x, b, off, hxk, hca2, hat, _⟩ := HI.out.c.get k hlt
            rw [hca] at hca2
            subst hca2
            have ti : decide ((k : Int) < (f.cl.length : Int)) = true := decide_eq_true (by omega)
            obtain ⟨bx, hbx⟩ : ∃ b, (!wrongL x.lines) = b := ⟨_, rfl⟩
            have Hbx := Lib.hid hbx
            have h31 : Calls Try.prog 31 #[.slice (some ⟨wr.heap.size, 0, none⟩) 4 4] (wr.alloc (.cells x.arr 28)) fun e w' => e = .returned (.bool bx) ∧ Below (wr.alloc (.cells x.arr 28)).heap.size (wr.alloc (.cells x.arr 28)) w' := by rw [← hbx]; exact c31 (some ⟨wr.heap.size, 0, none⟩) x.lines 4 _ (four_lines (GR.At.new _ _ _) (by simp)) (by show 4 ≤ _; decide)
            have hbb : Below wr.heap.size wr (wr.alloc (.cells x.arr 28)) := (Below.refl _ _).alloc (Nat.le_refl _) _
            have HBB := Lib.hid hbb
            have HC31 := Lib.hid h31
            clear h31 hbb hbx
            obtain ⟨x0, x1, x2, x3, x4, x5, x6, x7, x8, x9, x10, x11⟩ := x
            have q0 : wr.cell? ⟨b, off + k * 12, none⟩ = some (.int .i64 x0) := hat 0 _ rfl
            have q1 : wr.cell? ⟨b, off + k * 12 + 1, none⟩ = some (.int .i64 x1) := hat 1 _ rfl
            have q2 : wr.cell? ⟨b, off + k * 12 + 2, none⟩ = some (.int .u32 x2) := hat 2 _ rfl
            have q3 : wr.cell? ⟨b, off + k * 12 + 3, none⟩ = some (.int .i64 x3) := hat 3 _ rfl
            have q4 : wr.cell? ⟨b, off + k * 12 + 4, none⟩ = some (.int .i64 x4) := hat 4 _ rfl
            have q5 : wr.cell? ⟨b, off + k * 12 + 5, none⟩ = some (.int .u32 x5) := hat 5 _ rfl
            have q6 : wr.cell? ⟨b, off + k * 12 + 6, none⟩ = some (.int .i64 x6) := hat 6 _ rfl
            have q7 : wr.cell? ⟨b, off + k * 12 + 7, none⟩ = some (.int .i64 x7) := hat 7 _ rfl
            have q8 : wr.cell? ⟨b, off + k * 12 + 8, none⟩ = some (.int .u32 x8) := hat 8 _ rfl
            have q9 : wr.cell? ⟨b, off + k * 12 + 9, none⟩ = some (.int .i64 x9) := hat 9 _ rfl
            have q10 : wr.cell? ⟨b, off + k * 12 + 10, none⟩ = some (.int .i64 x10) := hat 10 _ rfl
            have q11 : wr.cell? ⟨b, off + k * 12 + 11, none⟩ = some (.int .u32 x11) := hat 11 _ rfl
            unfold L4.arr at *
            dsimp only at HC31 HBB q0
            clear hat hlen
            obtain ⟨p0, p1, p2, p3, p4, p5, p6, p7⟩ := HA.out.eight
            go_wp2_with (fail)
            refine HC31.out.mono ?_
            rintro e w4 ⟨rfl, hb4⟩
            have hb := HBB.out.trans (hb4.mono HBB.out.size)
            clear hb4 q0 q1 q2 q3 q4 q5 q6 q7 q8 q9 q10 q11
            clear p0 p1 p2 p3 p4 p5 p6 p7
            have HA := Lib.hid (HA.out.turn hb)
            have HI := Lib.hid (HI.out.turn hb)
            have HB := Lib.hid (HB.out.trans (hb.mono HB.out.size))
            clear hb
            cases bx with
            | false =>
              have hall : b3 = false := by rw [← Hb3.out, List.all_eq_false]; exact ⟨f.cl[k], List.getElem_mem hlt, by have e := hxk.out; rw [List.getElem?_eq_getElem hlt] at e; rw [show f.cl[k] = _ from e, Hbx.out]; decide⟩
              subst hall
              go_wp2_with (fail)
              go_ret
              exact ⟨by rw [HOK.out]; rfl, HB.out⟩
            | true =>
              have HK2 : Hid (∀ j, j < k + 1 → (!wrongL (f.cl[j]?.getD default).lines) = true) := Lib.hid fun j hj => by
                by_cases e : j = k
                · subst e; rw [hxk.out]; exact Hbx.out
                · exact HK.out j (by omega)
              have f9 : IntKind.i64.wrap ((k : Int) + 1) = (k : Int) + 1 := IntWalk.i64_in _ (by have := HLn.out; omega)
              go_wp2_with (fail)
              go_roundw
              case rel => exact ⟨k + 1, by omega, by go_num, HA, HI, HB, HK2⟩
              case measure => simp [intOf]; omega
          · obtain rfl : k = f.cl.length := by omega
            have ti : decide ((f.cl.length : Int) < (f.cl.length : Int)) = false := decide_eq_false (by omega)
            have hall : b3 = true := by
              rw [← Hb3.out, List.all_eq_true]
              intro y hy
              obtain ⟨j, hj, rfl⟩ := List.getElem_of_mem hy
              have := HK.out j hj
              rw [List.getElem?_eq_getElem hj] at this
              exact this
            subst hall
            clear HK hlen
            obtain ⟨p0, p1, p2, p3, p4, p5, p6, p7⟩ := HA.out.eight
            go_wp2_with (fail)
            refine (H32r.out _ HI.out).mono ?_
            rintro e _ ⟨rfl, hb⟩
            clear p0 p1 p2 p3 p4 p5 p6 p7
            have HA := Lib.hid (HA.out.turn hb)
            have HI := Lib.hid (HI.out.turn hb)
            have HB := Lib.hid (HB.out.trans (hb.mono HB.out.size))
            clear hb
            cases b4 with
            | false =>
              go_wp2_with (fail)
              go_ret
              exact ⟨by rw [HOK.out]; rfl, HB.out⟩
            | true =>
              obtain ⟨p0, p1, p2, p3, p4, p5, p6, p7⟩ := HA.out.eight
              go_wp2_with (fail)
              refine (H32g.out _ HI.out).mono ?_
              rintro e _ ⟨rfl, hb⟩
              clear p0 p1 p2 p3 p4 p5 p6 p7
              have HA := Lib.hid (HA.out.turn hb)
              have HI := Lib.hid (HI.out.turn hb)
              have HB := Lib.hid (HB.out.trans (hb.mono HB.out.size))
              clear hb
              cases b5 with
              | false =>
                go_wp2_with (fail)
                go_ret
                exact ⟨by rw [HOK.out]; rfl, HB.out⟩
              | true =>
                obtain ⟨p0, p1, p2, p3, p4, p5, p6, p7⟩ := HA.out.eight
                go_wp2_with (fail)
                refine (H32k.out _ HI.out).mono ?_
                rintro e _ ⟨rfl, hb⟩
                clear p0 p1 p2 p3 p4 p5 p6 p7
                have HA := Lib.hid (HA.out.turn hb)
                have HI := Lib.hid (HI.out.turn hb)
                have HB := Lib.hid (HB.out.trans (hb.mono HB.out.size))
                clear hb
                cases b6 with
                | false =>
                  go_wp2_with (fail)
                  go_ret
                  exact ⟨by rw [HOK.out]; rfl, HB.out⟩
                | true =>
                  obtain ⟨p0, p1, p2, p3, p4, p5, p6, p7⟩ := HA.out.eight
                  go_wp2_with (fail)
                  refine (H32h.out _ HI.out).mono ?_
                  rintro e _ ⟨rfl, hb⟩
                  clear p0 p1 p2 p3 p4 p5 p6 p7
                  have HA := Lib.hid (HA.out.turn hb)
                  have HI := Lib.hid (HI.out.turn hb)
                  have HB := Lib.hid (HB.out.trans (hb.mono HB.out.size))
                  clear hb
                  cases b7 with
                  | false =>
                    go_wp2_with (fail)
                    go_ret
                    exact ⟨by rw [HOK.out]; rfl, HB.out⟩
                  | true =>
                    obtain ⟨p0, p1, p2, p3, p4, p5, p6, p7⟩ := HA.out.eight
                    go_wp2_with (fail)
                    go_ret
                    exact ⟨by rw [HOK.out]; rfl, HB.out⟩
end Go.Proofs.Ytmlcjiabnmdfeaa
