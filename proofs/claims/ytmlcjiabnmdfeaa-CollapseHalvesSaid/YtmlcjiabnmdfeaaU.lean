/- Contract of collapse.Edges. -/
import Derived.Test.YtmlcjiabnmdfeaaUA
namespace Go.Proofs.Ytmlcjiabnmdfeaa
open Go Go.RowKit Go.Shelf CT
set_option linter.unusedVariables false

theorem size30 (f : Fr) : (Try.prog.info? 30).map (·.size) = some f.arr.size := by
  have h : (Try.prog.info? 30).map (·.size) = some 20 := by kernel_rfl
  exact h
theorem build68' (x0 x1 x2 x3 x4 x5 x6 x7 x8 x9 x10 x11 x12 x13 x14 x15 x16 x17 x18 x19 : Value) (A : Option Addr) (n c : Nat) (W : World) : (Instr.build 68 #[(0, .agg #[x0, x1, x2, x3, x4, x5, x6, x7, x8, x9, x10, x11, x12, x13, x14, x15, x16, x17, x18, x19]), (1, .slice A n c)]).run Try.prog W = .ok (.agg #[x0, x1, x2, x3, x4, x5, x6, x7, x8, x9, x10, x11, x12, x13, x14, x15, x16, x17, x18, x19, .slice A n c]) W := by
  kernel_rfl
def Fr.frame (f : Fr) (g : Nat) : Array Value := #[.int .i64 f.R, .int .i64 f.C, .slice f.pa f.pl.length f.pc, .slice f.ca f.cl.length f.cc, .slice f.ra f.rl.length f.rc, .slice f.ga f.gl.length f.gc, .slice f.ka f.kl.length f.kc, .slice f.ha f.hl.length f.hc, .int .i64 f.t.a0, .int .i64 f.t.a1, .int .u32 f.t.a2, .int .i64 f.t.b0, .int .i64 f.t.b1, .int .u32 f.t.b2, .int .i64 f.t.c0, .int .i64 f.t.c1, .int .u32 f.t.c2, .int .i64 f.t.d0, .int .i64 f.t.d1, .int .u32 f.t.d2, .slice (some ⟨g, 0, none⟩) f.R.toNat f.R.toNat]
theorem build68 (f : Fr) (g : Nat) (W : World) : (Instr.build 68 #[(0, .agg f.arr), (1, .slice (some ⟨g, 0, none⟩) f.R.toNat f.R.toNat)]).run Try.prog W = .ok (.agg #[.int .i64 f.R, .int .i64 f.C, .slice f.pa f.pl.length f.pc, .slice f.ca f.cl.length f.cc, .slice f.ra f.rl.length f.rc, .slice f.ga f.gl.length f.gc, .slice f.ka f.kl.length f.kc, .slice f.ha f.hl.length f.hc, .int .i64 f.t.a0, .int .i64 f.t.a1, .int .u32 f.t.a2, .int .i64 f.t.b0, .int .i64 f.t.b1, .int .u32 f.t.b2, .int .i64 f.t.c0, .int .i64 f.t.c1, .int .u32 f.t.c2, .int .i64 f.t.d0, .int .i64 f.t.d1, .int .u32 f.t.d2, .slice (some ⟨g, 0, none⟩) f.R.toNat f.R.toNat]) W := build68' _ _ _ _ _ _ _ _ _ _ _ _ _ _ _ _ _ _ _ _ _ _ _ _
theorem c27 (B : Nat) (w : World) :
    Calls Try.prog 27 #[.pointer (some ⟨B, 0, none⟩)] w fun e w' => e = .returned (.func (.func 42) #[] #[.pointer (some ⟨w.heap.size, 0, none⟩)]) ∧ w.alloc (.cells #[.pointer (some ⟨B, 0, none⟩)] 66) = w' := by
  go_enter Try.func27, Try.ntmps27
  go_wp2
  go_ret
  exact ⟨rfl, rfl⟩
/-- what a right framing says of its numbers -/
theorem okFr_num {f : Fr} (h : okFr f = true) : okZ f.pl f.R f.C = true ∧ 0 ≤ f.R ∧ 0 ≤ f.C ∧ f.cl.length = f.pl.length := by
  unfold okFr at h
  rw [Bool.and_eq_true, Bool.and_eq_true] at h
  have h1 := h.1
  unfold okZ at h1
  rw [Bool.and_eq_true, decide_eq_true_eq] at h1
  exact ⟨h.1, h1.1.1, h1.1.2, of_decide_eq_true h.2.1⟩
def EdgesSaid (f : Fr) (w : World) (e : Ending) (w' : World) : Prop :=
  (okFr f = true → ∃ v, e = .returned (.tuple #[v, .int .i64 0]) ∧ w'.ownsRow w.heap.size 47 10 v (allE f).length (GR.flat Edge.cells (allE f))) ∧ (okFr f = false → e = .returned (.tuple #[.slice none 0 0, .int .i64 120])) ∧ Below w.heap.size w w'

set_option maxRecDepth 100000 in
set_option maxHeartbeats 8000000 in
/-- collapse.Edges -/
theorem c12 (f : Fr) (w : World) (hI : f.In w) (hR : f.R ≤ 8) (hC : f.C ≤ 8) (hwf : f.wf) : Calls Try.prog 12 #[.agg f.arr] w (EdgesSaid f w) := by
  have hB : Below w.heap.size w (w.alloc (.cells f.arr 30)) := (Below.refl _ _).alloc (Nat.le_refl _) _
  have hA := Fr.At.new f w
  have HI := Lib.hid hI
  have HB := Lib.hid hB
  have HR := Lib.hid hR
  have HC := Lib.hid hC
  have Hwf := Lib.hid hwf
  have H14 := Lib.hid (fun W hx => c14 f W hx hR hC)
  have H25 := Lib.hid (fun W hx => c25z f.pa f.pl f.pc f.R f.C W hx hI.len.1 hR hC)
  obtain ⟨ok, hok⟩ : ∃ b, okFr f = b := ⟨_, rfl⟩
  have HOK := Lib.hid hok
  rw [hok] at H14
  clear hI hB hR hC hwf hok
  have HA := Lib.hid hA
  clear hA
  go_enter Try.func12, Try.ntmps12
  go_wp2_with (refine wpList_load (cs := f.arr) _ rfl rfl rfl HA.out.at_ Try.underlying30 rfl (size30 f) ?_)
  refine (H14.out _ (HI.out.turn HB.out)).mono ?_
  rintro e w2 ⟨rfl, hb⟩
  have HB2 := Lib.hid (HB.out.trans (hb.mono HB.out.size))
  have HA2 := Lib.hid (HA.out.turn hb)
  clear hb
  cases ok with
  | false =>
    go_wp2_with (fail)
    refine ⟨rfl, _, results_tmp2 rfl _ _ _, ?_⟩
    exact ⟨fun h => (by rw [HOK.out] at h; cases h), fun _ => rfl, HB2.out⟩
  | true =>
    obtain ⟨p0, p1, p2, p3, p4, p5, p6, p7⟩ := HA2.out.eight
    go_wp2_with (fail)
    refine (H25.out _ (HI.out.turn HB2.out).p).mono ?_
    rintro e w3 ⟨h1, -, hb⟩
    obtain ⟨g, vs, rfl, htab⟩ := h1 (okFr_num HOK.out).1
    have HT := Lib.hid htab
    have HB3 := Lib.hid (HB2.out.trans (hb.mono HB2.out.size))
    have HA3 := Lib.hid (HA2.out.turn hb)
    clear h1 hb htab p0 p1 p2 p3 p4 p5 p6 p7
    have hba : Below w3.heap.size w3 (w3.alloc (.cells (f.frame g) 68)) := (Below.refl _ _).alloc (Nat.le_refl _) _
    have hbb := HB3.out.trans (hba.mono HB3.out.size)
    have HF : Hid (FrM f (w3.alloc (.cells (f.frame g) 68)) w3.heap.size g w2.heap.size vs) := Lib.hid ⟨heap_alloc_new _ _, HT.out.turn hba, HI.out.turn hbb⟩
    have HB4 := Lib.hid hbb
    clear hba hbb
    go_wp2_with (first | refine wpList_load (cs := f.arr) _ rfl rfl rfl HA3.out.at_ Try.underlying30 rfl (size30 f) ?_ | (refine wpList_run rfl (exec_build2 (vx := .agg f.arr) (vy := .slice (some ⟨g, 0, none⟩) f.R.toNat f.R.toNat) (cs := f.frame g) rfl rfl rfl (build68 f g _)) ?_))
    generalize w3.alloc (.cells (f.frame g) 68) = w4 at *
    generalize w3.heap.size = B at *
    refine (c27 B w4).mono ?_
    rintro e w5 ⟨rfl, rfl⟩
    have hba : Below w4.heap.size w4 (w4.alloc (.cells #[.pointer (some ⟨B, 0, none⟩)] 66)) := (Below.refl _ _).alloc (Nat.le_refl _) _
    have HB5 := Lib.hid (HB4.out.trans (hba.mono HB4.out.size))
    have HF5 := Lib.hid (HF.out.turn hba)
    have HX5 := Lib.hid (Boxed.new w4 66 (.pointer (some ⟨B, 0, none⟩)))
    clear hba
    go_wp2_with (fail)
    refine (c26 f w4.heap.size B g w2.heap.size vs _ HF5.out HX5.out ⟨(okFr_num HOK.out).2.1, HR.out⟩ ⟨(okFr_num HOK.out).2.2.1, HC.out⟩ (okFr_num HOK.out).2.2.2 Hwf.out).mono ?_
    rintro e w6 ⟨v, rfl, ho, hb⟩
    have HO := Lib.hid (GR.own_base ho HB5.out.size)
    have HB6 := Lib.hid (HB5.out.trans (hb.mono HB5.out.size))
    clear ho hb
    go_wp2_with (fail)
    refine ⟨rfl, _, results_tmp2 rfl _ _ _, ?_⟩
    exact ⟨fun _ => ⟨_, rfl, HO.out⟩, fun h => (by rw [HOK.out] at h; cases h), HB6.out⟩
end Go.Proofs.Ytmlcjiabnmdfeaa
