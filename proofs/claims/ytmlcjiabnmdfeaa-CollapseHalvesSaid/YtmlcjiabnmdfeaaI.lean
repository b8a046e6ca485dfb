/- A frame in memory; who has a slot. -/
import Derived.Test.YtmlcjiabnmdfeaaH
namespace Go.Proofs.Ytmlcjiabnmdfeaa
open Go Go.RowKit Go.Shelf CT
set_option linter.unusedVariables false

/-- a frame in memory: the framing, who has its slots -/
structure FrM (f : Fr) (W : World) (B g base : Nat) (vs : Nat → Value) : Prop where
  at_ : W.heap[B]? = some (.cells #[.int .i64 f.R, .int .i64 f.C, .slice f.pa f.pl.length f.pc, .slice f.ca f.cl.length f.cc, .slice f.ra f.rl.length f.rc, .slice f.ga f.gl.length f.gc, .slice f.ka f.kl.length f.kc, .slice f.ha f.hl.length f.hc,
    .int .i64 f.t.a0, .int .i64 f.t.a1, .int .u32 f.t.a2, .int .i64 f.t.b0, .int .i64 f.t.b1, .int .u32 f.t.b2, .int .i64 f.t.c0, .int .i64 f.t.c1, .int .u32 f.t.c2, .int .i64 f.t.d0, .int .i64 f.t.d1, .int .u32 f.t.d2, .slice (some ⟨g, 0, none⟩) f.R.toNat f.R.toNat] 68 (0, 0))
  tab : Tab W base g f.R.toNat vs (fun _ => f.C.toNat) (whoTo f.pl f.pl.length)
  in_ : f.In W
section
variable {f : Fr} {W W' : World} {B g base : Nat} {vs : Nat → Value}
theorem FrM.lt (h : FrM f W B g base vs) : B < W.heap.size := (Array.getElem?_eq_some_iff.1 h.at_).1
theorem FrM.turn (h : FrM f W B g base vs) (hb : Below W.heap.size W W') : FrM f W' B g base vs := ⟨(hb.block B h.lt).trans h.at_, h.tab.turn hb, h.in_.turn hb⟩
theorem FrM.eight (h : FrM f W B g base vs) : W.cell? ⟨B, 0, none⟩ = some (.int .i64 f.R) ∧ W.cell? ⟨B, 1, none⟩ = some (.int .i64 f.C) ∧ W.cell? ⟨B, 2, none⟩ = some (.slice f.pa f.pl.length f.pc) ∧ W.cell? ⟨B, 3, none⟩ = some (.slice f.ca f.cl.length f.cc) ∧
    W.cell? ⟨B, 4, none⟩ = some (.slice f.ra f.rl.length f.rc) ∧ W.cell? ⟨B, 5, none⟩ = some (.slice f.ga f.gl.length f.gc) ∧ W.cell? ⟨B, 6, none⟩ = some (.slice f.ka f.kl.length f.kc) ∧ W.cell? ⟨B, 7, none⟩ = some (.slice f.ha f.hl.length f.hc) ∧ W.cell? ⟨B, 20, none⟩ = some (.slice (some ⟨g, 0, none⟩) f.R.toNat f.R.toNat) := by
  have := h.at_
  simp [World.cell?, this]
end
/-- who has a slot; -1: nobody, or it is none -/
def who (f : Fr) (r c : Int) : Int := if r < 0 ∨ f.R ≤ r ∨ c < 0 ∨ f.C ≤ c then -1 else whoTo f.pl f.pl.length r.toNat c.toNat

set_option maxHeartbeats 2000000 in
theorem c43 (f : Fr) (B g base : Nat) (vs : Nat → Value) (r c : Int) (W : World) (h : FrM f W B g base vs) (hR : f.R ≤ 8) (hC : f.C ≤ 8) :
    Calls Try.prog 43 #[.pointer (some ⟨B, 0, none⟩), .int .i64 r, .int .i64 c] W fun e W' => e = .returned (.int .i64 (who f r c)) ∧ W = W' := by
  obtain ⟨p0, p1, _, _, _, _, _, _, p8⟩ := h.eight
  have H := Lib.hid h
  have HR := Lib.hid hR
  obtain ⟨v, hv⟩ : ∃ v, who f r c = v := ⟨_, rfl⟩
  rw [hv]
  have HV := Lib.hid hv
  clear hv h hR hC
  by_cases c1 : r < 0
  · obtain rfl : v = -1 := by rw [← HV.out]; unfold who; rw [if_pos (.inl c1)]
    have t1 : decide (r < 0) = true := decide_eq_true c1
    clear HV
    go_enter Try.func43, Try.ntmps43
    go_wp2
    go_ret
    exact ⟨rfl, rfl⟩
  · have t1 : decide (r < 0) = false := decide_eq_false c1
    by_cases c2 : f.R ≤ r
    · obtain rfl : v = -1 := by rw [← HV.out]; unfold who; rw [if_pos (.inr (.inl c2))]
      have t2 : decide (f.R ≤ r) = true := decide_eq_true c2
      clear HV
      go_enter Try.func43, Try.ntmps43
      go_wp2
      go_ret
      exact ⟨rfl, rfl⟩
    · have t2 : decide (f.R ≤ r) = false := decide_eq_false c2
      by_cases c3 : c < 0
      · obtain rfl : v = -1 := by rw [← HV.out]; unfold who; rw [if_pos (.inr (.inr (.inl c3)))]
        have t3 : decide (c < 0) = true := decide_eq_true c3
        clear HV
        go_enter Try.func43, Try.ntmps43
        go_wp2
        go_ret
        exact ⟨rfl, rfl⟩
      · have t3 : decide (c < 0) = false := decide_eq_false c3
        by_cases c4 : f.C ≤ c
        · obtain rfl : v = -1 := by rw [← HV.out]; unfold who; rw [if_pos (.inr (.inr (.inr c4)))]
          have t4 : decide (f.C ≤ c) = true := decide_eq_true c4
          clear HV
          go_enter Try.func43, Try.ntmps43
          go_wp2
          go_ret
          exact ⟨rfl, rfl⟩
        · have t4 : decide (f.C ≤ c) = false := decide_eq_false c4
          obtain ⟨i, rfl⟩ := Int.eq_ofNat_of_zero_le (show 0 ≤ r by omega)
          obtain ⟨j, rfl⟩ := Int.eq_ofNat_of_zero_le (show 0 ≤ c by omega)
          have hw : v = whoTo f.pl f.pl.length i j := by rw [← HV.out]; unfold who; rw [if_neg (by omega), Int.toNat_natCast, Int.toNat_natCast]
          obtain ⟨nR, hnR⟩ := Int.eq_ofNat_of_zero_le (show 0 ≤ f.R by omega)
          obtain ⟨b, cap, hvs, _, _, _, hcell, _⟩ := H.out.tab.at_ (r := i) (c := j) (by rw [hnR]; simp; omega) (by omega)
          have q := (H.out.tab.cell (r := i) (by rw [hnR]; simp; omega)).1
          rw [hvs] at q
          rw [← hw] at hcell
          have u1 : decide ((i : Int) < (f.R.toNat : Int)) = true := decide_eq_true (by rw [hnR] at c2 ⊢; simp; omega)
          have u2 : decide ((j : Int) < (f.C.toNat : Int)) = true := decide_eq_true (by omega)
          have u3 : i < f.R.toNat := by rw [hnR] at c2 ⊢; simp; omega
          have u4 : j < f.C.toNat := by omega
          have HRR := Lib.hid hnR
          clear hw HV hnR hvs H
          go_enter Try.func43, Try.ntmps43
          go_wp2
          go_ret
          exact ⟨rfl, rfl⟩
end Go.Proofs.Ytmlcjiabnmdfeaa
