/- The walk of CollapseOrder. -/
import Derived.Test.YtmlcjiabnmdfeaaBA
import Derived.Test.YtmlcjiabnmdfeaaBB
namespace Go.Proofs.Ytmlcjiabnmdfeaa
open Go Go.RowKit Go.Shelf CT
set_option linter.unusedVariables false

theorem own_set {W : World} {base e size n B2 j : Nat} {v u : Value} {l : List Value} (h : W.ownsRow base e size v n l) (hB : B2 < base) : (W.setCell ⟨B2, j, none⟩ u).ownsRow base e size v n l :=
  GR.own_keep h fun g hg hlt => heap_set_other W j u fun e => by have := (GR.own_block h hg).1; omega
theorem alloc_setRow {W : World} {n : Nat} (h : W.heap.size = n) (o : Array Value) (c : Array Value) (t : TypeId) : (W.alloc (.cells o t)).setRow n c = W.alloc (.cells c t) := by
  rw [← h]; exact World.setRow_alloc_new ..
theorem Fr.Arg.turn {f : Fr} {W W' : World} (h : f.Arg W) (hb : Below W.heap.size W W') : f.Arg W' := ⟨h.p.below hb, h.c.below hb, h.r.below hb, h.g.below hb, h.k.below hb, h.h.below hb, h.room⟩
/-- runs the other way round, wherever they lie -/
def backF (f : Fr) (ra ga ka ha : Option Addr) (rc gc kc hc : Nat) : Fr := { f with ra := ra, rl := f.rl.reverse, rc := rc, ga := ga, gl := f.gl.reverse, gc := gc, ka := ka, kl := f.kl.reverse, kc := kc, ha := ha, hl := f.hl.reverse, hc := hc }
theorem backF_same (f : Fr) (ra ga ka ha : Option Addr) (rc gc kc hc : Nat) : Same f (backF f ra ga ka ha rc gc kc hc) := ⟨rfl, rfl, rfl, rfl, rfl, (List.reverse_perm _).symm, (List.reverse_perm _).symm, (List.reverse_perm _).symm, (List.reverse_perm _).symm⟩
theorem backF_wf {f : Fr} (h : f.wf) (ra ga ka ha : Option Addr) (rc gc kc hc : Nat) : (backF f ra ga ka ha rc gc kc hc).wf := ⟨h.c, h.t, fun x hx => h.r x (List.mem_reverse.1 hx), fun x hx => h.g x (List.mem_reverse.1 hx), fun x hx => h.k x (List.mem_reverse.1 hx), fun x hx => h.h x (List.mem_reverse.1 hx)⟩
theorem allE_len (f : Fr) (hC : f.C ≤ 8) (hR : f.R ≤ 8) : (allE f).length ≤ 1000 := by
  unfold allE
  rw [List.length_append]
  have := lieAll_len f hC (f.R.toNat + 1)
  have := standAll_len f hC f.R.toNat
  omega

set_option maxRecDepth 100000 in
set_option maxHeartbeats 16000000 in
theorem order_walk (f : Fr) (w : World) (fa : f.Arg w) (fw : f.wf) : Calls Try.prog 4 #[.agg f.arr] w fun e w' => e = .returned (.bool true) ∧ Below w.heap.size w w' := by
  have hb0 : Below w.heap.size w (w.alloc (.cells f.arr 30)) := (Below.refl _ _).alloc (Nat.le_refl _) _
  have HA0 := Lib.hid (heap_alloc_new w (.cells f.arr 30))
  have HB0 := Lib.hid hb0
  have Hroom := Lib.hid fa.room
  have HI := Lib.hid (cutF_in fa)
  have Hwf := Lib.hid (cutF_wf fw)
  obtain ⟨c, hc⟩ : ∃ c, cutF f = c := ⟨_, rfl⟩
  have HRC : Hid (c.R = f.R ∧ c.C = f.C) := Lib.hid (by rw [← hc]; exact ⟨rfl, rfl⟩)
  rw [hc] at HI Hwf
  have H11 := Lib.hid (fun W => c11 f W Hroom.out)
  rw [hc] at H11
  clear hb0 fa fw hc
  go_enter Try.func4, Try.ntmps4
  go_wp2_with (fail)
  refine (c10 _).mono ?_
  rintro e w1 ⟨rfl, hb⟩
  have HA1 := Lib.hid ((hb.block _ (Array.getElem?_eq_some_iff.1 HA0.out).1).trans HA0.out)
  have HB1 := Lib.hid (HB0.out.trans (hb.mono HB0.out.size))
  clear hb HA0 HB0
  go_wp2_with (refine at_dst 12 rfl ?_; refine wpList_load (cs := f.arr) _ rfl rfl rfl HA1.out Try.underlying30 rfl (size30 f) ?_)
  refine (H11.out _).mono ?_
  rintro e w2 ⟨rfl, hb⟩
  have HA2 := Lib.hid ((hb.block _ (Array.getElem?_eq_some_iff.1 HA1.out).1).trans HA1.out)
  have HB2 := Lib.hid (HB1.out.trans (hb.mono HB1.out.size))
  obtain ⟨w3, hw3⟩ : ∃ w3, w2.setRow w.heap.size c.arr = w3 := ⟨_, rfl⟩
  have hA3 : w3.heap[w.heap.size]? = some (.cells c.arr 30 (0, 0)) := by rw [← hw3]; exact setRow_heap _ _ _ _ _ _ HA2.out
  have hB3 : Below w.heap.size w w3 := by rw [← hw3]; exact HB2.out.trans (CT.below_setRow HB2.out.size (Nat.le_refl _))
  have HW3 := Lib.hid hw3
  have HA3 := Lib.hid hA3
  have HB3 := Lib.hid hB3
  clear hb HA1 HB1 hw3 hA3 hB3
  obtain ⟨rc, hrc⟩ : ∃ b, (decide (f.R ≤ 8) && decide (f.C ≤ 8)) = b := ⟨_, rfl⟩
  rw [hrc]
  have HR := Lib.hid hrc
  clear hrc
  cases rc with
  | false =>
    go_wp2_with (refine at_store 30 rfl ?_; refine wpList_store (B := w.heap.size) (old := f.arr) (cs := c.arr) rfl rfl rfl rfl HA2.out (size30 _) rfl (fr_one _) ?_; rw [HW3.out])
    go_ret
    exact ⟨rfl, HB3.out⟩
  | true =>
    have HRC8 : Hid (c.R ≤ 8 ∧ c.C ≤ 8) := Lib.hid (by have h := HR.out; simp at h; rw [HRC.out.1, HRC.out.2]; exact h)
    obtain ⟨w4, hw4⟩ : ∃ w4, w3.alloc (.cells c.arr 30) = w4 := ⟨_, rfl⟩
    have hb4 : Below w3.heap.size w3 w4 := by rw [← hw4]; exact (Below.refl _ _).alloc (Nat.le_refl _) _
    have hG4 : w4.heap[w3.heap.size]? = some (.cells c.arr 30 (0, 0)) := by rw [← hw4]; exact heap_alloc_new _ _
    have hA4 := (hb4.block _ (Array.getElem?_eq_some_iff.1 HA3.out).1).trans HA3.out
    have HA4 := Lib.hid hA4
    have HG4 := Lib.hid hG4
    have HB4 := Lib.hid (HB3.out.trans (hb4.mono HB3.out.size))
    have HW4 := Lib.hid hw4
    have hne : w.heap.size < w3.heap.size := (Array.getElem?_eq_some_iff.1 HA3.out).1
    clear hw4 hb4 hG4 hA4
    have z4 : _ = some (Value.slice c.ra c.rl.length c.rc) := cell_of (j := 4) HA4.out rfl
    go_wp2_with (first | (refine at_store 30 rfl ?_; refine wpList_store (B := w.heap.size) (old := f.arr) (cs := c.arr) rfl rfl rfl rfl HA2.out (size30 _) rfl (fr_one _) ?_; rw [HW3.out]) | (refine at_dst 19 rfl ?_; refine wpList_load (cs := c.arr) _ rfl rfl rfl HA3.out Try.underlying30 rfl (size30 c) ?_) | (refine at_store 30 rfl ?_; refine wpList_store (B := w3.heap.size) (old := zeroF.arr) (cs := c.arr) rfl rfl rfl rfl (heap_alloc_new w3 (.cells zeroF.arr 30)) (size30 _) rfl (fr_one _) ?_; rw [alloc_setRow rfl]; rw [HW4.out]))
    clear z4 HW3 HW4
    generalize w3.heap.size = B2 at *
    have hB2 : B2 < w4.heap.size := (Array.getElem?_eq_some_iff.1 HG4.out).1
    refine (c17 c.ra c.rl c.rc w4 (HI.out.turn HB4.out).r (Nat.le_trans HI.out.len.2.2.1 (by decide))).mono ?_
    rintro e w5 ⟨v, rfl, ho, hb⟩
    obtain ⟨Ar, capr, rfl, -⟩ := GR.own_many Run.len (l := c.rl.reverse) ho (by rw [List.length_reverse])
    have hA := (hb.block _ (Array.getElem?_eq_some_iff.1 HA4.out).1).trans HA4.out
    have hG := (hb.block _ (Array.getElem?_eq_some_iff.1 HG4.out).1).trans HG4.out
    have hBx := HB4.out.trans (hb.mono HB4.out.size)
    obtain ⟨w6, hw2⟩ : ∃ W2, w5.setCell ⟨B2, 4, none⟩ (.slice Ar c.rl.length capr) = W2 := ⟨_, rfl⟩
    have HW := Lib.hid hw2
    have HA6 : Hid (w6.heap[w.heap.size]? = some (.cells c.arr 30 (0, 0))) := Lib.hid (by rw [← hw2]; exact (heap_set_other _ _ _ (by omega)).trans hA)
    have HG6 := Lib.hid (heap_set_self hG 4 (.slice Ar c.rl.length capr))
    rw [hw2] at HG6
    have HB6 : Hid (Below w.heap.size w w6) := Lib.hid (by rw [← hw2]; exact hBx.setCell (p := ⟨B2, 4, none⟩) (Nat.le_of_lt hne) _)
    have HOr : Hid (w6.ownsRow w4.heap.size 84 14 _ _ _) := Lib.hid (by rw [← hw2]; exact own_set ho hB2)
    have s0 := cell_of (j := 4) hG (show _ = some _ from rfl)
    have s1 : w5.frozen? ⟨B2, 4, none⟩ = false := frozen_of hG
    have z : w5.cell? ⟨w.heap.size, 5, none⟩ = some (.slice c.ga c.gl.length c.gc) := cell_of hA rfl
    have hne2 : ¬ w.heap.size = B2 := by omega
    clear hA hG hBx ho hw2
    go_wp2_with (fail)
    rw [HW.out]
    clear z s0 s1 HW hne2
    have hB2w6 : B2 < w6.heap.size := (Array.getElem?_eq_some_iff.1 HG6.out).1
    refine (c17 c.ga c.gl c.gc w6 (HI.out.turn HB6.out).g (Nat.le_trans HI.out.len.2.2.2.1 (by decide))).mono ?_
    rintro e w7 ⟨v, rfl, ho, hb⟩
    obtain ⟨Ag, capg, rfl, -⟩ := GR.own_many Run.len (l := c.gl.reverse) ho (by rw [List.length_reverse])
    have hA := (hb.block _ (Array.getElem?_eq_some_iff.1 HA6.out).1).trans HA6.out
    have hG := (hb.block _ (Array.getElem?_eq_some_iff.1 HG6.out).1).trans HG6.out
    have hBx := HB6.out.trans (hb.mono HB6.out.size)
    obtain ⟨w8, hw2⟩ : ∃ W2, w7.setCell ⟨B2, 5, none⟩ (.slice Ag c.gl.length capg) = W2 := ⟨_, rfl⟩
    have HW := Lib.hid hw2
    have HA8 : Hid (w8.heap[w.heap.size]? = some (.cells c.arr 30 (0, 0))) := Lib.hid (by rw [← hw2]; exact (heap_set_other _ _ _ (by omega)).trans hA)
    have HG8 := Lib.hid (heap_set_self hG 5 (.slice Ag c.gl.length capg))
    rw [hw2] at HG8
    have HB8 : Hid (Below w.heap.size w w8) := Lib.hid (by rw [← hw2]; exact hBx.setCell (p := ⟨B2, 5, none⟩) (Nat.le_of_lt hne) _)
    have HOg : Hid (w8.ownsRow w6.heap.size 84 14 _ _ _) := Lib.hid (by rw [← hw2]; exact own_set ho hB2w6)
    have HOr : Hid (w8.ownsRow w4.heap.size 84 14 _ _ _) := Lib.hid (by rw [← hw2]; exact own_set (GR.own_turn HOr.out hb) hB2)
    have s0 := cell_of (j := 5) hG (show _ = some _ from rfl)
    have s1 : w7.frozen? ⟨B2, 5, none⟩ = false := frozen_of hG
    have z : w7.cell? ⟨w.heap.size, 6, none⟩ = some (.slice c.ka c.kl.length c.kc) := cell_of hA rfl
    have hne2 : ¬ w.heap.size = B2 := by omega
    clear hA hG hBx ho hw2
    go_wp2_with (fail)
    rw [HW.out]
    clear z s0 s1 HW hne2
    have hB2w8 : B2 < w8.heap.size := (Array.getElem?_eq_some_iff.1 HG8.out).1
    refine (c17 c.ka c.kl c.kc w8 (HI.out.turn HB8.out).k (Nat.le_trans HI.out.len.2.2.2.2.1 (by decide))).mono ?_
    rintro e w9 ⟨v, rfl, ho, hb⟩
    obtain ⟨Ak, capk, rfl, -⟩ := GR.own_many Run.len (l := c.kl.reverse) ho (by rw [List.length_reverse])
    have hA := (hb.block _ (Array.getElem?_eq_some_iff.1 HA8.out).1).trans HA8.out
    have hG := (hb.block _ (Array.getElem?_eq_some_iff.1 HG8.out).1).trans HG8.out
    have hBx := HB8.out.trans (hb.mono HB8.out.size)
    obtain ⟨w10, hw2⟩ : ∃ W2, w9.setCell ⟨B2, 6, none⟩ (.slice Ak c.kl.length capk) = W2 := ⟨_, rfl⟩
    have HW := Lib.hid hw2
    have HA10 : Hid (w10.heap[w.heap.size]? = some (.cells c.arr 30 (0, 0))) := Lib.hid (by rw [← hw2]; exact (heap_set_other _ _ _ (by omega)).trans hA)
    have HG10 := Lib.hid (heap_set_self hG 6 (.slice Ak c.kl.length capk))
    rw [hw2] at HG10
    have HB10 : Hid (Below w.heap.size w w10) := Lib.hid (by rw [← hw2]; exact hBx.setCell (p := ⟨B2, 6, none⟩) (Nat.le_of_lt hne) _)
    have HOk : Hid (w10.ownsRow w8.heap.size 84 14 _ _ _) := Lib.hid (by rw [← hw2]; exact own_set ho hB2w8)
    have HOr : Hid (w10.ownsRow w4.heap.size 84 14 _ _ _) := Lib.hid (by rw [← hw2]; exact own_set (GR.own_turn HOr.out hb) hB2)
    have HOg : Hid (w10.ownsRow w6.heap.size 84 14 _ _ _) := Lib.hid (by rw [← hw2]; exact own_set (GR.own_turn HOg.out hb) hB2w6)
    have s0 := cell_of (j := 6) hG (show _ = some _ from rfl)
    have s1 : w9.frozen? ⟨B2, 6, none⟩ = false := frozen_of hG
    have z : w9.cell? ⟨w.heap.size, 7, none⟩ = some (.slice c.ha c.hl.length c.hc) := cell_of hA rfl
    have hne2 : ¬ w.heap.size = B2 := by omega
    clear hA hG hBx ho hw2
    go_wp2_with (fail)
    rw [HW.out]
    clear z s0 s1 HW hne2
    have hB2w10 : B2 < w10.heap.size := (Array.getElem?_eq_some_iff.1 HG10.out).1
    refine (c17 c.ha c.hl c.hc w10 (HI.out.turn HB10.out).h (Nat.le_trans HI.out.len.2.2.2.2.2 (by decide))).mono ?_
    rintro e w11 ⟨v, rfl, ho, hb⟩
    obtain ⟨Ah, caph, rfl, -⟩ := GR.own_many Run.len (l := c.hl.reverse) ho (by rw [List.length_reverse])
    have hA := (hb.block _ (Array.getElem?_eq_some_iff.1 HA10.out).1).trans HA10.out
    have hG := (hb.block _ (Array.getElem?_eq_some_iff.1 HG10.out).1).trans HG10.out
    have hBx := HB10.out.trans (hb.mono HB10.out.size)
    obtain ⟨w12, hw2⟩ : ∃ W2, w11.setCell ⟨B2, 7, none⟩ (.slice Ah c.hl.length caph) = W2 := ⟨_, rfl⟩
    have HW := Lib.hid hw2
    have HA12 : Hid (w12.heap[w.heap.size]? = some (.cells c.arr 30 (0, 0))) := Lib.hid (by rw [← hw2]; exact (heap_set_other _ _ _ (by omega)).trans hA)
    have HG12 := Lib.hid (heap_set_self hG 7 (.slice Ah c.hl.length caph))
    rw [hw2] at HG12
    have HB12 : Hid (Below w.heap.size w w12) := Lib.hid (by rw [← hw2]; exact hBx.setCell (p := ⟨B2, 7, none⟩) (Nat.le_of_lt hne) _)
    have HOh : Hid (w12.ownsRow w10.heap.size 84 14 _ _ _) := Lib.hid (by rw [← hw2]; exact own_set ho hB2w10)
    have HOr : Hid (w12.ownsRow w4.heap.size 84 14 _ _ _) := Lib.hid (by rw [← hw2]; exact own_set (GR.own_turn HOr.out hb) hB2)
    have HOg : Hid (w12.ownsRow w6.heap.size 84 14 _ _ _) := Lib.hid (by rw [← hw2]; exact own_set (GR.own_turn HOg.out hb) hB2w6)
    have HOk : Hid (w12.ownsRow w8.heap.size 84 14 _ _ _) := Lib.hid (by rw [← hw2]; exact own_set (GR.own_turn HOk.out hb) hB2w8)
    have s0 := cell_of (j := 7) hG (show _ = some _ from rfl)
    have s1 : w11.frozen? ⟨B2, 7, none⟩ = false := frozen_of hG
    clear hA hG hBx ho hw2
    have hI12 := HI.out.turn HB12.out
    have hma := (GR.own_many Run.len (l := c.rl.reverse) HOr.out (by rw [List.length_reverse]))
    have hmb := (GR.own_many Run.len (l := c.gl.reverse) HOg.out (by rw [List.length_reverse]))
    have hmc := (GR.own_many Run.len (l := c.kl.reverse) HOk.out (by rw [List.length_reverse]))
    have hmd := (GR.own_many Run.len (l := c.hl.reverse) HOh.out (by rw [List.length_reverse]))
    obtain ⟨g, hg⟩ : ∃ g, backF c Ar Ag Ak Ah capr capg capk caph = g := ⟨_, rfl⟩
    have hgI : g.In w12 := by
      obtain ⟨_, _, e1, _, m1, _⟩ := hma
      obtain ⟨_, _, e2, _, m2, _⟩ := hmb
      obtain ⟨_, _, e3, _, m3, _⟩ := hmc
      obtain ⟨_, _, e4, _, m4, _⟩ := hmd
      cases e1
      cases e2
      cases e3
      cases e4
      rw [← hg]
      exact ⟨hI12.p, hI12.c, m1, m2, m3, m4, by simpa [backF] using hI12.len⟩
    have hgw : g.wf := by rw [← hg]; exact backF_wf Hwf.out _ _ _ _ _ _ _ _
    have hgs : Same c g := by rw [← hg]; exact backF_same _ _ _ _ _ _ _ _ _
    have hga : w12.heap[B2]? = some (.cells g.arr 30 (0, 0)) := by
      have h := HG12.out
      rw [show ((((c.arr.setIfInBounds 4 (.slice Ar c.rl.length capr)).setIfInBounds 5 (.slice Ag c.gl.length capg)).setIfInBounds 6 (.slice Ak c.kl.length capk)).setIfInBounds 7 (.slice Ah c.hl.length caph)) = g.arr by rw [← hg]; simp [backF, Fr.arr]] at h
      exact h
    have HGI := Lib.hid hgI
    have HGW := Lib.hid hgw
    have HGS := Lib.hid hgs
    have HGA := Lib.hid hga
    clear hI12 hma hmb hmc hmd hgI hgw hgs hga hg
    go_wp2_with (first | (refine at_dst 37 rfl ?_; rw [HW.out]; refine wpList_load (cs := c.arr) _ rfl rfl rfl HA12.out Try.underlying30 rfl (size30 c) ?_))
    refine (c12 c _ (HI.out.turn HB12.out) HRC8.out.1 HRC8.out.2 Hwf.out).mono ?_
    rintro e w13 ⟨h1, h2, hb⟩
    have hG13 := (hb.block _ (Array.getElem?_eq_some_iff.1 HGA.out).1).trans HGA.out
    have HG13 := Lib.hid hG13
    have HB13 := Lib.hid (HB12.out.trans (hb.mono HB12.out.size))
    have HGI13 := Lib.hid (HGI.out.turn hb)
    clear hb hG13 s0 s1
    cases hok : okFr c with
    | false =>
      obtain rfl := h2 hok
      have hok2 : okFr g = false := by rw [← HGS.out.ok]; exact hok
      have HOK2 := Lib.hid hok2
      clear h1 h2 hok hok2
      go_wp2_with (first | (refine at_dst 42 rfl ?_; refine wpList_load (cs := g.arr) _ rfl rfl rfl HG13.out Try.underlying30 rfl (size30 g) ?_))
      refine (c12 g _ HGI13.out (by rw [← HGS.out.R]; exact HRC8.out.1) (by rw [← HGS.out.C]; exact HRC8.out.2) HGW.out).mono ?_
      rintro e w14 ⟨-, h2, hb⟩
      obtain rfl := h2 HOK2.out
      have HB14 := Lib.hid (HB13.out.trans (hb.mono HB13.out.size))
      clear h2 hb
      go_wp2_with (fail)
      refine (c15s none none [] 0 0 w14 (GR.Many.nil _ _) (GR.Many.nil _ _) (by decide)).mono ?_
      rintro e w15 ⟨rfl, hb⟩
      have HB15 := Lib.hid (HB14.out.trans (hb.mono HB14.out.size))
      clear hb
      go_wp2_with (fail)
      go_ret
      exact ⟨rfl, HB15.out⟩
    | true =>
      obtain ⟨v1, rfl, ho1⟩ := h1 hok
      have hok2 : okFr g = true := by rw [← HGS.out.ok]; exact hok
      have HOK2 := Lib.hid hok2
      have HO1 := Lib.hid ho1
      clear h1 h2 hok hok2 ho1
      go_wp2_with (first | (refine at_dst 42 rfl ?_; refine wpList_load (cs := g.arr) _ rfl rfl rfl HG13.out Try.underlying30 rfl (size30 g) ?_))
      refine (c12 g _ HGI13.out (by rw [← HGS.out.R]; exact HRC8.out.1) (by rw [← HGS.out.C]; exact HRC8.out.2) HGW.out).mono ?_
      rintro e w14 ⟨h1, -, hb⟩
      obtain ⟨v2, rfl, ho2⟩ := h1 HOK2.out
      rw [← HGS.out.all] at ho2
      obtain ⟨A1, k1, rfl, -, m1, -⟩ := GR.own_many Edge.len (GR.own_turn HO1.out hb) rfl
      obtain ⟨A2, k2, rfl, -, m2, -⟩ := GR.own_many Edge.len ho2 rfl
      have H15 := Lib.hid (c15s A1 A2 (allE c) k1 k2 w14 m1 m2 (Nat.le_trans (allE_len c HRC8.out.2 HRC8.out.1) (by decide)))
      have HB14 := Lib.hid (HB13.out.trans (hb.mono HB13.out.size))
      clear h1 hb ho2 m1 m2 HO1
      go_wp2_with (fail)
      refine H15.out.mono ?_
      rintro e w15 ⟨rfl, hb⟩
      have HB15 := Lib.hid (HB14.out.trans (hb.mono HB14.out.size))
      clear hb
      go_wp2_with (fail)
      go_ret
      exact ⟨rfl, HB15.out⟩
end Go.Proofs.Ytmlcjiabnmdfeaa
