/- The walk of CollapseEdges. -/
import Derived.Test.YtmlcjiabnmdfeaaRJ
import Derived.Test.YtmlcjiabnmdfeaaBB
import Derived.Test.YtmlcjiabnmdfeaaAC
import Derived.Test.YtmlcjiabnmdfeaaZA
namespace Go.Proofs.Ytmlcjiabnmdfeaa
open Go Go.RowKit Go.Shelf CT
set_option linter.unusedVariables false

theorem wpList_load_ifr {P : Program} {ops : Array Oper} {Q : Exit → Act → World → Prop} {o : Oper} {rest : List Oper} {a : Act} {w : World} {x : Operand} {ty t B : Nat} {cs : Array Value} {fr : Nat × Nat} (d : TypeDesc) (hgd : Region.wanted o (yielded ops a.tmps) = true) (ho : o.op = .load ty x) (hx : a.eval x = .pointer (some ⟨B, 0, none⟩)) (hg : w.heap[B]? = some (.cells cs t fr))
    (hu : P.underlying ty = some d) (hd : (match d with | .struct _ | .array _ _ => true | _ => false) = true) (hi : (P.info? ty).map (·.size) = some cs.size)
    (h : wpList P ops Q rest (a.put o.dst (.agg cs)) w) : wpList P ops Q (o :: rest) a w :=
  wpList_step fun K hK => by
    simp only [hgd, if_true]
    unfold Oper.wp
    rw [exec_load d ho hx hg hu hd hi]
    exact hK _ _ h
set_option maxRecDepth 100000 in
set_option maxHeartbeats 16000000 in
theorem edges_walk (f : Fr) (w : World) (fa : f.Arg w) (fw : f.wf) : Calls Try.prog 3 #[.agg f.arr] w fun e w' => e = .returned (.bool true) ∧ Below w.heap.size w w' := by
  have hb0 : Below w.heap.size w (w.alloc (.cells f.arr 30)) := (Below.refl _ _).alloc (Nat.le_refl _) _
  have HA0 := Lib.hid (heap_alloc_new w (.cells f.arr 30))
  have HB0 := Lib.hid hb0
  have Hroom := Lib.hid fa.room
  have HI := Lib.hid (cutF_in fa)
  have Hwf := Lib.hid (cutF_wf fw)
  obtain ⟨c, hc⟩ : ∃ c, cutF f = c := ⟨_, rfl⟩
  have HRC : Hid (c.R = f.R ∧ c.C = f.C) := Lib.hid (by rw [← hc]; exact ⟨rfl, rfl⟩)
  rw [hc] at HI Hwf
  have H11 := Lib.hid (fun W => c11 f W Hroom.out)
  rw [hc] at H11
  clear hb0 fa fw hc
  go_enter Try.func3, Try.ntmps3
  go_wp2_with (fail)
  refine (c10 _).mono ?_
  rintro e w1 ⟨rfl, hb⟩
  have HA1 := Lib.hid ((hb.block _ (Array.getElem?_eq_some_iff.1 HA0.out).1).trans HA0.out)
  have HB1 := Lib.hid (HB0.out.trans (hb.mono HB0.out.size))
  clear hb HA0 HB0
  go_wp2_with (refine at_dst 10 rfl ?_; refine wpList_load (cs := f.arr) _ rfl rfl rfl HA1.out Try.underlying30 rfl (size30 f) ?_)
  refine (H11.out _).mono ?_
  rintro e w2 ⟨rfl, hb⟩
  have HA2 := Lib.hid ((hb.block _ (Array.getElem?_eq_some_iff.1 HA1.out).1).trans HA1.out)
  have HB2 := Lib.hid (HB1.out.trans (hb.mono HB1.out.size))
  obtain ⟨w3, hw3⟩ : ∃ w3, w2.setRow w.heap.size c.arr = w3 := ⟨_, rfl⟩
  have hA3 : w3.heap[w.heap.size]? = some (.cells c.arr 30 (0, 0)) := by rw [← hw3]; exact setRow_heap _ _ _ _ _ _ HA2.out
  have hB3 : Below w.heap.size w w3 := by rw [← hw3]; exact HB2.out.trans (CT.below_setRow HB2.out.size (Nat.le_refl _))
  have HW3 := Lib.hid hw3
  have HA3 := Lib.hid hA3
  have HB3 := Lib.hid hB3
  clear hb HA1 HB1 hw3 hA3 hB3
  obtain ⟨rc, hrc⟩ : ∃ b, (decide (f.R ≤ 8) && decide (f.C ≤ 8)) = b := ⟨_, rfl⟩
  rw [hrc]
  have HR := Lib.hid hrc
  clear hrc
  cases rc with
  | false =>
    go_wp2_with (refine at_store 30 rfl ?_; refine wpList_store (B := w.heap.size) (old := f.arr) (cs := c.arr) rfl rfl rfl rfl HA2.out (size30 _) rfl (fr_one _) ?_; rw [HW3.out])
    go_ret
    exact ⟨rfl, HB3.out⟩
  | true =>
    have HRC8 : Hid (c.R ≤ 8 ∧ c.C ≤ 8) := Lib.hid (by have h := HR.out; simp at h; rw [HRC.out.1, HRC.out.2]; exact h)
    have HI3 := Lib.hid (HI.out.turn HB3.out)
    go_wp2_with (first | (refine at_store 30 rfl ?_; refine wpList_store (B := w.heap.size) (old := f.arr) (cs := c.arr) rfl rfl rfl rfl HA2.out (size30 _) rfl (fr_one _) ?_; rw [HW3.out]) | (refine at_dst 18 rfl ?_; refine wpList_load (cs := c.arr) _ rfl rfl rfl HA3.out Try.underlying30 rfl (size30 c) ?_))
    refine (c12 c w3 HI3.out HRC8.out.1 HRC8.out.2 Hwf.out).mono ?_
    rintro e w4 ⟨h1, h2, hb⟩
    have HA4 := Lib.hid ((hb.block _ (Array.getElem?_eq_some_iff.1 HA3.out).1).trans HA3.out)
    have HI4 := Lib.hid (HI3.out.turn hb)
    have HB4 := Lib.hid (HB3.out.trans (hb.mono HB3.out.size))
    have H13 := Lib.hid (c13 c w4 HI4.out HRC8.out.1 HRC8.out.2)
    clear hb HA2 HB2 HW3 H11
    cases hok : okFr c with
    | false =>
      obtain rfl := h2 hok
      rw [hok] at H13
      have HOK := Lib.hid hok
      clear h1 h2 hok
      go_wp2_with (refine at_dst 22 rfl ?_; refine wpList_load (cs := c.arr) _ rfl rfl rfl HA4.out Try.underlying30 rfl (size30 c) ?_)
      refine H13.out.mono ?_
      rintro e w5 ⟨rfl, hb⟩
      have HA5 := Lib.hid ((hb.block _ (Array.getElem?_eq_some_iff.1 HA4.out).1).trans HA4.out)
      have HB5 := Lib.hid (HB4.out.trans (hb.mono HB4.out.size))
      have H14 := Lib.hid (c14 c w5 (HI4.out.turn hb) HRC8.out.1 HRC8.out.2)
      rw [HOK.out] at H14
      clear hb H13
      go_wp2_with (refine at_dst 28 rfl ?_; refine wpList_load_ifr (cs := c.arr) _ rfl rfl rfl HA5.out Try.underlying30 rfl (size30 c) ?_)
      refine H14.out.mono ?_
      rintro e w6 ⟨rfl, hb⟩
      have HB6 := Lib.hid (HB5.out.trans (hb.mono HB5.out.size))
      clear hb H14
      go_wp2_with (fail)
      go_ret
      exact ⟨rfl, HB6.out⟩
    | true =>
      obtain ⟨v, rfl, ho⟩ := h1 hok
      rw [hok] at H13
      have HOK := Lib.hid hok
      clear h1 h2 hok
      obtain ⟨A, cap, rfl, -, hm, -⟩ := GR.own_many Edge.len ho rfl
      have HM4 := Lib.hid hm
      have HLE : Hid ((allE c).length ≤ 1000) := Lib.hid (by unfold allE; rw [List.length_append]; have := lieAll_len c HRC8.out.2 (c.R.toNat + 1); have := standAll_len c HRC8.out.2 c.R.toNat; have := HRC8.out; omega)
      obtain ⟨n, hn⟩ : ∃ n, (allE c).length = n := ⟨_, rfl⟩
      have HN := Lib.hid hn
      rw [hn]
      clear ho hm hn
      go_wp2_with (refine at_dst 22 rfl ?_; refine wpList_load (cs := c.arr) _ rfl rfl rfl HA4.out Try.underlying30 rfl (size30 c) ?_)
      refine H13.out.mono ?_
      rintro e w5 ⟨rfl, hb⟩
      have HA5 := Lib.hid ((hb.block _ (Array.getElem?_eq_some_iff.1 HA4.out).1).trans HA4.out)
      have HB5 := Lib.hid (HB4.out.trans (hb.mono HB4.out.size))
      have HI5 := Lib.hid (HI4.out.turn hb)
      have HM5 := Lib.hid (HM4.out.below hb)
      have H14 := Lib.hid (c14 c w5 HI5.out HRC8.out.1 HRC8.out.2)
      rw [HOK.out] at H14
      clear hb H13 HM4
      go_wp2_with (refine at_dst 43 rfl ?_; refine wpList_load_ifr (cs := c.arr) _ rfl rfl rfl HA5.out Try.underlying30 rfl (size30 c) ?_)
      refine H14.out.mono ?_
      rintro e w6 ⟨rfl, hb⟩
      have HA6 := Lib.hid ((hb.block _ (Array.getElem?_eq_some_iff.1 HA5.out).1).trans HA5.out)
      have HB6 := Lib.hid (HB5.out.trans (hb.mono HB5.out.size))
      have HI6 := Lib.hid (HI5.out.turn hb)
      have HM6 := Lib.hid (HM5.out.below hb)
      have H16 := Lib.hid (c16 c w6 HI6.out HRC8.out.1 HRC8.out.2 HOK.out)
      clear hb H14 HM5
      go_wp2_with (refine at_dst 52 rfl ?_; refine wpList_load_ifr (cs := c.arr) _ rfl rfl rfl HA6.out Try.underlying30 rfl (size30 c) ?_)
      refine H16.out.mono ?_
      rintro e w7 ⟨v2, rfl, hg⟩
      obtain ⟨A2, cap2, rfl, -, hm2, -⟩ := GR.own_many Edge.len hg.own rfl
      have HB7 := Lib.hid (HB6.out.trans (hg.bl.mono HB6.out.size))
      have H15 := Lib.hid (c15s A A2 (allE c) cap cap2 w7 (HM6.out.below hg.bl) hm2 (Nat.le_trans HLE.out (by decide)))
      rw [HN.out] at H15
      rw [HN.out]
      clear hg hm2 H16 HM6
      go_wp2_with (fail)
      refine H15.out.mono ?_
      rintro e w8 ⟨rfl, hb⟩
      have HB8 := Lib.hid (HB7.out.trans (hb.mono HB7.out.size))
      clear hb H15
      go_wp2_with (fail)
      go_ret
      exact ⟨rfl, HB8.out⟩
end Go.Proofs.Ytmlcjiabnmdfeaa
