/- The walk of CollapseHalves. -/
import Derived.Test.YtmlcjiabnmdfeaaRR
import Derived.Test.YtmlcjiabnmdfeaaRS
import Derived.Test.YtmlcjiabnmdfeaaRE
namespace Go.Proofs.Ytmlcjiabnmdfeaa.Ords
open Go Go.RowKit
set_option linter.unusedVariables false
section
variable {P : Program} {ops : Array Oper} {Q : Exit → Act → World → Prop}
/-- a guarded operation that comes alone -/
theorem OrdAt.seq_if {cut k : Nat} {taken : List Nat} {rest : List (Nat × Bool)} {a : Act} {w : World} {o : Oper} (ho : nth ops k = some o) (hg : Region.wanted o (yielded ops a.tmps) = true)
    (h : ∀ w', Ext w w' → o.wp P a w' (OrdNext P ops Q cut k w' (k :: taken) rest) Q) : OrdAt P ops Q cut taken ((k, false) :: rest) a w := by
  refine ⟨fun h1 h2 h3 h4 h5 h6 h7 => ?_⟩
  rw [ordFrom, Bool.and_eq_true] at h1
  obtain ⟨h1, hrest⟩ := h1
  rw [ho] at h1
  simp only [Bool.and_eq_true, if_false, Bool.false_eq_true] at h1
  obtain ⟨⟨hnt, hbd⟩, hone⟩ := h1
  have ho' := nth_eq ho
  have hklt : k < ops.size := (Array.getElem?_eq_some_iff.1 ho').1
  have hnt' : k ∉ taken := fun hm => by rw [memN_iff.2 hm] at hnt; cases hnt
  have hbd' : ∀ i ∈ binding o, i ∈ taken := fun i hi => memN_iff.1 ((List.all_eq_true.1 hbd) i hi)
  have h7' : ∀ q ∈ k :: taken, ∀ x, ops[q]? = some x → ∀ i ∈ binding x, i ∈ k :: taken := fun q hq x hx i hi => by
    rcases List.mem_cons.1 hq with rfl | hq
    · rw [ho'] at hx; cases hx; exact List.mem_cons_of_mem _ (hbd' i hi)
    · exact List.mem_cons_of_mem _ (h7 q hq x hx i hi)
  show wpE P ops Q cut (rest.length + 1) _ a w
  intro w' hw'
  have hre : ∀ i ∈ Region.ready .any ops (setK ops.size taken), i = k := fun i hi => by
    obtain ⟨hu, x, hx, hall⟩ := mem_ready.1 hi
    have hilt : i < ops.size := (Array.getElem?_eq_some_iff.1 hx).1
    rw [setK_get hilt] at hu
    by_cases hik : i = k
    · exact hik
    · exfalso
      obtain ⟨b, hb, hbn⟩ := onlyOne_spec hone i x (by rw [Array.getElem?_toList]; exact hx) (by simpa using hik) (by rw [Nat.zero_add]; intro hm; rw [memN_iff.2 hm] at hu; cases hu)
      obtain ⟨e, he1, he2, rfl⟩ := mem_binding.1 hb
      have hl := hall e he1 he2
      rcases Nat.lt_or_ge e.on ops.size with hh | hh
      · rw [setK_get hh] at hl; exact hbn (memN_iff.1 hl)
      · rw [Array.getD_eq_getD_getElem?, Array.getElem?_eq_none (by rw [setK_size]; exact hh)] at hl; cases hl
  have hin : k ∈ Region.ready .any ops (setK ops.size taken) := by
    rw [mem_ready]
    refine ⟨by rw [setK_get hklt]; simpa using hnt, o, ho', fun e he hb => ?_⟩
    have hm := hbd' e.on (mem_binding.2 ⟨e, he, hb, rfl⟩)
    rw [setK_get (h6 _ hm)]; exact memN_iff.2 hm
  refine ⟨fun h0 => (by rw [h0] at hin; cases hin), fun i hi => ?_⟩
  obtain rfl := hre i hi
  unfold opW
  simp only [ho', hg, if_true]
  refine Oper.wp_mono (fun a2 w2 h8 => ⟨h8.1, ?_⟩) (h w' hw')
  rw [setK_next]
  exact h8.2.wp hrest h2 h3 (by simp at h4 ⊢; omega) (List.nodup_cons.2 ⟨hnt', h5⟩) (fun q hq => by
    rcases List.mem_cons.1 hq with rfl | hq
    · exact hklt
    · exact h6 q hq) h7'
end
end Go.Proofs.Ytmlcjiabnmdfeaa.Ords
namespace Go.Proofs.Ytmlcjiabnmdfeaa
open Go Go.RowKit Go.Shelf CT Ords
set_option linter.unusedVariables false

theorem wpList_load_ift {P : Program} {ops : Array Oper} {Q : Exit → Act → World → Prop} {o : Oper} {rest : List Oper} {a : Act} {w : World} {x : Operand} {ty t B : Nat} {cs : Array Value} {fr : Nat × Nat} (d : TypeDesc) (hgd : Region.wanted o (yielded ops a.tmps) = true) (ho : o.op = .load ty x) (hx : a.eval x = .pointer (some ⟨B, 0, none⟩)) (hg : w.heap[B]? = some (.cells cs t fr))
    (hu : P.underlying ty = some d) (hd : (match d with | .struct _ | .array _ _ => true | _ => false) = true) (hi : (P.info? ty).map (·.size) = some cs.size)
    (h : wpList P ops Q rest (a.put o.dst (.agg cs)) w) : wpList P ops Q (o :: rest) a w :=
  wpList_step fun K hK => by
    simp only [hgd, if_true]
    unfold Oper.wp
    rw [exec_load d ho hx hg hu hd hi]
    exact hK _ _ h
theorem min_two (n : Nat) : (if (200 : Int) < (n : Int) then (200 : Int) else (n : Int)) = ((min 200 n : Nat) : Int) := by split <;> omega
set_option maxRecDepth 100000 in
set_option maxHeartbeats 16000000 in
theorem halves_walk (f : Fr) (A : Option Addr) (xs : List Edge) (cp : Nat) (w : World) (fa : f.Arg w) (fw : f.wf) (hx : GR.Many Edge.cells 10 w A xs) (hc : xs.length ≤ cp) (hw : ∀ x ∈ xs, x.width ≤ 9223372036854775807) : Calls Try.prog 8 #[.agg f.arr, .slice A xs.length cp] w fun e w' => e = .returned (.bool true) ∧ Below w.heap.size w w' := by
  have HM := Lib.hid (hx.take 200)
  obtain ⟨l2, hl2⟩ : ∃ q, xs.take 200 = q := ⟨_, rfl⟩
  have HWD : Hid (∀ x ∈ l2, x.width ≤ 9223372036854775807) := Lib.hid fun x hx => hw x (by rw [← hl2] at hx; exact List.mem_of_mem_take hx)
  rw [hl2] at HM
  obtain ⟨n, hn⟩ : ∃ q, xs.length = q := ⟨_, rfl⟩
  obtain ⟨N, hN⟩ : ∃ q, min 200 n = q := ⟨_, rfl⟩
  have HN2 : Hid (l2.length = N) := Lib.hid (by rw [← hl2, List.length_take, hn, hN])
  have hNc : N ≤ cp := by omega
  have hmin := min_two n
  rw [hN] at hmin
  rw [hn]
  have HNB : Hid (N ≤ 200) := Lib.hid (by omega)
  clear hx hc hw hl2 hn hN
  have hb0 : Below w.heap.size w (w.alloc (.cells f.arr 30)) := (Below.refl _ _).alloc (Nat.le_refl _) _
  have HA0 := Lib.hid (heap_alloc_new w (.cells f.arr 30))
  have HB0 := Lib.hid hb0
  have Hroom := Lib.hid fa.room
  have HI := Lib.hid (cutF_in fa)
  have Hwf := Lib.hid (cutF_wf fw)
  obtain ⟨c, hc⟩ : ∃ c, cutF f = c := ⟨_, rfl⟩
  have HRC : Hid (c.R = f.R ∧ c.C = f.C) := Lib.hid (by rw [← hc]; exact ⟨rfl, rfl⟩)
  rw [hc] at HI Hwf
  have H11 := Lib.hid (fun W => c11 f W Hroom.out)
  rw [hc] at H11
  clear hb0 fa fw hc
  go_enter Try.func8, Try.ntmps8
  go_wp2_with (fail)
  refine (c10 _).mono ?_
  rintro e w1 ⟨rfl, hb⟩
  have HA1 := Lib.hid ((hb.block _ (Array.getElem?_eq_some_iff.1 HA0.out).1).trans HA0.out)
  have HB1 := Lib.hid (HB0.out.trans (hb.mono HB0.out.size))
  clear hb HA0 HB0
  go_wp2_with (refine at_dst 14 rfl ?_; refine wpList_load (cs := f.arr) _ rfl rfl rfl HA1.out Try.underlying30 rfl (size30 f) ?_)
  refine (H11.out _).mono ?_
  rintro e w2 ⟨rfl, hb⟩
  have HA2 := Lib.hid ((hb.block _ (Array.getElem?_eq_some_iff.1 HA1.out).1).trans HA1.out)
  have HB2 := Lib.hid (HB1.out.trans (hb.mono HB1.out.size))
  obtain ⟨w3, hw3⟩ : ∃ w3, w2.setRow w.heap.size c.arr = w3 := ⟨_, rfl⟩
  have hA3 : w3.heap[w.heap.size]? = some (.cells c.arr 30 (0, 0)) := by rw [← hw3]; exact setRow_heap _ _ _ _ _ _ HA2.out
  have hB3 : Below w.heap.size w w3 := by rw [← hw3]; exact HB2.out.trans (CT.below_setRow HB2.out.size (Nat.le_refl _))
  have HW3 := Lib.hid hw3
  have HA3 := Lib.hid hA3
  have HB3 := Lib.hid hB3
  clear hb HA1 HB1 hw3 hA3 hB3
  obtain ⟨rc, hrc⟩ : ∃ b, (decide (f.R ≤ 8) && decide (f.C ≤ 8)) = b := ⟨_, rfl⟩
  rw [hrc]
  have HR := Lib.hid hrc
  clear hrc
  cases rc with
  | false =>
    go_wp2_with (refine at_store 30 rfl ?_; refine wpList_store (B := w.heap.size) (old := f.arr) (cs := c.arr) rfl rfl rfl rfl HA2.out (size30 _) rfl (fr_one _) ?_; rw [HW3.out])
    go_ret
    exact ⟨rfl, HB3.out⟩
  | true =>
    have HRC8 : Hid (c.R ≤ 8 ∧ c.C ≤ 8) := Lib.hid (by have h := HR.out; simp at h; rw [HRC.out.1, HRC.out.2]; exact h)
    have HI3 := Lib.hid (HI.out.turn HB3.out)
    have HM3 := Lib.hid (HM.out.below HB3.out)
    have HL1 : Hid (l2.length ≤ 1000000) := Lib.hid (by have := HN2.out; have := HNB.out; omega)
    have h18 := c18 c A l2 cp w3 HI3.out HRC8.out.1 HRC8.out.2 HM3.out HL1.out HWD.out
    have h20 := fun W hI hM => c20 c A l2 cp W hI HRC8.out.1 HRC8.out.2 hM HL1.out HWD.out
    have h23 := fun W hM => c23 c A l2 cp W hM HL1.out HWD.out
    have h22 := fun hok W hI hM => c22 c A l2 cp W hI hok HRC8.out.1 HRC8.out.2 hM HL1.out HWD.out
    rw [HN2.out] at h18 h20 h22 h23
    have H18 := Lib.hid h18
    have H20 := Lib.hid h20
    have H22' := Lib.hid h22
    have H23' := Lib.hid h23
    clear h18 h20 h22 h23
    go_wp2_with (first | (refine at_store 30 rfl ?_; refine wpList_store (B := w.heap.size) (old := f.arr) (cs := c.arr) rfl rfl rfl rfl HA2.out (size30 _) rfl (fr_one _) ?_; rw [HW3.out]) | (refine at_dst 27 rfl ?_; refine wpList_load (cs := c.arr) _ rfl rfl rfl HA3.out Try.underlying30 rfl (size30 c) ?_))
    clear hmin hNc
    refine H18.out.mono ?_
    rintro e w4 ⟨h1, h2, hb⟩
    have HA4 := Lib.hid ((hb.block _ (Array.getElem?_eq_some_iff.1 HA3.out).1).trans HA3.out)
    have HI4 := Lib.hid (HI3.out.turn hb)
    have HM4 := Lib.hid (HM3.out.below hb)
    have HB4 := Lib.hid (HB3.out.trans (hb.mono HB3.out.size))
    clear hb HA2 HB2 HW3 H11 H18 HM3 HI3
    cases hok : okFr c with
    | false =>
      obtain rfl := h2 hok
      have HOK := Lib.hid hok
      clear h1 h2 hok
      go_wp2_with (refine at_dst 33 rfl ?_; refine wpList_load (cs := c.arr) _ rfl rfl rfl HA4.out Try.underlying30 rfl (size30 c) ?_)
      refine (H20.out w4 HI4.out HM4.out).mono ?_
      rintro e w5 ⟨-, h2, hb⟩
      obtain rfl := h2 HOK.out
      have HA5 := Lib.hid ((hb.block _ (Array.getElem?_eq_some_iff.1 HA4.out).1).trans HA4.out)
      obtain ⟨w6, hw6⟩ : ∃ q, w5.alloc (.cells #[.int .i64 0, .int .i64 0, .int .i64 0, .int .i64 0] 52) = q := ⟨_, rfl⟩
      have hb6 : Below w5.heap.size w5 w6 := by rw [← hw6]; exact (Below.refl _ _).alloc (Nat.le_refl _) _
      have HO6 : Hid (w6.heap[w5.heap.size]? = some (.cells #[.int .i64 0, .int .i64 0, .int .i64 0, .int .i64 0] 52 (0, 0))) := Lib.hid (by rw [← hw6]; exact heap_alloc_new _ _)
      have HA6 := Lib.hid ((hb6.block _ (Array.getElem?_eq_some_iff.1 HA5.out).1).trans HA5.out)
      have HI6 := Lib.hid ((HI4.out.turn hb).turn hb6)
      have HB6 := Lib.hid ((HB4.out.trans (hb.mono HB4.out.size)).trans (hb6.mono (Nat.le_trans HB4.out.size hb.size)))
      have HW6 := Lib.hid hw6
      have H13 := Lib.hid (c13 c w6 HI6.out HRC8.out.1 HRC8.out.2)
      rw [HOK.out] at H13
      clear h2 hb hb6 hw6 H20 H22' H23' HM4
      unfold I4.arr
      dsimp only
      go_wp2_with (first | (refine at_dst 38 rfl ?_; rw [HW6.out]; refine wpList_load (cs := c.arr) _ rfl rfl rfl HA6.out Try.underlying30 rfl (size30 c) ?_))
      refine H13.out.mono ?_
      rintro e w7 ⟨rfl, hb⟩
      have hO := (hb.block _ (Array.getElem?_eq_some_iff.1 HO6.out).1).trans HO6.out
      have k0 := cell_of (j := 0) hO rfl
      have k1 := cell_of (j := 1) hO rfl
      have k2 := cell_of (j := 2) hO rfl
      have k3 := cell_of (j := 3) hO rfl
      have HB7 := Lib.hid (HB6.out.trans (hb.mono HB6.out.size))
      have E52 := eq52 0 0 0 0 0 0 0 0 w7
      clear hb hO H13 HW6
      go_wp2_with (fail)
      go_ret
      exact ⟨rfl, HB7.out⟩
    | true =>
      obtain ⟨v, rfl, ho⟩ := h1 hok
      have HOK := Lib.hid hok
      clear h1 h2 hok
      have H22 := Lib.hid (H22'.out HOK.out)
      obtain ⟨A2, cap2, rfl, -, hm, -⟩ := GR.own_many I4.len ho rfl
      have HN4 := Lib.hid hm
      obtain ⟨NI, hNI⟩ : ∃ q, (insets c l2).length = q := ⟨_, rfl⟩
      have HLN := Lib.hid hNI
      have HLI : Hid ((insets c l2).length ≤ 1000) := Lib.hid (by unfold insets; rw [List.length_map]; have := HI.out.len.1; omega)
      rw [hNI]
      clear ho hm hNI H22'
      go_wp2_with (refine at_dst 33 rfl ?_; refine wpList_load (cs := c.arr) _ rfl rfl rfl HA4.out Try.underlying30 rfl (size30 c) ?_)
      refine (H20.out w4 HI4.out HM4.out).mono ?_
      rintro e w5 ⟨h1, -, hb⟩
      obtain rfl := h1 HOK.out
      obtain ⟨y, hy⟩ : ∃ q, outer4 c l2 = q := ⟨_, rfl⟩
      have H23 := H23'
      rw [hy] at H23
      rw [hy]
      obtain ⟨o0, o1, o2, o3⟩ := y
      have HA5 := Lib.hid ((hb.block _ (Array.getElem?_eq_some_iff.1 HA4.out).1).trans HA4.out)
      obtain ⟨w6, hw6⟩ : ∃ q, w5.alloc (.cells #[.int .i64 o0, .int .i64 o1, .int .i64 o2, .int .i64 o3] 52) = q := ⟨_, rfl⟩
      have hb6 : Below w5.heap.size w5 w6 := by rw [← hw6]; exact (Below.refl _ _).alloc (Nat.le_refl _) _
      have HO6 : Hid (w6.heap[w5.heap.size]? = some (.cells #[.int .i64 o0, .int .i64 o1, .int .i64 o2, .int .i64 o3] 52 (0, 0))) := Lib.hid (by rw [← hw6]; exact heap_alloc_new _ _)
      have HA6 := Lib.hid ((hb6.block _ (Array.getElem?_eq_some_iff.1 HA5.out).1).trans HA5.out)
      have HI6 := Lib.hid ((HI4.out.turn hb).turn hb6)
      have HM6 := Lib.hid ((HM4.out.below hb).below hb6)
      have HN6 := Lib.hid ((HN4.out.below hb).below hb6)
      have HB6 := Lib.hid ((HB4.out.trans (hb.mono HB4.out.size)).trans (hb6.mono (Nat.le_trans HB4.out.size hb.size)))
      have HW6 := Lib.hid hw6
      have H13 := Lib.hid (c13 c w6 HI6.out HRC8.out.1 HRC8.out.2)
      rw [HOK.out] at H13
      clear h1 hb hb6 hw6 hy H20 H23' HM4 HN4 HI4
      unfold I4.arr at *
      dsimp only at H23 ⊢
      go_wp2_with (first | (refine at_dst 38 rfl ?_; rw [HW6.out]; refine wpList_load (cs := c.arr) _ rfl rfl rfl HA6.out Try.underlying30 rfl (size30 c) ?_))
      refine H13.out.mono ?_
      rintro e w7 ⟨rfl, hb⟩
      have HO7 := Lib.hid ((hb.block _ (Array.getElem?_eq_some_iff.1 HO6.out).1).trans HO6.out)
      have HA7 := Lib.hid ((hb.block _ (Array.getElem?_eq_some_iff.1 HA6.out).1).trans HA6.out)
      have HI7 := Lib.hid (HI6.out.turn hb)
      have HM7 := Lib.hid (HM6.out.below hb)
      have HN7 := Lib.hid (HN6.out.below hb)
      have HB7 := Lib.hid (HB6.out.trans (hb.mono HB6.out.size))
      clear hb H13 HW6 HO6 HA6 HI6 HM6 HN6
      go_wp2_with (fail)
      refine wp_region_ord 24 [(0, true), (1, true), (2, true), (3, true), (4, true), (5, true), (6, true), (7, true), (8, true), (9, true), (10, true), (11, true), (12, true), (13, false), (14, true), (15, true), (16, true), (17, true), (18, true), (19, true), (20, true), (21, true), (22, true), (23, true)] (by kernel_rfl) (by kernel_rfl) ?_
      intro Wc hWc
      iterate 2
        apply OrdAt.op (fun _ _ _ h => h) rfl rfl rfl
        · intro X hB
          go_simp
          try rfl
        · dsimp only [List.set_cons_zero, List.set_cons_succ]
      iterate 2
        apply OrdAt.op_if (fun _ _ _ h => h) rfl rfl rfl
        · intro X hB
          go_simp
          try rfl
        · dsimp only [List.set_cons_zero, List.set_cons_succ]
      iterate 2
        apply OrdAt.op (fun _ _ _ h => h) rfl rfl rfl
        · intro X hB
          go_simp
          try rfl
        · dsimp only [List.set_cons_zero, List.set_cons_succ]
      iterate 2
        apply OrdAt.op_if (fun _ _ _ h => h) rfl rfl rfl
        · intro X hB
          go_simp
          try rfl
        · dsimp only [List.set_cons_zero, List.set_cons_succ]
      iterate 2
        apply OrdAt.op (fun _ _ _ h => h) rfl rfl rfl
        · intro X hB
          go_simp
          try rfl
        · dsimp only [List.set_cons_zero, List.set_cons_succ]
      apply OrdAt.op_if (fun _ _ _ h => h) rfl rfl rfl
      · intro X hB
        go_simp
        try rfl
      · dsimp only [List.set_cons_zero, List.set_cons_succ]
      apply OrdAt.op_if (fun _ _ _ h => h) rfl rfl rfl
      · intro X hB
        exact exec_load (cs := c.arr) (fr := (0, 0)) _ rfl rfl (((hWc.tr hB).block _ (Array.getElem?_eq_some_iff.1 HA7.out).1).trans HA7.out) Try.underlying30 rfl (size30 c)
      · dsimp only [List.set_cons_zero, List.set_cons_succ]
      apply OrdAt.op_if (fun _ _ _ h => h) rfl rfl rfl
      · intro X hB
        go_simp
        try rfl
      · dsimp only [List.set_cons_zero, List.set_cons_succ]
      refine OrdAt.seq_if rfl rfl ?_
      intro X hB
      go_wp2_with (fail)
      refine (H22.out X (HI7.out.turn (hWc.tr hB)) (HM7.out.below (hWc.tr hB))).mono ?_
      rintro e W1 ⟨v3, rfl, hg⟩
      obtain ⟨A3, cap3, hv3⟩ := own_slice hg.own
      subst hv3
      have HX8 : Hid (Below w7.heap.size w7 W1) := Lib.hid ((hWc.tr hB).trans (hg.bl.mono (hWc.tr hB).size))
      obtain ⟨A4, cap4, hv4, -, hm4, -⟩ := GR.own_many I4.len hg.own rfl
      cases hv4
      have HM8 := Lib.hid hm4
      have H21 := Lib.hid fun W h1 h2 => c21s A2 A3 (insets c l2) cap2 cap3 W h1 h2 (Nat.le_trans HLI.out (by decide))
      rw [HLN.out] at H21
      rw [HLN.out]
      refine ⟨.inr hg.bl, ?_⟩
      clear hg hm4 hB hWc
      try simp only [Act.put, List.setIfInBounds_toArray, List.set_cons_zero, List.set_cons_succ]
      apply OrdAt.call (fun _ _ _ h => h) rfl rfl rfl
      · intro X hB
        go_simp
        first | exact ⟨rfl, rfl⟩ | rfl
      · intro X hB
        refine (H21.out X (HN7.out.below (HX8.out.trans (hB.mono HX8.out.size))) (HM8.out.below hB)).mono ?_; rintro e W1 ⟨rfl, hb⟩; exact ⟨rfl, hb⟩
      · dsimp only [List.set_cons_zero, List.set_cons_succ]
      iterate 2
        apply OrdAt.op (fun _ _ _ h => h) rfl rfl rfl
        · intro X hB
          go_simp
          try rfl
        · dsimp only [List.set_cons_zero, List.set_cons_succ]
      apply OrdAt.op_if (fun _ _ _ h => h) rfl rfl rfl
      · intro X hB
        have hO := (((HX8.out.trans (hB.mono HX8.out.size)).block _ (Array.getElem?_eq_some_iff.1 HO7.out).1).trans HO7.out)
        have s0 := cell_of (j := 0) hO rfl
        have s1 := cell_of (j := 1) hO rfl
        have s2 := cell_of (j := 2) hO rfl
        have s3 := cell_of (j := 3) hO rfl
        go_simp
        try rfl
      · dsimp only [List.set_cons_zero, List.set_cons_succ]
      apply OrdAt.op_if (fun _ _ _ h => h) rfl rfl rfl
      · intro X hB
        exact exec_load (cs := c.arr) (fr := (0, 0)) _ rfl rfl (((HX8.out.trans (hB.mono HX8.out.size)).block _ (Array.getElem?_eq_some_iff.1 HA7.out).1).trans HA7.out) Try.underlying30 rfl (size30 c)
      · dsimp only [List.set_cons_zero, List.set_cons_succ]
      apply OrdAt.op_if (fun _ _ _ h => h) rfl rfl rfl
      · intro X hB
        go_simp
        try rfl
      · dsimp only [List.set_cons_zero, List.set_cons_succ]
      apply OrdAt.call (fun _ _ _ h => h) rfl rfl rfl
      · intro X hB
        go_simp
        first | exact ⟨rfl, rfl⟩ | rfl
      · intro X hB
        refine (H23.out X (HM7.out.below (HX8.out.trans (hB.mono HX8.out.size)))).mono ?_; rintro e W1 ⟨rfl, hb⟩; exact ⟨rfl, hb⟩
      · dsimp only [List.set_cons_zero, List.set_cons_succ]
      apply OrdAt.op_if (fun _ _ _ h => h) rfl rfl rfl
      · intro X hB
        have sq := eq52 o0 o1 o2 o3 o0 o1 o2 o3 X
        simp only [and_self, decide_true] at sq
        go_simp
        try rfl
      · dsimp only [List.set_cons_zero, List.set_cons_succ]
      iterate 2
        apply OrdAt.op (fun _ _ _ h => h) rfl rfl rfl
        · intro X hB
          go_simp
          try rfl
        · dsimp only [List.set_cons_zero, List.set_cons_succ]
      refine OrdAt.done ?_
      intro W9 hW9
      have HB9 := Lib.hid (HB7.out.trans ((HX8.out.trans (hW9.mono HX8.out.size)).mono HB7.out.size))
      clear hW9
      go_wp2_with (fail)
      go_ret
      exact ⟨rfl, HB9.out⟩
end Go.Proofs.Ytmlcjiabnmdfeaa
