/- The walk of CollapseHidden. -/
import Derived.Test.YtmlcjiabnmdfeaaBH
import Derived.Test.YtmlcjiabnmdfeaaAC
import Derived.Deep.MidRow
namespace Go.Proofs.Ytmlcjiabnmdfeaa
open Go Go.RowKit Go.Shelf CT
set_option linter.unusedVariables false

theorem allE_len2 (f : Fr) (hC : f.C ≤ 8) (hR : f.R ≤ 8) : (allE f).length ≤ 1000 := by
  unfold allE
  rw [List.length_append]
  have := lieAll_len f hC (f.R.toNat + 1)
  have := standAll_len f hC f.R.toNat
  omega
theorem winY_width (L : List CT.Side) : (winY L).width ≤ 9223372036854775807 := by
  unfold winY
  cases hb : bad L with
  | true => exact (by decide : (0 : Int) ≤ 9223372036854775807)
  | false =>
    rw [if_neg (by simp)]
    unfold bad at hb
    rw [Bool.or_eq_false_iff] at hb
    have hne : L ≠ [] := fun e => by subst e; simp at hb
    have := (right_width (wrongs_iff.1 hb.2 _ (led_mem L hne _ (Nat.le_refl _)))).2
    omega
theorem allE_width {f : Fr} {x : Edge} (hx : x ∈ allE f) : x.width ≤ 9223372036854775807 := by
  unfold allE at hx
  rw [List.mem_append] at hx
  rcases hx with hx | hx
  · unfold lieAll lieRow at hx
    obtain ⟨r, _, hx⟩ := List.mem_flatMap.1 hx
    obtain ⟨c, _, hx⟩ := List.mem_flatMap.1 hx
    unfold lieAt at hx
    split at hx
    · cases hx
    · obtain rfl := List.mem_singleton.1 hx
      exact winY_width _
  · unfold standAll standRow at hx
    obtain ⟨r, _, hx⟩ := List.mem_flatMap.1 hx
    obtain ⟨c, _, hx⟩ := List.mem_flatMap.1 hx
    unfold standAt at hx
    split at hx
    · cases hx
    · obtain rfl := List.mem_singleton.1 hx
      exact winY_width _
theorem info28 : (Try.prog.info? 28).map (fun i => (i.zero, i.size, i.bytes)) = some (some (.agg #[.int .i64 0, .int .i64 0, .int .u32 0, .int .i64 0, .int .i64 0, .int .u32 0, .int .i64 0, .int .i64 0, .int .u32 0, .int .i64 0, .int .i64 0, .int .u32 0]), 12, 96) := by kernel_rfl
/-- a store into the midst of a row -/
theorem wpList_store_mid {P : Program} {ops : Array Oper} {Q : Exit → Act → World → Prop} {o : Oper} {rest : List Oper} {a : Act} {w : World} {x y : Operand} {ty b off : Nat} {cs : Array Value} (hgd : o.guard = none) (ho : o.op = .store ty x y) (hx : a.eval x = .pointer (some ⟨b, off, none⟩)) (hy : a.eval y = .agg cs)
    (ht : w.there b off cs.size) (hi : (P.info? ty).map (·.size) = some cs.size) (h1 : cs.all (·.oneCell') = true) (h : wpList P ops Q rest (a.put o.dst undef) (w.setCells b off cs.toList)) : wpList P ops Q (o :: rest) a w :=
  wpList_plain hgd fun K hK => by
    unfold Oper.wp execOp
    simp only [ho, hx, hy, Sem.run_bind, Sem.run_pure, Result.andThen_ok, run_storeAt_mid w b off ty cs ht hi h1]
    exact hK _ _ h
theorem exec_build4 {P : Program} {o : Oper} {w : World} {ρ : Operand → Value} {t i0 i1 i2 i3 : Nat} {x0 x1 x2 x3 : Operand} {v0 v1 v2 v3 : Value} {cs : Array Value} (ho : o.op = .build t #[(i0, x0), (i1, x1), (i2, x2), (i3, x3)]) (h0 : ρ x0 = v0) (h1 : ρ x1 = v1) (h2 : ρ x2 = v2) (h3 : ρ x3 = v3)
    (hb : (Instr.build t #[(i0, v0), (i1, v1), (i2, v2), (i3, v3)]).run P w = .ok (.agg cs) w) : (execOp ρ o).run P w = .ok (.value (.agg cs)) w := by
  subst h0 h1 h2 h3
  unfold execOp
  simp only [ho, List.map_toArray, List.map_cons, List.map_nil, Sem.run_bind, Sem.run_pure, Result.andThen_ok, hb]
def lin1 : Array Value := #[.int .i64 1, .int .i64 0, .int .u32 0]
theorem build28 (W : World) : (Instr.build 28 #[(0, .agg lin1), (1, .agg lin1), (2, .agg lin1), (3, .agg lin1)]).run Try.prog W = .ok (.agg hid4.arr) W := by
  kernel_rfl
theorem size27 : (Try.prog.info? 27).map (·.size) = some lin1.size := by kernel_rfl
theorem hid4_one : hid4.arr.all (·.oneCell') = true := by simp [hid4, L4.arr, Value.oneCell']
theorem hid4_wf : hid4.wf := fun l hl => by
  simp [hid4, L4.lines] at hl
  rw [hl]; exact ⟨by decide, by decide⟩
theorem okZ_okS {ps : List Place} {R C : Int} (h : okZ ps R C = true) : okS ps R.toNat C.toNat = true := by
  unfold okZ at h
  rw [Bool.and_eq_true] at h
  exact h.2
theorem wpl_stop {P : Program} {ops : Array Oper} {Q : Exit → Act → World → Prop} {l : List Oper} {a : Act} {w : World} (h : Hid (wpList P ops Q l a w)) : wpList P ops Q l a w := h.out
theorem size28' (q : L4) : (Try.prog.info? 28).map (·.size) = some q.arr.size := by
  have h : (Try.prog.info? 28).map (·.size) = some 12 := by kernel_rfl
  exact h
theorem own_there {W : World} {base G n cap : Nat} {l : List Value} (ho : W.ownsRow base 28 12 (.slice (some ⟨G, 0, none⟩) n cap) n l) {k : Nat} (hk : k < n) : W.there G (k * 12) 12 := by
  rcases ho.2 with ⟨h, _⟩ | ⟨g, cap', cur, hv, _, hg, hc, _, hs, _⟩
  · cases h
  · cases hv
    intro j hj
    have hlt : k * 12 + j < cur.size := by omega
    exact ⟨by simp [World.cell?, hg, hlt], by simp [World.frozen?, hg]⟩
theorem many_set {W : World} {base G n cap : Nat} {xs : List L4} (ho : W.ownsRow base 28 12 (.slice (some ⟨G, 0, none⟩) n cap) n (GR.flat L4.cells xs)) (hn : n = xs.length) {k : Nat} (hk : k < n) (q : L4) :
    GR.Many L4.cells 12 (W.setCells G (k * 12) q.arr.toList) (some ⟨G, 0, none⟩) (xs.set k q) := fun j hj => by
  rw [List.length_set] at hj
  obtain ⟨A, cp, hv, _, hm, _⟩ := GR.own_many L4.len ho hn
  have hA : A = some ⟨G, 0, none⟩ := by injection hv with h1 h2 h3; exact h1.symm
  subst hA
  obtain ⟨x, b, off, hx, hA, hat, hlt⟩ := hm.get j hj
  cases hA
  have hth := own_there ho hk
  have hsz : G < (W.setCells G (k * 12) q.arr.toList).heap.size := by
    have h := World.rangeAt_setCells_same W G (k * 12) q.arr.toList hth 0 _ (rfl : q.arr.toList[0]? = some (.int .i64 q.a0))
    exact World.block_lt_of_cell? _ _ h
  refine ⟨G, 0, rfl, ?_, hsz⟩
  rw [Nat.zero_add]
  rw [Nat.zero_add] at hat
  by_cases hjk : j = k
  · subst hjk
    rw [List.getElem?_set_self hj]
    exact World.rangeAt_setCells_same W G (j * 12) q.arr.toList hth
  · rw [List.getElem?_set_ne (fun e => hjk e.symm), hx.out]
    refine World.rangeAt_setCells_apart (show W.rangeAt G (j * 12) x.cells from hat) G (k * 12) q.arr.toList (.inr ?_)
    have h1 : x.cells.length = 12 := rfl
    have h2 : q.arr.toList.length = 12 := rfl
    rw [h1, h2]
    omega
theorem setCells_below {W : World} {G o B : Nat} : ∀ (vs : List Value), B ≤ G → B ≤ W.heap.size → Below B W (W.setCells G o vs) := by
  intro vs
  induction vs generalizing W o with
  | nil => intro _ _; exact Below.refl _ _
  | cons v r ih =>
    intro h1 h2
    have h3 : Below B W (W.setCell ⟨G, o, none⟩ v) := (Below.refl B W).setCell (p := ⟨G, o, none⟩) h1 v
    exact h3.trans (ih h1 (Nat.le_trans h2 h3.size))
set_option maxRecDepth 100000 in
set_option maxHeartbeats 32000000 in
theorem hidden_walk (f : Fr) (at1 : Int) (w : World) (fa : f.Arg w) (fw : f.wf) (hb1 : -9223372036854775808 ≤ at1 ∧ at1 ≤ 9223372036854775807) : Calls Try.prog 7 #[.agg f.arr, .int .i64 at1] w fun e w' => e = .returned (.bool true) ∧ Below w.heap.size w w' := by
  have hb0 : Below w.heap.size w (w.alloc (.cells f.arr 30)) := (Below.refl _ _).alloc (Nat.le_refl _) _
  have HA0 := Lib.hid (heap_alloc_new w (.cells f.arr 30))
  have HB0 := Lib.hid hb0
  have Hroom := Lib.hid fa.room
  have HI := Lib.hid (cutF_in fa)
  have Hwf := Lib.hid (cutF_wf fw)
  obtain ⟨c, hc⟩ : ∃ c, cutF f = c := ⟨_, rfl⟩
  have HRC : Hid (c.R = f.R ∧ c.C = f.C) := Lib.hid (by rw [← hc]; exact ⟨rfl, rfl⟩)
  rw [hc] at HI Hwf
  have H11 := Lib.hid (fun W => c11 f W Hroom.out)
  rw [hc] at H11
  clear hb0 fa fw hc
  go_enter Try.func7, Try.ntmps7
  go_wp2_with (fail)
  refine (c10 _).mono ?_
  rintro e w1 ⟨rfl, hb⟩
  have HA1 := Lib.hid ((hb.block _ (Array.getElem?_eq_some_iff.1 HA0.out).1).trans HA0.out)
  have HB1 := Lib.hid (HB0.out.trans (hb.mono HB0.out.size))
  clear hb HA0 HB0
  go_wp2_with (refine at_dst 15 rfl ?_; refine wpList_load (cs := f.arr) _ rfl rfl rfl HA1.out Try.underlying30 rfl (size30 f) ?_)
  refine (H11.out _).mono ?_
  rintro e w2 ⟨rfl, hb⟩
  have HA2 := Lib.hid ((hb.block _ (Array.getElem?_eq_some_iff.1 HA1.out).1).trans HA1.out)
  have HB2 := Lib.hid (HB1.out.trans (hb.mono HB1.out.size))
  obtain ⟨w3, hw3⟩ : ∃ w3, w2.setRow w.heap.size c.arr = w3 := ⟨_, rfl⟩
  have hA3 : w3.heap[w.heap.size]? = some (.cells c.arr 30 (0, 0)) := by rw [← hw3]; exact setRow_heap _ _ _ _ _ _ HA2.out
  have hB3 : Below w.heap.size w w3 := by rw [← hw3]; exact HB2.out.trans (CT.below_setRow HB2.out.size (Nat.le_refl _))
  have HW3 := Lib.hid hw3
  have HA3 := Lib.hid hA3
  have HB3 := Lib.hid hB3
  clear hb HA1 HB1 hw3 hA3 hB3
  obtain ⟨rc, hrc⟩ : ∃ b, (decide (f.R ≤ 8) && decide (f.C ≤ 8)) = b := ⟨_, rfl⟩
  rw [hrc]
  have HR := Lib.hid hrc
  clear hrc
  cases rc with
  | false =>
    go_wp2_with (refine at_store 30 rfl ?_; refine wpList_store (B := w.heap.size) (old := f.arr) (cs := c.arr) rfl rfl rfl rfl HA2.out (size30 _) rfl (fr_one _) ?_; rw [HW3.out])
    go_ret
    exact ⟨rfl, HB3.out⟩
  | true =>
    have HRC8 : Hid (c.R ≤ 8 ∧ c.C ≤ 8) := Lib.hid (by have h := HR.out; simp at h; rw [HRC.out.1, HRC.out.2]; exact h)
    have p2 : w3.cell? ⟨w.heap.size, 2, none⟩ = some (Value.slice c.pa c.pl.length c.pc) := cell_of (j := 2) HA3.out rfl
    have p3 : w3.cell? ⟨w.heap.size, 3, none⟩ = some (Value.slice c.ca c.cl.length c.cc) := cell_of (j := 3) HA3.out rfl
    by_cases g1 : at1 < 0
    · have t1 : decide (at1 < 0) = true := decide_eq_true g1
      clear g1
      go_wp2_with (refine at_store 30 rfl ?_; refine wpList_store (B := w.heap.size) (old := f.arr) (cs := c.arr) rfl rfl rfl rfl HA2.out (size30 _) rfl (fr_one _) ?_; rw [HW3.out])
      go_ret
      exact ⟨rfl, HB3.out⟩
    have t1 : decide (at1 < 0) = false := decide_eq_false g1
    by_cases g2 : (c.pl.length : Int) ≤ at1
    · have t2 : decide ((c.pl.length : Int) ≤ at1) = true := decide_eq_true g2
      clear g1 g2
      go_wp2_with (refine at_store 30 rfl ?_; refine wpList_store (B := w.heap.size) (old := f.arr) (cs := c.arr) rfl rfl rfl rfl HA2.out (size30 _) rfl (fr_one _) ?_; rw [HW3.out])
      go_ret
      exact ⟨rfl, HB3.out⟩
    have t2 : decide ((c.pl.length : Int) ≤ at1) = false := decide_eq_false g2
    by_cases g3 : c.cl.length = c.pl.length
    case neg =>
      have t3 : ((c.cl.length : Int) == (c.pl.length : Int)) = false := by rw [beq_eq_false_iff_ne]; omega
      clear g1 g2 g3
      go_wp2_with (refine at_store 30 rfl ?_; refine wpList_store (B := w.heap.size) (old := f.arr) (cs := c.arr) rfl rfl rfl rfl HA2.out (size30 _) rfl (fr_one _) ?_; rw [HW3.out])
      go_ret
      exact ⟨rfl, HB3.out⟩
    obtain ⟨k, rfl⟩ := Int.eq_ofNat_of_zero_le (Int.not_lt.1 g1)
    obtain ⟨NP, hNP⟩ : ∃ n, c.pl.length = n := ⟨_, rfl⟩
    have hk : k < NP := by omega
    have t4 : decide (NP ≤ k) = false := decide_eq_false (by omega)
    rw [hNP] at p2 g3 t2
    rw [g3] at p3
    have HK := Lib.hid hk
    have HL := Lib.hid g3
    have HP := Lib.hid hNP
    have HN10 : Hid (NP ≤ 10) := Lib.hid (by have := HI.out.len.1; omega)
    obtain ⟨x0, bc, oc, hx0, hca, _, _⟩ := HI.out.c.get 0 (by omega)
    rw [hca] at p3
    have HM := HI.out.c
    rw [hca] at HM
    have HM3 := Lib.hid (HM.below (HB3.out))
    obtain ⟨L, hL⟩ : ∃ n, w3.heap.size = n := ⟨_, rfl⟩
    obtain ⟨w4, hw4⟩ : ∃ W, w3.alloc (.cells #[.int .i64 1, .int .i64 0, .int .u32 0] 27) = W := ⟨_, rfl⟩
    have HW4 := Lib.hid hw4
    have HLS := Lib.hid hL
    have HLL : Hid (w4.heap[L]? = some (.cells #[.int .i64 1, .int .i64 0, .int .u32 0] 27 (0, 0))) := Lib.hid (by rw [← hw4, ← hL]; exact heap_alloc_new _ _)
    have hb34 : Below w3.heap.size w3 w4 := by rw [← hw4]; exact (Below.refl _ _).alloc (Nat.le_refl _) _
    have HLT : Hid (w.heap.size < L ∧ L < w4.heap.size) := Lib.hid ⟨by rw [← hL]; exact (Array.getElem?_eq_some_iff.1 HA3.out).1, (Array.getElem?_eq_some_iff.1 HLL.out).1⟩
    have HA4 := Lib.hid ((hb34.block _ (Array.getElem?_eq_some_iff.1 HA3.out).1).trans HA3.out)
    have HB4 := Lib.hid (HB3.out.trans (hb34.mono HB3.out.size))
    have P3 : Hid (w4.cell? ⟨w.heap.size, 3, none⟩ = some (Value.slice (some ⟨bc, oc, none⟩) NP c.cc)) := Lib.hid (cell_of (j := 3) HA4.out (by show some (Value.slice c.ca c.cl.length c.cc) = _; rw [hca, g3]))
    have HM := Lib.hid (HM3.out.below hb34)
    clear g1 g2 g3 hk hNP hx0 hca HM3 hL hw4 hb34
    go_wp2_with (refine at_store 30 rfl ?_; refine wpList_store (B := w.heap.size) (old := f.arr) (cs := c.arr) rfl rfl rfl rfl HA2.out (size30 _) rfl (fr_one _) ?_; rw [HW3.out])
    clear t1 t2 t4 p2 p3 HA3 HB3 HA2 HB2 HW3
    rw [HW4.out, HLS.out]
    clear HW4 HLS
    obtain ⟨I, hI0⟩ : ∃ I : OrdX.Off, I.row = none := ⟨⟨_⟩, rfl⟩
    have HIn : Hid (∀ b : Nat, some b ≠ OrdX.Off.row) := Lib.hid fun b e => by rw [hI0] at e; cases e
    clear hI0
    refine OrdX.wp_region_ordN 3 [(1, true), (2, true), (0, false), (3, false), (4, false)] (by kernel_rfl) (by kernel_rfl) ?_
    intro Wc hWc
    apply OrdX.OrdAt.op OrdX.on_put rfl rfl rfl
    · intro X hB
      go_simp
      try rfl
    · dsimp only [List.set_cons_zero, List.set_cons_succ]
    apply OrdX.OrdAt.op OrdX.on_put rfl rfl rfl
    · intro X hB
      have s := OrdX.rd (hWc.g.tr hB) (HIn.out w.heap.size) (P3.out)
      go_simp
      try rfl
    · dsimp only [List.set_cons_zero, List.set_cons_succ]
    refine OrdX.OrdAt.seq rfl rfl ?_
    intro X hB
    refine GR.wp_make (e := 28) (size := 12) Try.underlying23 info28 w4.heap.size _ _ 10 rfl rfl rfl (by decide) (by decide) (by decide) (hWc.trans (hB.mono hWc.size)).size ?_
    intro X1 ho hg
    refine ⟨.inr ⟨hg.os, hg.tape, hg.output, hg.size, fun i hi _ => hg.block i hi (by simp)⟩, ?_⟩
    have hx1 : Below w4.heap.size w4 X1 := (hWc.trans (hB.mono hWc.size)).trans (GR.grown_below (GR.own_nil X w4.heap.size 28 12) (by exact hg) (hWc.trans (hB.mono hWc.size)).size)
    have hG : w4.heap.size ≤ X.heap.size := (hWc.trans (hB.mono hWc.size)).size
    clear hg hB hWc
    obtain ⟨G, hGe⟩ : ∃ G, X.heap.size = G := ⟨_, rfl⟩
    rw [hGe] at ho hG ⊢
    simp only [Act.put]
    clear hGe
    refine OrdX.OrdAt.seq rfl rfl ?_
    intro X hB
    have hx2 := hx1.trans (hB.mono hx1.size)
    have ho2 := GR.own_turn ho hB
    clear ho hx1 hB
    refine GR.wp_app_fits L4.len L4.one Try.underlying23 info28 w4.heap.size _ _ 10 rfl G 0 [] rfl ho2 ⟨bc, oc, none⟩ c.cc NP c.cl HL.out rfl ((HM.out.below hx2).flat L4.len) NP (Nat.zero_add _) HN10.out ?_
    intro X3 ho3 hg3
    refine ⟨.inl (Nat.le_refl _), ?_⟩
    have hx3 : Below w4.heap.size w4 X3 := hx2.trans (GR.grown_below ho2 (by exact hg3) hx2.size)
    clear ho2 hx2 hg3
    simp only [Act.put]
    rw [List.nil_append] at ho3
    refine OrdX.OrdAt.seq rfl rfl ?_
    intro X hB
    have hx4 := hx3.trans (hB.mono hx3.size)
    have ho4 := GR.own_turn ho3 hB
    clear ho3 hx3 hB
    go_simp
    refine ⟨.inl (by decide), ?_⟩
    refine OrdX.OrdAt.done ?_
    intro W9 hW9
    refine OrdX.on_normal ?_
    have hx9 : Below w4.heap.size w4 W9 := hx4.trans (hW9.mono hx4.size)
    have ho9 := GR.own_turn ho4 hW9
    clear ho4 hx4 hW9
    have HL9 := Lib.hid ((hx9.block _ HLT.out.2).trans HLL.out)
    have HA9 := Lib.hid ((hx9.block _ (Nat.lt_trans HLT.out.1 HLT.out.2)).trans HA4.out)
    have HO9 := Lib.hid ho9
    have HX9 := Lib.hid hx9
    have HL9c := HL9
    obtain ⟨w10, hw10⟩ : ∃ W, W9.setCells G (k * 12) hid4.arr.toList = W := ⟨_, rfl⟩
    have hx10 : Below w4.heap.size W9 w10 := by rw [← hw10]; exact setCells_below _ hG hx9.size
    have HT := Lib.hid (own_there ho9 HK.out)
    have HM10 : Hid (GR.Many L4.cells 12 w10 (some ⟨G, 0, none⟩) (c.cl.set k hid4)) := Lib.hid (by rw [← hw10]; exact many_set ho9 HL.out.symm HK.out hid4)
    have HA10 := Lib.hid ((hx10.block _ (Nat.lt_trans HLT.out.1 HLT.out.2)).trans HA9.out)
    have HB10 := Lib.hid (HB4.out.trans ((hx9.trans hx10).mono HB4.out.size))
    have HW10 := Lib.hid hw10
    have HG : Hid (w.heap.size ≠ G) := Lib.hid (by have := HLT.out; omega)
    have d1 : k < NP := HK.out
    clear hx9 ho9 hx10 hw10 hG HA9 HO9 HX9 HM
    have dk : decide ((k : Int) < (NP : Int)) = true := decide_eq_true (by omega)
    obtain ⟨w11, hw11⟩ : ∃ W, w10.setCell ⟨w.heap.size, 3, none⟩ (.slice (some ⟨G, 0, none⟩) NP 10) = W := ⟨_, rfl⟩
    obtain ⟨g, hg⟩ : ∃ g : Fr, { c with ca := some ⟨G, 0, none⟩, cl := c.cl.set k hid4, cc := 10 } = g := ⟨_, rfl⟩
    have HGE := Lib.hid hg
    have HB11 : Hid (Below w.heap.size w w11) := Lib.hid (by rw [← hw11]; exact HB10.out.setCell (p := ⟨w.heap.size, 3, none⟩) (Nat.le_refl _) _)
    have HA11 : Hid (g.At w11 w.heap.size) := Lib.hid ⟨by
      rw [← hw11, heap_set_self HA10.out 3, ← hg]
      simp [Fr.arr, HL.out]⟩
    have HM11 : Hid (GR.Many L4.cells 12 w11 (some ⟨G, 0, none⟩) (c.cl.set k hid4)) := Lib.hid (by
      rw [← hw11]
      intro j hj
      obtain ⟨b, off, hA, hat, hlt⟩ := HM10.out j hj
      cases hA
      have e := heap_set_other w10 3 (.slice (some ⟨G, 0, none⟩) NP 10) (fun e => HG.out e.symm : G ≠ w.heap.size)
      exact ⟨G, 0, rfl, hat.same e, by simpa [World.setCell] using hlt⟩)
    have HI11 : Hid (g.In w11) := Lib.hid (by
      have h := HI.out.turn HB11.out
      rw [← hg]
      refine ⟨h.p, HM11.out, h.r, h.g, h.k, h.h, ?_⟩
      have := h.len
      simpa using this)
    have HWF : Hid g.wf := Lib.hid (by
      rw [← hg]
      refine ⟨fun q hq => ?_, Hwf.out.t, Hwf.out.r, Hwf.out.g, Hwf.out.k, Hwf.out.h⟩
      rcases List.mem_or_eq_of_mem_set hq with hq | rfl
      · exact Hwf.out.c q hq
      · exact hid4_wf)
    have y3 : w10.cell? ⟨w.heap.size, 3, none⟩ = some (Value.slice c.ca c.cl.length c.cc) := cell_of (j := 3) HA10.out rfl
    have z3 : w10.frozen? ⟨w.heap.size, 3, none⟩ = false := frozen_of HA10.out
    have HW11 := Lib.hid hw11
    have HGR : Hid (g.R ≤ 8 ∧ g.C ≤ 8) := Lib.hid (by rw [← hg]; exact HRC8.out)
    have HGK : Hid (g.cl[k]?.getD default = hid4 ∧ g.pl.length = NP) := Lib.hid (by
      rw [← hg]
      refine ⟨?_, HP.out⟩
      show ((c.cl.set k hid4)[k]?).getD default = hid4
      rw [List.getElem?_set_self (by rw [HL.out]; exact d1)]
      rfl)
    clear hw11 hg HL9 HA10 HM10 HB10 HG HA4 HB4 HLL
    rename_i K0 hK0 Xa Xb
    refine hK0 _ _ ?_
    clear hK0
    iterate 8 (first | go_values | go_skip | go_guarded | go_step)
    iterate 4 (refine wpList_load (cs := lin1) _ rfl rfl rfl HL9c.out Try.underlying27 rfl size27 ?_)
    refine wpList_run rfl (exec_build4 rfl rfl rfl rfl rfl (build28 _)) ?_
    simp only [Act.put]
    iterate 3 (first | go_values | go_skip | go_guarded | go_step)
    refine wpList_store_mid (b := G) (off := k * 12) (cs := hid4.arr) rfl rfl rfl rfl HT.out (size28' hid4) hid4_one ?_
    rw [HW10.out]
    clear HW10 HL9c HT
    go_wp2_with (first | (refine at_dst 58 rfl ?_; rw [HW11.out]; clear y3 z3; refine wpList_load (cs := g.arr) _ rfl rfl rfl HA11.out.at_ Try.underlying30 rfl (size30 g) ?_))
    refine (c12 g w11 HI11.out HGR.out.1 HGR.out.2 HWF.out).mono ?_
    rintro e w12 ⟨h1, h2, hb⟩
    have HA12 := Lib.hid (HA11.out.turn hb)
    have HI12 := Lib.hid (HI11.out.turn hb)
    have HB12 := Lib.hid (HB11.out.trans (hb.mono HB11.out.size))
    clear hb HW11
    cases hok : okFr g with
    | false =>
      obtain rfl := h2 hok
      clear h1 h2 hok
      go_wp2_with (fail)
      go_ret
      exact ⟨rfl, HB12.out⟩
    | true =>
      obtain ⟨v, rfl, ho⟩ := h1 hok
      have HOK := Lib.hid hok
      clear h1 h2 hok
      obtain ⟨A, cap, rfl, _, hm, _⟩ := GR.own_many Edge.len ho rfl
      have HM12 := Lib.hid hm
      obtain ⟨NE, hNE⟩ : ∃ n, (allE g).length = n := ⟨_, rfl⟩
      have H18 : Hid (Calls Try.prog 18 #[.agg g.arr, .slice A NE cap] w12 fun e w' => (okFr g = true → ∃ v, e = .returned (.tuple #[v, .int .i64 0]) ∧ w'.ownsRow w12.heap.size 52 4 v (insets g (allE g)).length (GR.flat I4.cells (insets g (allE g)))) ∧
        (okFr g = false → e = .returned (.tuple #[.slice none 0 0, .int .i64 120])) ∧ Below w12.heap.size w12 w') := Lib.hid (by
          have h := c18 g A (allE g) cap w12 HI12.out HGR.out.1 HGR.out.2 HM12.out (Nat.le_trans (allE_len2 g HGR.out.2 HGR.out.1) (by decide)) (fun x hx => allE_width hx)
          rw [hNE] at h
          exact h)
      rw [hNE]
      clear ho hm hNE HM12
      go_wp2_with (refine at_dst 66 rfl ?_; refine wpList_load (cs := g.arr) _ rfl rfl rfl HA12.out.at_ Try.underlying30 rfl (size30 g) ?_)
      refine H18.out.mono ?_
      rintro e w13 ⟨h1, -, hb⟩
      obtain ⟨v, rfl, ho⟩ := h1 HOK.out
      have HA13 := HA12.out.turn hb
      have HB13 := Lib.hid (HB12.out.trans (hb.mono HB12.out.size))
      clear h1 hb H18
      have hlen : (insets g (allE g)).length = NP := by unfold insets; rw [List.length_map]; exact HGK.out.2
      obtain ⟨A2, cap2, rfl, _, hm, _, hA2⟩ := GR.own_many I4.len ho rfl
      obtain ⟨x, b, off, hxk, hA, hat, _⟩ := hm.get k (by rw [hlen]; exact d1)
      subst hA
      obtain ⟨rfl, -⟩ := hA2 _ _ _ rfl
      have hn := okFr_num HOK.out
      have hx0 : x = ⟨0, 0, 0, 0⟩ := by
        rw [← hxk.out]
        unfold insets
        have hkl : k < g.pl.length := by rw [HGK.out.2]; exact d1
        rw [List.getElem?_map, List.getElem?_eq_getElem hkl]
        have h := hid_inset hn.2.1 hn.2.2.1 (okZ_okS hn.1) hkl HGK.out.1
        rw [List.getElem?_eq_getElem hkl] at h
        exact h
      subst hx0
      rw [hlen]
      have i0 : w13.cell? ⟨b, k * 4, none⟩ = some (.int .i64 0) := by have h := hat 0 _ rfl; rwa [Nat.zero_add] at h
      have i1 : w13.cell? ⟨b, k * 4 + 1, none⟩ = some (.int .i64 0) := by have h := hat 1 _ rfl; rwa [Nat.zero_add] at h
      have i2 : w13.cell? ⟨b, k * 4 + 2, none⟩ = some (.int .i64 0) := by have h := hat 2 _ rfl; rwa [Nat.zero_add] at h
      have i3 : w13.cell? ⟨b, k * 4 + 3, none⟩ = some (.int .i64 0) := by have h := hat 3 _ rfl; rwa [Nat.zero_add] at h
      have p2 : w13.cell? ⟨w.heap.size, 2, none⟩ = some (Value.slice g.pa NP g.pc) := by have h := HA13.eight.2.2.1; rw [HGK.out.2] at h; exact h
      have E52 := eq52 0 0 0 0 0 0 0 0 w13
      clear hat hxk hm ho hn hlen hA2 HA13
      go_wp2_with (fail)
      refine (CT.c12 1 true w13 (by decide)).mono ?_
      rintro e w14 ⟨rfl, rfl⟩
      rw [show CT.half 1 true = 1 from rfl]
      clear i0 i1 i2 i3 p2 E52
      go_wp2_with (fail)
      go_ret
      exact ⟨rfl, HB13.out⟩
end Go.Proofs.Ytmlcjiabnmdfeaa
