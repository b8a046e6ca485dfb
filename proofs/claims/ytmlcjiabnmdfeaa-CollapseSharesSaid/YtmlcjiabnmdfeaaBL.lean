/- The walk of CollapseShares. -/
import Derived.Test.YtmlcjiabnmdfeaaBK
import Derived.Test.YtmlcjiabnmdfeaaBI
import Derived.Test.YtmlcjiabnmdfeaaOrd
namespace Go.Proofs.Ytmlcjiabnmdfeaa
open Go Go.RowKit Go.Shelf CT Ords
set_option linter.unusedVariables false

theorem build30s (A B : Option Addr) (t : L4) (W : World) : (Instr.build 30 #[(0, .int .i64 1), (1, .int .i64 2), (2, .slice A 2 2), (3, .slice B 2 2), (8, .agg t.arr)]).run Try.prog W =
    .ok (.agg #[.int .i64 1, .int .i64 2, .slice A 2 2, .slice B 2 2, .slice none 0 0, .slice none 0 0, .slice none 0 0, .slice none 0 0, .int .i64 t.a0, .int .i64 t.a1, .int .u32 t.a2, .int .i64 t.b0, .int .i64 t.b1, .int .u32 t.b2, .int .i64 t.c0, .int .i64 t.c1, .int .u32 t.c2, .int .i64 t.d0, .int .i64 t.d1, .int .u32 t.d2]) W := by
  kernel_rfl
theorem exec_bslice2 {P : Program} {o : Oper} {w w' : World} {ρ : Operand → Value} {t n i0 i1 : Nat} {x0 x1 : Operand} {v0 v1 v : Value} (ho : o.op = .buildSlice t n #[(i0, x0), (i1, x1)]) (h0 : ρ x0 = v0) (h1 : ρ x1 = v1)
    (hb : (Instr.buildSlice t n #[(i0, v0), (i1, v1)]).run P w = .ok v w') : (execOp ρ o).run P w = .ok (.value v) w' := by
  subst h0 h1
  unfold execOp
  simp only [ho, List.map_toArray, List.map_cons, List.map_nil, Sem.run_bind, Sem.run_pure, Result.andThen_ok, hb]
def two4 (a b : L4) : Array Value := #[.int .i64 a.a0, .int .i64 a.a1, .int .u32 a.a2, .int .i64 a.b0, .int .i64 a.b1, .int .u32 a.b2, .int .i64 a.c0, .int .i64 a.c1, .int .u32 a.c2, .int .i64 a.d0, .int .i64 a.d1, .int .u32 a.d2, .int .i64 b.a0, .int .i64 b.a1, .int .u32 b.a2, .int .i64 b.b0, .int .i64 b.b1, .int .u32 b.b2, .int .i64 b.c0, .int .i64 b.c1, .int .u32 b.c2, .int .i64 b.d0, .int .i64 b.d1, .int .u32 b.d2]
theorem bs23' (a b : L4) (W : World) : (Instr.buildSlice 23 2 #[(0, .agg a.arr), (1, .agg b.arr)]).run Try.prog W = .ok (.slice (some ⟨W.heap.size, 0, none⟩) 2 2) (W.alloc (.cells (two4 a b) 28)) := by
  kernel_rfl
theorem bs23 (a b : L4) {W : World} {n : Nat} (h : W.heap.size = n) : (Instr.buildSlice 23 2 #[(0, .agg a.arr), (1, .agg b.arr)]).run Try.prog W = .ok (.slice (some ⟨n, 0, none⟩) 2 2) (W.alloc (.cells (two4 a b) 28)) := by
  subst h
  exact bs23' a b W
def twoP : Array Value := #[.int .i64 0, .int .i64 0, .int .i64 0, .int .i64 1, .int .i64 1, .int .i64 0, .int .i64 0, .int .i64 1, .int .i64 1, .int .i64 1]
theorem bs22 (W : World) : (Instr.buildSlice 22 2 #[(0, .agg #[.int .i64 0, .int .i64 0, .int .i64 0, .int .i64 1, .int .i64 1]), (1, .agg #[.int .i64 0, .int .i64 0, .int .i64 1, .int .i64 1, .int .i64 1])]).run Try.prog W = .ok (.slice (some ⟨W.heap.size, 0, none⟩) 2 2) (W.alloc (.cells twoP 43)) := by
  kernel_rfl
theorem many_of_cells {α : Type} [Inhabited α] {enc : α → List Value} {k : Nat} (hk : ∀ x, (enc x).length = k) {W : World} {b : Nat} {cs : Array Value} {t : TypeId} {fr : Nat × Nat} {l : List α} (h : W.heap[b]? = some (.cells cs t fr)) (hc : cs.toList = GR.flat enc l) : GR.Many enc k W (some ⟨b, 0, none⟩) l :=
  GR.many_of_flat hk (Array.getElem?_eq_some_iff.1 h).1 fun j u hj => by
    rw [GR.addr_add', Nat.zero_add]
    refine cell_of h ?_
    rw [← hc] at hj
    rw [← hj, Array.getElem?_toList]
theorem winY_range (L : List CT.Side) : 0 ≤ (winY L).width ∧ (winY L).width ≤ 9223372036854775807 := ⟨winY_low L, winY_width L⟩
theorem share_vals (p q : Nat) (a b t : L4) : ∃ (l : List Edge) (n0 n1 n2 n3 m0 m1 m2 m3 o0 o1 o2 o3 : Int), allE (shareF p q a b t) = l ∧ insets (shareF p q a b t) l = [⟨n0, n1, n2, n3⟩, ⟨m0, m1, m2, m3⟩] ∧ outer4 (shareF p q a b t) l = ⟨o0, o1, o2, o3⟩ ∧ l.length = 7 ∧
    ∀ x ∈ l, (0 ≤ x.width ∧ x.width ≤ 9223372036854775807) ∧ (x.lies = false → (x.col = 1 → n1 + m3 = x.width) ∧ (x.col = 0 → n3 + o3 = x.width) ∧ (x.col = 2 → m1 + o1 = x.width)) := by
  refine ⟨_, _, _, _, _, _, _, _, _, _, _, _, _, rfl, rfl, rfl, by rw [share_all]; rfl, fun x hx => ⟨?_, fun hl => share_law p q a b t x hx hl⟩⟩
  rw [share_all] at hx
  simp only [List.mem_cons, List.not_mem_nil, or_false] at hx
  rcases hx with rfl | rfl | rfl | rfl | rfl | rfl | rfl <;> exact winY_range _
theorem wf4 {q : L4} (h : q.wf) : True := trivial
theorem shareF_wf {p q : Nat} {a b t : L4} (ha : a.wf) (hb : b.wf) (ht : t.wf) : (shareF p q a b t).wf := by
  refine ⟨fun x hx => ?_, ht, fun r hr => (by cases hr), fun r hr => (by cases hr), fun r hr => (by cases hr), fun r hr => (by cases hr)⟩
  have hx : x ∈ [a, b] := hx
  simp only [List.mem_cons, List.not_mem_nil, or_false] at hx
  rcases hx with rfl | rfl
  · exact ha
  · exact hb
/-- what lies where behind the law's framing -/
theorem share_mem (w1 : World) (a b t : L4) : ∃ w2, ((w1.alloc (.cells twoP 43)).alloc (.cells (two4 a b) 28)).alloc (.cells (shareF w1.heap.size (w1.heap.size + 1) a b t).arr 30) = w2 ∧ (shareF w1.heap.size (w1.heap.size + 1) a b t).In w2 ∧ (shareF w1.heap.size (w1.heap.size + 1) a b t).At w2 (w1.heap.size + 1 + 1) ∧ Below w1.heap.size w1 w2 := by
  have s1 : (w1.alloc (.cells twoP 43)).heap.size = w1.heap.size + 1 := alloc_size rfl _
  have s2 : ((w1.alloc (.cells twoP 43)).alloc (.cells (two4 a b) 28)).heap.size = w1.heap.size + 1 + 1 := alloc_size s1 _
  refine ⟨_, rfl, ?_, ⟨alloc_here s2 _ _⟩, ((Below.refl _ _).alloc (Nat.le_refl _) _ |>.alloc (by rw [s1]; omega) _).alloc (by rw [s2]; omega) _⟩
  have hp := alloc_keep s2 (alloc_keep s1 (alloc_here (W := w1) rfl twoP 43) (.cells (two4 a b) 28)) (.cells (shareF w1.heap.size (w1.heap.size + 1) a b t).arr 30)
  have hq := alloc_keep s2 (alloc_here s1 (two4 a b) 28) (.cells (shareF w1.heap.size (w1.heap.size + 1) a b t).arr 30)
  exact ⟨many_of_cells Place.len hp rfl, many_of_cells L4.len hq rfl, GR.Many.nil _ _, GR.Many.nil _ _, GR.Many.nil _ _, GR.Many.nil _ _, by simp [shareF]⟩
theorem wpList_load_ifs {P : Program} {ops : Array Oper} {Q : Exit → Act → World → Prop} {o : Oper} {rest : List Oper} {a : Act} {w : World} {x : Operand} {ty t B : Nat} {cs : Array Value} {fr : Nat × Nat} (d : TypeDesc) (hgd : Region.wanted o (yielded ops a.tmps) = true) (ho : o.op = .load ty x) (hx : a.eval x = .pointer (some ⟨B, 0, none⟩)) (hg : w.heap[B]? = some (.cells cs t fr))
    (hu : P.underlying ty = some d) (hd : (match d with | .struct _ | .array _ _ => true | _ => false) = true) (hi : (P.info? ty).map (·.size) = some cs.size)
    (h : wpList P ops Q rest (a.put o.dst (.agg cs)) w) : wpList P ops Q (o :: rest) a w :=
  wpList_step fun K hK => by
    simp only [hgd, if_true]
    unfold Oper.wp
    rw [exec_load d ho hx hg hu hd hi]
    exact hK _ _ h
theorem alloc_setRows {W : World} {n : Nat} (h : W.heap.size = n) (o : Array Value) (c : Array Value) (t : TypeId) : (W.alloc (.cells o t)).setRow n c = W.alloc (.cells c t) := by
  rw [← h]; exact World.setRow_alloc_new ..

theorem size28c (q : L4) : (Try.prog.info? 28).map (·.size) = some q.arr.size := size28' q
set_option maxRecDepth 100000 in
set_option maxHeartbeats 16000000 in
theorem shares_walk (a b t : L4) (w : World) (ha : a.wf) (hb : b.wf) (ht : t.wf) : Calls Try.prog 9 #[.agg a.arr, .agg b.arr, .agg t.arr] w fun e w' => e = .returned (.bool true) ∧ Below w.heap.size w w' := by
  obtain ⟨w0, hw0⟩ : ∃ w0, ((w.alloc (.cells a.arr 28)).alloc (.cells b.arr 28)).alloc (.cells t.arr 28) = w0 := ⟨_, rfl⟩
  have s1 : (w.alloc (.cells a.arr 28)).heap.size = w.heap.size + 1 := alloc_size rfl _
  have s2 : ((w.alloc (.cells a.arr 28)).alloc (.cells b.arr 28)).heap.size = w.heap.size + 1 + 1 := alloc_size s1 _
  have HA : Hid (w0.heap[w.heap.size]? = some (.cells a.arr 28 (0, 0))) := Lib.hid (by rw [← hw0]; exact alloc_keep s2 (alloc_keep s1 (alloc_here rfl _ _) _) _)
  have HBb : Hid (w0.heap[w.heap.size + 1]? = some (.cells b.arr 28 (0, 0))) := Lib.hid (by rw [← hw0]; exact alloc_keep s2 (alloc_here s1 _ _) _)
  have HT : Hid (w0.heap[w.heap.size + 1 + 1]? = some (.cells t.arr 28 (0, 0))) := Lib.hid (by rw [← hw0]; exact alloc_here s2 _ _)
  have HB0 : Hid (Below w.heap.size w w0) := Lib.hid (by rw [← hw0]; exact (((Below.refl _ _).alloc (Nat.le_refl _) _).alloc (by rw [s1]; omega) _).alloc (by rw [s2]; omega) _)
  have HW0 := Lib.hid hw0
  have Hwf : Hid (a.wf ∧ b.wf ∧ t.wf) := Lib.hid ⟨ha, hb, ht⟩
  clear hw0 s1 s2 ha hb ht
  go_enter Try.func9, Try.ntmps9
  go_wp2_with (fail)
  rw [HW0.out]
  refine (c10 _).mono ?_
  rintro e w1 ⟨rfl, hb⟩
  have HA1 := Lib.hid ((hb.block _ (Array.getElem?_eq_some_iff.1 HA.out).1).trans HA.out)
  have HBb1 := Lib.hid ((hb.block _ (Array.getElem?_eq_some_iff.1 HBb.out).1).trans HBb.out)
  have HT1 := Lib.hid ((hb.block _ (Array.getElem?_eq_some_iff.1 HT.out).1).trans HT.out)
  have HB1 := Lib.hid (HB0.out.trans (hb.mono HB0.out.size))
  obtain ⟨w2, hw2, hI, hAt, hb2⟩ := share_mem w1 a b t
  have HBb2 : Hid ((w1.alloc (.cells twoP 43)).heap[w.heap.size + 1]? = some (.cells b.arr 28 (0, 0))) := Lib.hid ((Below.heap_alloc _ _ _ (Array.getElem?_eq_some_iff.1 HBb1.out).1).trans HBb1.out)
  have HA2 : Hid ((w1.alloc (.cells twoP 43)).heap[w.heap.size]? = some (.cells a.arr 28 (0, 0))) := Lib.hid ((Below.heap_alloc _ _ _ (Array.getElem?_eq_some_iff.1 HA1.out).1).trans HA1.out)
  have HT2 : Hid (((w1.alloc (.cells twoP 43)).alloc (.cells (two4 a b) 28)).heap[w.heap.size + 1 + 1]? = some (.cells t.arr 28 (0, 0))) := Lib.hid (alloc_keep (alloc_size rfl _) (alloc_keep rfl HT1.out _) _)
  have HW2 := Lib.hid hw2
  have HI := Lib.hid hI
  have HF := Lib.hid hAt
  have HB2 := Lib.hid (HB1.out.trans (hb2.mono HB1.out.size))
  clear hw2 hI hAt hb2 hb HA HBb HT HB0 HW0
  have S1 : Hid ((w1.alloc (.cells twoP 43)).heap.size = w1.heap.size + 1) := Lib.hid (alloc_size rfl _)
  have S2 : Hid (((w1.alloc (.cells twoP 43)).alloc (.cells (two4 a b) 28)).heap.size = w1.heap.size + 1 + 1) := Lib.hid (alloc_size S1.out _)
  go_wp2_with (first | (refine at_dst 20 rfl ?_; refine wpList_run rfl (exec_bslice2 rfl rfl rfl (bs22 _)) ?_) | (refine at_dst 21 rfl ?_; refine wpList_load (cs := a.arr) _ rfl rfl rfl HA2.out Try.underlying28 rfl (size28' a) ?_) | (refine at_dst 22 rfl ?_; refine wpList_load (cs := b.arr) _ rfl rfl rfl HBb2.out Try.underlying28 rfl (size28' b) ?_) | (refine at_dst 23 rfl ?_; refine wpList_run rfl (exec_bslice2 rfl rfl rfl (bs23 a b S1.out)) ?_) | (refine at_dst 24 rfl ?_; refine wpList_load (cs := t.arr) _ rfl rfl rfl HT2.out Try.underlying28 rfl (size28' t) ?_) | (refine at_dst 25 rfl ?_; refine wpList_run rfl (exec_build5 rfl rfl rfl rfl rfl rfl (build30s _ _ t _)) ?_) | (refine at_store 30 rfl ?_; refine wpList_store (B := w1.heap.size + 1 + 1) (old := zeroF.arr) (cs := (shareF w1.heap.size (w1.heap.size + 1) a b t).arr) rfl rfl rfl rfl (alloc_here S2.out _ _) (size30 _) rfl (fr_one _) ?_; rw [alloc_setRows S2.out, HW2.out]) | (refine at_dst 27 rfl ?_; refine wpList_load (cs := (shareF w1.heap.size (w1.heap.size + 1) a b t).arr) _ rfl rfl rfl HF.out.at_ Try.underlying30 rfl (size30 _) ?_))
  refine (c12 (shareF w1.heap.size (w1.heap.size + 1) a b t) w2 HI.out (by decide : (1 : Int) ≤ 8) (by decide : (2 : Int) ≤ 8) (shareF_wf Hwf.out.1 Hwf.out.2.1 Hwf.out.2.2)).mono ?_
  rintro e w3 ⟨h1, h2, hb⟩
  have HI3 := Lib.hid (HI.out.turn hb)
  have HF3 := Lib.hid (HF.out.turn hb)
  have HB3 := Lib.hid (HB2.out.trans (hb.mono HB2.out.size))
  clear hb HA1 HBb1 HT1 HA2 HBb2 HT2 HB1 HW2 HI HF HB2 S1 S2
  cases hok : okFr (shareF w1.heap.size (w1.heap.size + 1) a b t) with
  | false =>
    obtain rfl := h2 hok
    have HOK := Lib.hid hok
    clear h1 h2 hok
    have H14 := Lib.hid (c14 (shareF w1.heap.size (w1.heap.size + 1) a b t) w3 HI3.out (by decide : (1 : Int) ≤ 8) (by decide : (2 : Int) ≤ 8))
    go_wp2_with (refine at_dst 35 rfl ?_; refine wpList_load_ifs (cs := (shareF w1.heap.size (w1.heap.size + 1) a b t).arr) _ rfl rfl rfl HF3.out.at_ Try.underlying30 rfl (size30 _) ?_)
    refine H14.out.mono ?_
    rintro e w4 ⟨rfl, hb⟩
    have HB4 := Lib.hid (HB3.out.trans (hb.mono HB3.out.size))
    rw [HOK.out]
    clear hb
    go_wp2_with (fail)
    go_ret
    exact ⟨rfl, HB4.out⟩
  | true =>
    obtain ⟨v, rfl, ho⟩ := h1 hok
    have HOK := Lib.hid hok
    clear h1 h2 hok
    obtain ⟨l, n0, n1, n2, n3, m0, m1, m2, m3, o0, o1, o2, o3, hl, hin, hout, hlen, hxs⟩ := share_vals w1.heap.size (w1.heap.size + 1) a b t
    rw [hl] at ho
    obtain ⟨bE, cap, rfl⟩ := own_some ho (by rw [hlen]; decide)
    obtain ⟨A, cap', hv, -, hm, -⟩ := GR.own_many Edge.len ho rfl
    have hA : A = some ⟨bE, 0, none⟩ := by injection hv with h1 h2 h3; exact h1.symm
    subst hA
    have HM := Lib.hid hm
    have HX := Lib.hid hxs
    have HL := Lib.hid hlen
    have hw : ∀ x ∈ l, x.width ≤ 9223372036854775807 := fun x hx => (hxs x hx).1.2
    have h18 := fun W (hI : (shareF w1.heap.size (w1.heap.size + 1) a b t).In W) (hE : GR.Many Edge.cells 10 W (some ⟨bE, 0, none⟩) l) => c18 (shareF w1.heap.size (w1.heap.size + 1) a b t) (some ⟨bE, 0, none⟩) l cap W hI (by decide : (1 : Int) ≤ 8) (by decide : (2 : Int) ≤ 8) hE (by rw [hlen]; decide) hw
    have h20 := fun W (hI : (shareF w1.heap.size (w1.heap.size + 1) a b t).In W) (hE : GR.Many Edge.cells 10 W (some ⟨bE, 0, none⟩) l) => c20 (shareF w1.heap.size (w1.heap.size + 1) a b t) (some ⟨bE, 0, none⟩) l cap W hI (by decide : (1 : Int) ≤ 8) (by decide : (2 : Int) ≤ 8) hE (by rw [hlen]; decide) hw
    rw [hlen, hin] at h18
    rw [hlen, hout] at h20
    have H18 := Lib.hid (h18 w3 HI3.out HM.out)
    have H20 := Lib.hid h20
    rw [hlen]
    clear hl hin hout hlen hxs hw h18 h20 hm hv ho
    go_wp2_with (refine at_dst 40 rfl ?_; refine wpList_load (cs := (shareF w1.heap.size (w1.heap.size + 1) a b t).arr) _ rfl rfl rfl HF3.out.at_ Try.underlying30 rfl (size30 _) ?_)
    refine H18.out.mono ?_
    rintro e w4 ⟨h1, -, hb⟩
    obtain ⟨v2, rfl, ho⟩ := h1 HOK.out
    have HI4 := Lib.hid (HI3.out.turn hb)
    have HF4 := Lib.hid (HF3.out.turn hb)
    have HM4 := Lib.hid (HM.out.below hb)
    have HB4 := Lib.hid (HB3.out.trans (hb.mono HB3.out.size))
    obtain ⟨bI, cI, rfl⟩ := own_some ho (Nat.succ_ne_zero _)
    obtain ⟨A, cap', hv, -, hm, -⟩ := GR.own_many I4.len ho rfl
    have hA : A = some ⟨bI, 0, none⟩ := by injection hv with h1 h2 h3; exact h1.symm
    subst hA
    have HN4 := Lib.hid hm
    rw [show ([⟨n0, n1, n2, n3⟩, ⟨m0, m1, m2, m3⟩] : List I4).length = 2 from rfl]
    clear h1 hb H18 hm hv ho HI3 HF3 HM HB3
    go_wp2_with (refine at_dst 46 rfl ?_; refine wpList_load (cs := (shareF w1.heap.size (w1.heap.size + 1) a b t).arr) _ rfl rfl rfl HF4.out.at_ Try.underlying30 rfl (size30 _) ?_)
    refine (H20.out w4 HI4.out HM4.out).mono ?_
    rintro e w5 ⟨h1, -, hb⟩
    obtain rfl := h1 HOK.out
    obtain ⟨w6, hw6⟩ : ∃ w6, w5.alloc (.cells #[.int .i64 o0, .int .i64 o1, .int .i64 o2, .int .i64 o3] 52) = w6 := ⟨_, rfl⟩
    have hb6 : Below w5.heap.size w5 w6 := by rw [← hw6]; exact (Below.refl _ _).alloc (Nat.le_refl _) _
    have HO6 : Hid (w6.heap[w5.heap.size]? = some (.cells #[.int .i64 o0, .int .i64 o1, .int .i64 o2, .int .i64 o3] 52 (0, 0))) := Lib.hid (by rw [← hw6]; exact heap_alloc_new _ _)
    have HM6 := Lib.hid ((HM4.out.below hb).below hb6)
    have HN6 := Lib.hid ((HN4.out.below hb).below hb6)
    have HB6 := Lib.hid ((HB4.out.trans (hb.mono HB4.out.size)).trans (hb6.mono (Nat.le_trans HB4.out.size hb.size)))
    have HW6 := Lib.hid hw6
    clear h1 hb H20 hb6 hw6 HI4 HF4 HM4 HB4 HN4
    unfold I4.arr
    dsimp only
    go_wp2_with (fail)
    rw [HW6.out]
    clear HW6
    go_loopw [15] (fun a wr => ∃ i : Nat, i ≤ 7 ∧ a = .int .i64 i ∧ Hid (Below w6.heap.size w6 wr)) (fun a _ => 7 - (intOf a).toNat)
    case atStart => exact ⟨0, by omega, rfl, Lib.hid (Below.refl _ _)⟩
    case round =>
      obtain ⟨i, hi, rfl, HBi⟩ := hrel
      by_cases hlt : i < 7
      · have ti : decide ((i : Int) < 7) = true := decide_eq_true (by omega)
        have ui : (i : Int) < 7 := by omega
        obtain ⟨x, bb, off, hxk, hA, hat, _⟩ := (HM6.out.below HBi.out).get i (by rw [HL.out]; exact hlt)
        cases hA
        have hmem : x ∈ l := by
          have hlt' : i < l.length := by rw [HL.out]; exact hlt
          have h1 := hxk.out
          rw [List.getElem?_eq_getElem hlt'] at h1
          exact h1 ▸ List.getElem_mem hlt'
        have hx := HX.out x hmem
        obtain ⟨y0, bb, off, hyk, hA, hat0, _⟩ := (HN6.out.below HBi.out).get 0 (Nat.zero_lt_succ _)
        cases hA
        obtain rfl : y0 = ⟨n0, n1, n2, n3⟩ := hyk.out.symm
        obtain ⟨y1, bb, off, hyk, hA, hat1, _⟩ := (HN6.out.below HBi.out).get 1 (Nat.lt_succ_self _)
        cases hA
        obtain rfl : y1 = ⟨m0, m1, m2, m3⟩ := hyk.out.symm
        have hO := (HBi.out.block _ (Array.getElem?_eq_some_iff.1 HO6.out).1).trans HO6.out
        have j1 : wr.cell? ⟨bI, 1, none⟩ = some (.int .i64 n1) := hat0 1 _ rfl
        have j3 : wr.cell? ⟨bI, 3, none⟩ = some (.int .i64 n3) := hat0 3 _ rfl
        have j5 : wr.cell? ⟨bI, 5, none⟩ = some (.int .i64 m1) := hat1 1 _ rfl
        have j7 : wr.cell? ⟨bI, 7, none⟩ = some (.int .i64 m3) := hat1 3 _ rfl
        have r1 : wr.cell? ⟨w5.heap.size, 1, none⟩ = some (.int .i64 o1) := cell_of (j := 1) hO rfl
        have r3 : wr.cell? ⟨w5.heap.size, 3, none⟩ = some (.int .i64 o3) := cell_of (j := 3) hO rfl
        obtain ⟨e0, e1, e2, e3, e4, e5, e6, e7, e8, e9⟩ := x
        have g1 : wr.cell? ⟨bE, i * 10 + 1, none⟩ = some (.int .i64 e1) := by have h := hat 1 _ rfl; rwa [Nat.zero_add] at h
        have g2 : wr.cell? ⟨bE, i * 10 + 2, none⟩ = some (.bool e2) := by have h := hat 2 _ rfl; rwa [Nat.zero_add] at h
        have g4 : wr.cell? ⟨bE, i * 10 + 4, none⟩ = some (.int .i64 e4) := by have h := hat 4 _ rfl; rwa [Nat.zero_add] at h
        have f9 : IntKind.i64.wrap ((i : Int) + 1) = (i : Int) + 1 := IntWalk.i64_in _ (by omega)
        dsimp only at hx
        have Hx := Lib.hid hx
        clear hat hat0 hat1 hyk hxk hmem hO hx
        go_wp2_with (fail)
        cases e2 with
        | true =>
          clear Hx
          refine wp_region_ord 81 [(0, true), (1, true), (2, true), (3, true), (4, true), (5, true), (6, true), (7, true), (8, true), (9, true), (10, true), (11, true), (12, true), (13, true), (14, true), (15, true), (16, true), (17, true), (18, true), (19, true), (20, true), (21, true), (22, true), (23, true), (24, true), (25, true), (26, true), (27, true), (28, true), (29, true), (30, true), (31, true), (32, true), (33, true), (34, true), (35, true), (36, true), (37, true), (38, true), (39, true), (40, true), (41, true), (42, true), (43, true), (44, true), (45, true), (46, true), (47, true), (48, true), (49, true), (50, true), (51, true), (52, true), (53, true), (54, true), (55, true), (56, true), (57, true), (58, true), (59, true), (60, true), (61, true), (62, true), (63, true), (64, true), (65, true), (66, true), (67, true), (68, true), (69, true), (70, true), (71, true), (72, true), (73, true), (74, true), (75, true), (76, true), (77, true), (78, true), (79, true), (80, true)] (by kernel_rfl) (by kernel_rfl) ?_
          intro Wc hWc
          iterate 4
            apply OrdAt.op (fun _ _ _ h => h) rfl rfl rfl
            · intro X hB
              go_simp
              try rfl
            · dsimp only [List.set_cons_zero, List.set_cons_succ]
          apply OrdAt.op (fun _ _ _ h => h) rfl rfl rfl
          · intro X hB
            have s := rd (hWc.tr hB) g2
            go_simp
            try rfl
          · dsimp only [List.set_cons_zero, List.set_cons_succ]
          iterate 2
            apply OrdAt.op (fun _ _ _ h => h) rfl rfl rfl
            · intro X hB
              go_simp
              try rfl
            · dsimp only [List.set_cons_zero, List.set_cons_succ]
          apply OrdAt.op_not (fun _ _ _ h => h) rfl rfl rfl
          · dsimp only [List.set_cons_zero, List.set_cons_succ]
          apply OrdAt.op_not (fun _ _ _ h => h) rfl rfl rfl
          · dsimp only [List.set_cons_zero, List.set_cons_succ]
          apply OrdAt.op_not (fun _ _ _ h => h) rfl rfl rfl
          · dsimp only [List.set_cons_zero, List.set_cons_succ]
          apply OrdAt.op_not (fun _ _ _ h => h) rfl rfl rfl
          · dsimp only [List.set_cons_zero, List.set_cons_succ]
          apply OrdAt.op_not (fun _ _ _ h => h) rfl rfl rfl
          · dsimp only [List.set_cons_zero, List.set_cons_succ]
          apply OrdAt.op_not (fun _ _ _ h => h) rfl rfl rfl
          · dsimp only [List.set_cons_zero, List.set_cons_succ]
          iterate 2
            apply OrdAt.op (fun _ _ _ h => h) rfl rfl rfl
            · intro X hB
              go_simp
              try rfl
            · dsimp only [List.set_cons_zero, List.set_cons_succ]
          apply OrdAt.op_not (fun _ _ _ h => h) rfl rfl rfl
          · dsimp only [List.set_cons_zero, List.set_cons_succ]
          apply OrdAt.op_not (fun _ _ _ h => h) rfl rfl rfl
          · dsimp only [List.set_cons_zero, List.set_cons_succ]
          apply OrdAt.op_not (fun _ _ _ h => h) rfl rfl rfl
          · dsimp only [List.set_cons_zero, List.set_cons_succ]
          apply OrdAt.op_not (fun _ _ _ h => h) rfl rfl rfl
          · dsimp only [List.set_cons_zero, List.set_cons_succ]
          apply OrdAt.op_not (fun _ _ _ h => h) rfl rfl rfl
          · dsimp only [List.set_cons_zero, List.set_cons_succ]
          apply OrdAt.op_not (fun _ _ _ h => h) rfl rfl rfl
          · dsimp only [List.set_cons_zero, List.set_cons_succ]
          apply OrdAt.op_not (fun _ _ _ h => h) rfl rfl rfl
          · dsimp only [List.set_cons_zero, List.set_cons_succ]
          apply OrdAt.op_not (fun _ _ _ h => h) rfl rfl rfl
          · dsimp only [List.set_cons_zero, List.set_cons_succ]
          apply OrdAt.op_not (fun _ _ _ h => h) rfl rfl rfl
          · dsimp only [List.set_cons_zero, List.set_cons_succ]
          apply OrdAt.op_not (fun _ _ _ h => h) rfl rfl rfl
          · dsimp only [List.set_cons_zero, List.set_cons_succ]
          apply OrdAt.op_not (fun _ _ _ h => h) rfl rfl rfl
          · dsimp only [List.set_cons_zero, List.set_cons_succ]
          iterate 2
            apply OrdAt.op (fun _ _ _ h => h) rfl rfl rfl
            · intro X hB
              go_simp
              try rfl
            · dsimp only [List.set_cons_zero, List.set_cons_succ]
          iterate 4
            apply OrdAt.op_if (fun _ _ _ h => h) rfl rfl rfl
            · intro X hB
              go_simp
              try rfl
            · dsimp only [List.set_cons_zero, List.set_cons_succ]
          apply OrdAt.op_if (fun _ _ _ h => h) rfl rfl rfl
          · intro X hB
            have s := rd (hWc.tr hB) g2
            go_simp
            try rfl
          · dsimp only [List.set_cons_zero, List.set_cons_succ]
          iterate 2
            apply OrdAt.op_if (fun _ _ _ h => h) rfl rfl rfl
            · intro X hB
              go_simp
              try rfl
            · dsimp only [List.set_cons_zero, List.set_cons_succ]
          apply OrdAt.op_not (fun _ _ _ h => h) rfl rfl rfl
          · dsimp only [List.set_cons_zero, List.set_cons_succ]
          apply OrdAt.op_not (fun _ _ _ h => h) rfl rfl rfl
          · dsimp only [List.set_cons_zero, List.set_cons_succ]
          apply OrdAt.op_not (fun _ _ _ h => h) rfl rfl rfl
          · dsimp only [List.set_cons_zero, List.set_cons_succ]
          apply OrdAt.op_not (fun _ _ _ h => h) rfl rfl rfl
          · dsimp only [List.set_cons_zero, List.set_cons_succ]
          apply OrdAt.op_not (fun _ _ _ h => h) rfl rfl rfl
          · dsimp only [List.set_cons_zero, List.set_cons_succ]
          apply OrdAt.op_not (fun _ _ _ h => h) rfl rfl rfl
          · dsimp only [List.set_cons_zero, List.set_cons_succ]
          iterate 2
            apply OrdAt.op_if (fun _ _ _ h => h) rfl rfl rfl
            · intro X hB
              go_simp
              try rfl
            · dsimp only [List.set_cons_zero, List.set_cons_succ]
          apply OrdAt.op_not (fun _ _ _ h => h) rfl rfl rfl
          · dsimp only [List.set_cons_zero, List.set_cons_succ]
          apply OrdAt.op_not (fun _ _ _ h => h) rfl rfl rfl
          · dsimp only [List.set_cons_zero, List.set_cons_succ]
          apply OrdAt.op_not (fun _ _ _ h => h) rfl rfl rfl
          · dsimp only [List.set_cons_zero, List.set_cons_succ]
          apply OrdAt.op_not (fun _ _ _ h => h) rfl rfl rfl
          · dsimp only [List.set_cons_zero, List.set_cons_succ]
          apply OrdAt.op_not (fun _ _ _ h => h) rfl rfl rfl
          · dsimp only [List.set_cons_zero, List.set_cons_succ]
          apply OrdAt.op_not (fun _ _ _ h => h) rfl rfl rfl
          · dsimp only [List.set_cons_zero, List.set_cons_succ]
          apply OrdAt.op_not (fun _ _ _ h => h) rfl rfl rfl
          · dsimp only [List.set_cons_zero, List.set_cons_succ]
          apply OrdAt.op_not (fun _ _ _ h => h) rfl rfl rfl
          · dsimp only [List.set_cons_zero, List.set_cons_succ]
          apply OrdAt.op_not (fun _ _ _ h => h) rfl rfl rfl
          · dsimp only [List.set_cons_zero, List.set_cons_succ]
          apply OrdAt.op_if (fun _ _ _ h => h) rfl rfl rfl
          · intro X hB
            go_simp
            try rfl
          · dsimp only [List.set_cons_zero, List.set_cons_succ]
          iterate 2
            apply OrdAt.op (fun _ _ _ h => h) rfl rfl rfl
            · intro X hB
              go_simp
              try rfl
            · dsimp only [List.set_cons_zero, List.set_cons_succ]
          iterate 4
            apply OrdAt.op_if (fun _ _ _ h => h) rfl rfl rfl
            · intro X hB
              go_simp
              try rfl
            · dsimp only [List.set_cons_zero, List.set_cons_succ]
          apply OrdAt.op_if (fun _ _ _ h => h) rfl rfl rfl
          · intro X hB
            have s := rd (hWc.tr hB) g2
            go_simp
            try rfl
          · dsimp only [List.set_cons_zero, List.set_cons_succ]
          iterate 2
            apply OrdAt.op_if (fun _ _ _ h => h) rfl rfl rfl
            · intro X hB
              go_simp
              try rfl
            · dsimp only [List.set_cons_zero, List.set_cons_succ]
          apply OrdAt.op_not (fun _ _ _ h => h) rfl rfl rfl
          · dsimp only [List.set_cons_zero, List.set_cons_succ]
          apply OrdAt.op_not (fun _ _ _ h => h) rfl rfl rfl
          · dsimp only [List.set_cons_zero, List.set_cons_succ]
          apply OrdAt.op_not (fun _ _ _ h => h) rfl rfl rfl
          · dsimp only [List.set_cons_zero, List.set_cons_succ]
          apply OrdAt.op_not (fun _ _ _ h => h) rfl rfl rfl
          · dsimp only [List.set_cons_zero, List.set_cons_succ]
          apply OrdAt.op_not (fun _ _ _ h => h) rfl rfl rfl
          · dsimp only [List.set_cons_zero, List.set_cons_succ]
          apply OrdAt.op_not (fun _ _ _ h => h) rfl rfl rfl
          · dsimp only [List.set_cons_zero, List.set_cons_succ]
          iterate 2
            apply OrdAt.op_if (fun _ _ _ h => h) rfl rfl rfl
            · intro X hB
              go_simp
              try rfl
            · dsimp only [List.set_cons_zero, List.set_cons_succ]
          apply OrdAt.op_not (fun _ _ _ h => h) rfl rfl rfl
          · dsimp only [List.set_cons_zero, List.set_cons_succ]
          apply OrdAt.op_not (fun _ _ _ h => h) rfl rfl rfl
          · dsimp only [List.set_cons_zero, List.set_cons_succ]
          apply OrdAt.op_not (fun _ _ _ h => h) rfl rfl rfl
          · dsimp only [List.set_cons_zero, List.set_cons_succ]
          apply OrdAt.op_not (fun _ _ _ h => h) rfl rfl rfl
          · dsimp only [List.set_cons_zero, List.set_cons_succ]
          apply OrdAt.op_not (fun _ _ _ h => h) rfl rfl rfl
          · dsimp only [List.set_cons_zero, List.set_cons_succ]
          apply OrdAt.op_not (fun _ _ _ h => h) rfl rfl rfl
          · dsimp only [List.set_cons_zero, List.set_cons_succ]
          apply OrdAt.op_not (fun _ _ _ h => h) rfl rfl rfl
          · dsimp only [List.set_cons_zero, List.set_cons_succ]
          apply OrdAt.op_not (fun _ _ _ h => h) rfl rfl rfl
          · dsimp only [List.set_cons_zero, List.set_cons_succ]
          apply OrdAt.op_not (fun _ _ _ h => h) rfl rfl rfl
          · dsimp only [List.set_cons_zero, List.set_cons_succ]
          apply OrdAt.op_if (fun _ _ _ h => h) rfl rfl rfl
          · intro X hB
            go_simp
            try rfl
          · dsimp only [List.set_cons_zero, List.set_cons_succ]
          apply OrdAt.op (fun _ _ _ h => h) rfl rfl rfl
          · intro X hB
            go_simp
            try rfl
          · dsimp only [List.set_cons_zero, List.set_cons_succ]
          refine OrdAt.done ?_
          intro W5 hW5
          have HB5 := Lib.hid (HBi.out.trans ((hWc.tr hW5).mono HBi.out.size))
          clear hW5 hWc g1 g2 g4 j1 j3 j5 j7 r1 r3
          go_wp2_with (fail)
          go_roundw
          case rel => exact ⟨i + 1, by omega, by go_num, HB5⟩
          case measure => simp [intOf]; omega
        | false =>
          have hx := Hx.out
          by_cases c1 : e1 = 1
          · obtain rfl := c1
            have f1 : IntKind.i64.wrap (n1 + m3) = e4 := by rw [(hx.2 rfl).1 rfl]; exact IntWalk.i64_in _ (by omega)
            clear Hx hx
            refine wp_region_ord 81 [(0, true), (1, true), (2, true), (3, true), (4, true), (5, true), (6, true), (7, true), (8, true), (9, true), (10, true), (11, true), (12, true), (13, true), (14, true), (15, true), (16, true), (17, true), (18, true), (19, true), (20, true), (21, true), (22, true), (23, true), (24, true), (25, true), (26, true), (27, true), (28, true), (29, true), (30, true), (31, true), (32, true), (33, true), (34, true), (35, true), (36, true), (37, true), (38, true), (39, true), (40, true), (41, true), (42, true), (43, true), (44, true), (45, true), (46, true), (47, true), (48, true), (49, true), (50, true), (51, true), (52, true), (53, true), (54, true), (55, true), (56, true), (57, true), (58, true), (59, true), (60, true), (61, true), (62, true), (63, true), (64, true), (65, true), (66, true), (67, true), (68, true), (69, true), (70, true), (71, true), (72, true), (73, true), (74, true), (75, true), (76, true), (77, true), (78, true), (79, true), (80, true)] (by kernel_rfl) (by kernel_rfl) ?_
            intro Wc hWc
            iterate 4
              apply OrdAt.op (fun _ _ _ h => h) rfl rfl rfl
              · intro X hB
                go_simp
                try rfl
              · dsimp only [List.set_cons_zero, List.set_cons_succ]
            apply OrdAt.op (fun _ _ _ h => h) rfl rfl rfl
            · intro X hB
              have s := rd (hWc.tr hB) g2
              go_simp
              try rfl
            · dsimp only [List.set_cons_zero, List.set_cons_succ]
            iterate 2
              apply OrdAt.op (fun _ _ _ h => h) rfl rfl rfl
              · intro X hB
                go_simp
                try rfl
              · dsimp only [List.set_cons_zero, List.set_cons_succ]
            iterate 4
              apply OrdAt.op_if (fun _ _ _ h => h) rfl rfl rfl
              · intro X hB
                go_simp
                try rfl
              · dsimp only [List.set_cons_zero, List.set_cons_succ]
            apply OrdAt.op_if (fun _ _ _ h => h) rfl rfl rfl
            · intro X hB
              have s := rd (hWc.tr hB) g1
              go_simp
              try rfl
            · dsimp only [List.set_cons_zero, List.set_cons_succ]
            apply OrdAt.op_if (fun _ _ _ h => h) rfl rfl rfl
            · intro X hB
              go_simp
              try rfl
            · dsimp only [List.set_cons_zero, List.set_cons_succ]
            iterate 2
              apply OrdAt.op (fun _ _ _ h => h) rfl rfl rfl
              · intro X hB
                go_simp
                try rfl
              · dsimp only [List.set_cons_zero, List.set_cons_succ]
            iterate 3
              apply OrdAt.op_if (fun _ _ _ h => h) rfl rfl rfl
              · intro X hB
                go_simp
                try rfl
              · dsimp only [List.set_cons_zero, List.set_cons_succ]
            apply OrdAt.op_if (fun _ _ _ h => h) rfl rfl rfl
            · intro X hB
              have s := rd (hWc.tr hB) j1
              go_simp
              try rfl
            · dsimp only [List.set_cons_zero, List.set_cons_succ]
            iterate 3
              apply OrdAt.op_if (fun _ _ _ h => h) rfl rfl rfl
              · intro X hB
                go_simp
                try rfl
              · dsimp only [List.set_cons_zero, List.set_cons_succ]
            apply OrdAt.op_if (fun _ _ _ h => h) rfl rfl rfl
            · intro X hB
              have s := rd (hWc.tr hB) j7
              go_simp
              try rfl
            · dsimp only [List.set_cons_zero, List.set_cons_succ]
            iterate 3
              apply OrdAt.op_if (fun _ _ _ h => h) rfl rfl rfl
              · intro X hB
                go_simp
                try rfl
              · dsimp only [List.set_cons_zero, List.set_cons_succ]
            iterate 2
              apply OrdAt.op (fun _ _ _ h => h) rfl rfl rfl
              · intro X hB
                go_simp
                try rfl
              · dsimp only [List.set_cons_zero, List.set_cons_succ]
            iterate 4
              apply OrdAt.op_if (fun _ _ _ h => h) rfl rfl rfl
              · intro X hB
                go_simp
                try rfl
              · dsimp only [List.set_cons_zero, List.set_cons_succ]
            apply OrdAt.op_if (fun _ _ _ h => h) rfl rfl rfl
            · intro X hB
              have s := rd (hWc.tr hB) g2
              go_simp
              try rfl
            · dsimp only [List.set_cons_zero, List.set_cons_succ]
            iterate 6
              apply OrdAt.op_if (fun _ _ _ h => h) rfl rfl rfl
              · intro X hB
                go_simp
                try rfl
              · dsimp only [List.set_cons_zero, List.set_cons_succ]
            apply OrdAt.op_if (fun _ _ _ h => h) rfl rfl rfl
            · intro X hB
              have s := rd (hWc.tr hB) g1
              go_simp
              try rfl
            · dsimp only [List.set_cons_zero, List.set_cons_succ]
            iterate 3
              apply OrdAt.op_if (fun _ _ _ h => h) rfl rfl rfl
              · intro X hB
                go_simp
                try rfl
              · dsimp only [List.set_cons_zero, List.set_cons_succ]
            apply OrdAt.op_not (fun _ _ _ h => h) rfl rfl rfl
            · dsimp only [List.set_cons_zero, List.set_cons_succ]
            apply OrdAt.op_not (fun _ _ _ h => h) rfl rfl rfl
            · dsimp only [List.set_cons_zero, List.set_cons_succ]
            apply OrdAt.op_not (fun _ _ _ h => h) rfl rfl rfl
            · dsimp only [List.set_cons_zero, List.set_cons_succ]
            apply OrdAt.op_not (fun _ _ _ h => h) rfl rfl rfl
            · dsimp only [List.set_cons_zero, List.set_cons_succ]
            apply OrdAt.op_not (fun _ _ _ h => h) rfl rfl rfl
            · dsimp only [List.set_cons_zero, List.set_cons_succ]
            apply OrdAt.op_not (fun _ _ _ h => h) rfl rfl rfl
            · dsimp only [List.set_cons_zero, List.set_cons_succ]
            apply OrdAt.op_not (fun _ _ _ h => h) rfl rfl rfl
            · dsimp only [List.set_cons_zero, List.set_cons_succ]
            apply OrdAt.op_not (fun _ _ _ h => h) rfl rfl rfl
            · dsimp only [List.set_cons_zero, List.set_cons_succ]
            apply OrdAt.op_not (fun _ _ _ h => h) rfl rfl rfl
            · dsimp only [List.set_cons_zero, List.set_cons_succ]
            apply OrdAt.op_if (fun _ _ _ h => h) rfl rfl rfl
            · intro X hB
              go_simp
              try rfl
            · dsimp only [List.set_cons_zero, List.set_cons_succ]
            iterate 2
              apply OrdAt.op (fun _ _ _ h => h) rfl rfl rfl
              · intro X hB
                go_simp
                try rfl
              · dsimp only [List.set_cons_zero, List.set_cons_succ]
            iterate 4
              apply OrdAt.op_if (fun _ _ _ h => h) rfl rfl rfl
              · intro X hB
                go_simp
                try rfl
              · dsimp only [List.set_cons_zero, List.set_cons_succ]
            apply OrdAt.op_if (fun _ _ _ h => h) rfl rfl rfl
            · intro X hB
              have s := rd (hWc.tr hB) g2
              go_simp
              try rfl
            · dsimp only [List.set_cons_zero, List.set_cons_succ]
            iterate 6
              apply OrdAt.op_if (fun _ _ _ h => h) rfl rfl rfl
              · intro X hB
                go_simp
                try rfl
              · dsimp only [List.set_cons_zero, List.set_cons_succ]
            apply OrdAt.op_if (fun _ _ _ h => h) rfl rfl rfl
            · intro X hB
              have s := rd (hWc.tr hB) g1
              go_simp
              try rfl
            · dsimp only [List.set_cons_zero, List.set_cons_succ]
            iterate 3
              apply OrdAt.op_if (fun _ _ _ h => h) rfl rfl rfl
              · intro X hB
                go_simp
                try rfl
              · dsimp only [List.set_cons_zero, List.set_cons_succ]
            apply OrdAt.op_not (fun _ _ _ h => h) rfl rfl rfl
            · dsimp only [List.set_cons_zero, List.set_cons_succ]
            apply OrdAt.op_not (fun _ _ _ h => h) rfl rfl rfl
            · dsimp only [List.set_cons_zero, List.set_cons_succ]
            apply OrdAt.op_not (fun _ _ _ h => h) rfl rfl rfl
            · dsimp only [List.set_cons_zero, List.set_cons_succ]
            apply OrdAt.op_not (fun _ _ _ h => h) rfl rfl rfl
            · dsimp only [List.set_cons_zero, List.set_cons_succ]
            apply OrdAt.op_not (fun _ _ _ h => h) rfl rfl rfl
            · dsimp only [List.set_cons_zero, List.set_cons_succ]
            apply OrdAt.op_not (fun _ _ _ h => h) rfl rfl rfl
            · dsimp only [List.set_cons_zero, List.set_cons_succ]
            apply OrdAt.op_not (fun _ _ _ h => h) rfl rfl rfl
            · dsimp only [List.set_cons_zero, List.set_cons_succ]
            apply OrdAt.op_not (fun _ _ _ h => h) rfl rfl rfl
            · dsimp only [List.set_cons_zero, List.set_cons_succ]
            apply OrdAt.op_not (fun _ _ _ h => h) rfl rfl rfl
            · dsimp only [List.set_cons_zero, List.set_cons_succ]
            apply OrdAt.op_if (fun _ _ _ h => h) rfl rfl rfl
            · intro X hB
              go_simp
              try rfl
            · dsimp only [List.set_cons_zero, List.set_cons_succ]
            apply OrdAt.op (fun _ _ _ h => h) rfl rfl rfl
            · intro X hB
              go_simp
              try rfl
            · dsimp only [List.set_cons_zero, List.set_cons_succ]
            refine OrdAt.done ?_
            intro W5 hW5
            have HB5 := Lib.hid (HBi.out.trans ((hWc.tr hW5).mono HBi.out.size))
            clear hW5 hWc g1 g2 g4 j1 j3 j5 j7 r1 r3
            go_wp2_with (fail)
            go_roundw
            case rel => exact ⟨i + 1, by omega, by go_num, HB5⟩
            case measure => simp [intOf]; omega
          by_cases c2 : e1 = 0
          · obtain rfl := c2
            have f1 : IntKind.i64.wrap (n3 + o3) = e4 := by rw [(hx.2 rfl).2.1 rfl]; exact IntWalk.i64_in _ (by omega)
            clear Hx hx c1
            refine wp_region_ord 81 [(0, true), (1, true), (2, true), (3, true), (4, true), (5, true), (6, true), (7, true), (8, true), (9, true), (10, true), (11, true), (12, true), (13, true), (14, true), (15, true), (16, true), (17, true), (18, true), (19, true), (20, true), (21, true), (22, true), (23, true), (24, true), (25, true), (26, true), (27, true), (28, true), (29, true), (30, true), (31, true), (32, true), (33, true), (34, true), (35, true), (36, true), (37, true), (38, true), (39, true), (40, true), (41, true), (42, true), (43, true), (44, true), (45, true), (46, true), (47, true), (48, true), (49, true), (50, true), (51, true), (52, true), (53, true), (54, true), (55, true), (56, true), (57, true), (58, true), (59, true), (60, true), (61, true), (62, true), (63, true), (64, true), (65, true), (66, true), (67, true), (68, true), (69, true), (70, true), (71, true), (72, true), (73, true), (74, true), (75, true), (76, true), (77, true), (78, true), (79, true), (80, true)] (by kernel_rfl) (by kernel_rfl) ?_
            intro Wc hWc
            iterate 4
              apply OrdAt.op (fun _ _ _ h => h) rfl rfl rfl
              · intro X hB
                go_simp
                try rfl
              · dsimp only [List.set_cons_zero, List.set_cons_succ]
            apply OrdAt.op (fun _ _ _ h => h) rfl rfl rfl
            · intro X hB
              have s := rd (hWc.tr hB) g2
              go_simp
              try rfl
            · dsimp only [List.set_cons_zero, List.set_cons_succ]
            iterate 2
              apply OrdAt.op (fun _ _ _ h => h) rfl rfl rfl
              · intro X hB
                go_simp
                try rfl
              · dsimp only [List.set_cons_zero, List.set_cons_succ]
            iterate 4
              apply OrdAt.op_if (fun _ _ _ h => h) rfl rfl rfl
              · intro X hB
                go_simp
                try rfl
              · dsimp only [List.set_cons_zero, List.set_cons_succ]
            apply OrdAt.op_if (fun _ _ _ h => h) rfl rfl rfl
            · intro X hB
              have s := rd (hWc.tr hB) g1
              go_simp
              try rfl
            · dsimp only [List.set_cons_zero, List.set_cons_succ]
            apply OrdAt.op_if (fun _ _ _ h => h) rfl rfl rfl
            · intro X hB
              go_simp
              try rfl
            · dsimp only [List.set_cons_zero, List.set_cons_succ]
            iterate 2
              apply OrdAt.op (fun _ _ _ h => h) rfl rfl rfl
              · intro X hB
                go_simp
                try rfl
              · dsimp only [List.set_cons_zero, List.set_cons_succ]
            apply OrdAt.op_not (fun _ _ _ h => h) rfl rfl rfl
            · dsimp only [List.set_cons_zero, List.set_cons_succ]
            apply OrdAt.op_not (fun _ _ _ h => h) rfl rfl rfl
            · dsimp only [List.set_cons_zero, List.set_cons_succ]
            apply OrdAt.op_not (fun _ _ _ h => h) rfl rfl rfl
            · dsimp only [List.set_cons_zero, List.set_cons_succ]
            apply OrdAt.op_not (fun _ _ _ h => h) rfl rfl rfl
            · dsimp only [List.set_cons_zero, List.set_cons_succ]
            apply OrdAt.op_not (fun _ _ _ h => h) rfl rfl rfl
            · dsimp only [List.set_cons_zero, List.set_cons_succ]
            apply OrdAt.op_not (fun _ _ _ h => h) rfl rfl rfl
            · dsimp only [List.set_cons_zero, List.set_cons_succ]
            apply OrdAt.op_not (fun _ _ _ h => h) rfl rfl rfl
            · dsimp only [List.set_cons_zero, List.set_cons_succ]
            apply OrdAt.op_not (fun _ _ _ h => h) rfl rfl rfl
            · dsimp only [List.set_cons_zero, List.set_cons_succ]
            apply OrdAt.op_not (fun _ _ _ h => h) rfl rfl rfl
            · dsimp only [List.set_cons_zero, List.set_cons_succ]
            apply OrdAt.op_not (fun _ _ _ h => h) rfl rfl rfl
            · dsimp only [List.set_cons_zero, List.set_cons_succ]
            apply OrdAt.op_not (fun _ _ _ h => h) rfl rfl rfl
            · dsimp only [List.set_cons_zero, List.set_cons_succ]
            iterate 2
              apply OrdAt.op (fun _ _ _ h => h) rfl rfl rfl
              · intro X hB
                go_simp
                try rfl
              · dsimp only [List.set_cons_zero, List.set_cons_succ]
            iterate 4
              apply OrdAt.op_if (fun _ _ _ h => h) rfl rfl rfl
              · intro X hB
                go_simp
                try rfl
              · dsimp only [List.set_cons_zero, List.set_cons_succ]
            apply OrdAt.op_if (fun _ _ _ h => h) rfl rfl rfl
            · intro X hB
              have s := rd (hWc.tr hB) g2
              go_simp
              try rfl
            · dsimp only [List.set_cons_zero, List.set_cons_succ]
            iterate 6
              apply OrdAt.op_if (fun _ _ _ h => h) rfl rfl rfl
              · intro X hB
                go_simp
                try rfl
              · dsimp only [List.set_cons_zero, List.set_cons_succ]
            apply OrdAt.op_if (fun _ _ _ h => h) rfl rfl rfl
            · intro X hB
              have s := rd (hWc.tr hB) g1
              go_simp
              try rfl
            · dsimp only [List.set_cons_zero, List.set_cons_succ]
            iterate 6
              apply OrdAt.op_if (fun _ _ _ h => h) rfl rfl rfl
              · intro X hB
                go_simp
                try rfl
              · dsimp only [List.set_cons_zero, List.set_cons_succ]
            apply OrdAt.op_if (fun _ _ _ h => h) rfl rfl rfl
            · intro X hB
              have s := rd (hWc.tr hB) j3
              go_simp
              try rfl
            · dsimp only [List.set_cons_zero, List.set_cons_succ]
            apply OrdAt.op_if (fun _ _ _ h => h) rfl rfl rfl
            · intro X hB
              go_simp
              try rfl
            · dsimp only [List.set_cons_zero, List.set_cons_succ]
            apply OrdAt.op_if (fun _ _ _ h => h) rfl rfl rfl
            · intro X hB
              have s := rd (hWc.tr hB) r3
              go_simp
              try rfl
            · dsimp only [List.set_cons_zero, List.set_cons_succ]
            iterate 4
              apply OrdAt.op_if (fun _ _ _ h => h) rfl rfl rfl
              · intro X hB
                go_simp
                try rfl
              · dsimp only [List.set_cons_zero, List.set_cons_succ]
            iterate 2
              apply OrdAt.op (fun _ _ _ h => h) rfl rfl rfl
              · intro X hB
                go_simp
                try rfl
              · dsimp only [List.set_cons_zero, List.set_cons_succ]
            iterate 4
              apply OrdAt.op_if (fun _ _ _ h => h) rfl rfl rfl
              · intro X hB
                go_simp
                try rfl
              · dsimp only [List.set_cons_zero, List.set_cons_succ]
            apply OrdAt.op_if (fun _ _ _ h => h) rfl rfl rfl
            · intro X hB
              have s := rd (hWc.tr hB) g2
              go_simp
              try rfl
            · dsimp only [List.set_cons_zero, List.set_cons_succ]
            iterate 6
              apply OrdAt.op_if (fun _ _ _ h => h) rfl rfl rfl
              · intro X hB
                go_simp
                try rfl
              · dsimp only [List.set_cons_zero, List.set_cons_succ]
            apply OrdAt.op_if (fun _ _ _ h => h) rfl rfl rfl
            · intro X hB
              have s := rd (hWc.tr hB) g1
              go_simp
              try rfl
            · dsimp only [List.set_cons_zero, List.set_cons_succ]
            iterate 3
              apply OrdAt.op_if (fun _ _ _ h => h) rfl rfl rfl
              · intro X hB
                go_simp
                try rfl
              · dsimp only [List.set_cons_zero, List.set_cons_succ]
            apply OrdAt.op_not (fun _ _ _ h => h) rfl rfl rfl
            · dsimp only [List.set_cons_zero, List.set_cons_succ]
            apply OrdAt.op_not (fun _ _ _ h => h) rfl rfl rfl
            · dsimp only [List.set_cons_zero, List.set_cons_succ]
            apply OrdAt.op_not (fun _ _ _ h => h) rfl rfl rfl
            · dsimp only [List.set_cons_zero, List.set_cons_succ]
            apply OrdAt.op_not (fun _ _ _ h => h) rfl rfl rfl
            · dsimp only [List.set_cons_zero, List.set_cons_succ]
            apply OrdAt.op_not (fun _ _ _ h => h) rfl rfl rfl
            · dsimp only [List.set_cons_zero, List.set_cons_succ]
            apply OrdAt.op_not (fun _ _ _ h => h) rfl rfl rfl
            · dsimp only [List.set_cons_zero, List.set_cons_succ]
            apply OrdAt.op_not (fun _ _ _ h => h) rfl rfl rfl
            · dsimp only [List.set_cons_zero, List.set_cons_succ]
            apply OrdAt.op_not (fun _ _ _ h => h) rfl rfl rfl
            · dsimp only [List.set_cons_zero, List.set_cons_succ]
            apply OrdAt.op_not (fun _ _ _ h => h) rfl rfl rfl
            · dsimp only [List.set_cons_zero, List.set_cons_succ]
            apply OrdAt.op_if (fun _ _ _ h => h) rfl rfl rfl
            · intro X hB
              go_simp
              try rfl
            · dsimp only [List.set_cons_zero, List.set_cons_succ]
            apply OrdAt.op (fun _ _ _ h => h) rfl rfl rfl
            · intro X hB
              go_simp
              try rfl
            · dsimp only [List.set_cons_zero, List.set_cons_succ]
            refine OrdAt.done ?_
            intro W5 hW5
            have HB5 := Lib.hid (HBi.out.trans ((hWc.tr hW5).mono HBi.out.size))
            clear hW5 hWc g1 g2 g4 j1 j3 j5 j7 r1 r3
            go_wp2_with (fail)
            go_roundw
            case rel => exact ⟨i + 1, by omega, by go_num, HB5⟩
            case measure => simp [intOf]; omega
          by_cases c3 : e1 = 2
          · obtain rfl := c3
            have f1 : IntKind.i64.wrap (m1 + o1) = e4 := by rw [(hx.2 rfl).2.2 rfl]; exact IntWalk.i64_in _ (by omega)
            clear Hx hx c1 c2
            refine wp_region_ord 81 [(0, true), (1, true), (2, true), (3, true), (4, true), (5, true), (6, true), (7, true), (8, true), (9, true), (10, true), (11, true), (12, true), (13, true), (14, true), (15, true), (16, true), (17, true), (18, true), (19, true), (20, true), (21, true), (22, true), (23, true), (24, true), (25, true), (26, true), (27, true), (28, true), (29, true), (30, true), (31, true), (32, true), (33, true), (34, true), (35, true), (36, true), (37, true), (38, true), (39, true), (40, true), (41, true), (42, true), (43, true), (44, true), (45, true), (46, true), (47, true), (48, true), (49, true), (50, true), (51, true), (52, true), (53, true), (54, true), (55, true), (56, true), (57, true), (58, true), (59, true), (60, true), (61, true), (62, true), (63, true), (64, true), (65, true), (66, true), (67, true), (68, true), (69, true), (70, true), (71, true), (72, true), (73, true), (74, true), (75, true), (76, true), (77, true), (78, true), (79, true), (80, true)] (by kernel_rfl) (by kernel_rfl) ?_
            intro Wc hWc
            iterate 4
              apply OrdAt.op (fun _ _ _ h => h) rfl rfl rfl
              · intro X hB
                go_simp
                try rfl
              · dsimp only [List.set_cons_zero, List.set_cons_succ]
            apply OrdAt.op (fun _ _ _ h => h) rfl rfl rfl
            · intro X hB
              have s := rd (hWc.tr hB) g2
              go_simp
              try rfl
            · dsimp only [List.set_cons_zero, List.set_cons_succ]
            iterate 2
              apply OrdAt.op (fun _ _ _ h => h) rfl rfl rfl
              · intro X hB
                go_simp
                try rfl
              · dsimp only [List.set_cons_zero, List.set_cons_succ]
            iterate 4
              apply OrdAt.op_if (fun _ _ _ h => h) rfl rfl rfl
              · intro X hB
                go_simp
                try rfl
              · dsimp only [List.set_cons_zero, List.set_cons_succ]
            apply OrdAt.op_if (fun _ _ _ h => h) rfl rfl rfl
            · intro X hB
              have s := rd (hWc.tr hB) g1
              go_simp
              try rfl
            · dsimp only [List.set_cons_zero, List.set_cons_succ]
            apply OrdAt.op_if (fun _ _ _ h => h) rfl rfl rfl
            · intro X hB
              go_simp
              try rfl
            · dsimp only [List.set_cons_zero, List.set_cons_succ]
            iterate 2
              apply OrdAt.op (fun _ _ _ h => h) rfl rfl rfl
              · intro X hB
                go_simp
                try rfl
              · dsimp only [List.set_cons_zero, List.set_cons_succ]
            apply OrdAt.op_not (fun _ _ _ h => h) rfl rfl rfl
            · dsimp only [List.set_cons_zero, List.set_cons_succ]
            apply OrdAt.op_not (fun _ _ _ h => h) rfl rfl rfl
            · dsimp only [List.set_cons_zero, List.set_cons_succ]
            apply OrdAt.op_not (fun _ _ _ h => h) rfl rfl rfl
            · dsimp only [List.set_cons_zero, List.set_cons_succ]
            apply OrdAt.op_not (fun _ _ _ h => h) rfl rfl rfl
            · dsimp only [List.set_cons_zero, List.set_cons_succ]
            apply OrdAt.op_not (fun _ _ _ h => h) rfl rfl rfl
            · dsimp only [List.set_cons_zero, List.set_cons_succ]
            apply OrdAt.op_not (fun _ _ _ h => h) rfl rfl rfl
            · dsimp only [List.set_cons_zero, List.set_cons_succ]
            apply OrdAt.op_not (fun _ _ _ h => h) rfl rfl rfl
            · dsimp only [List.set_cons_zero, List.set_cons_succ]
            apply OrdAt.op_not (fun _ _ _ h => h) rfl rfl rfl
            · dsimp only [List.set_cons_zero, List.set_cons_succ]
            apply OrdAt.op_not (fun _ _ _ h => h) rfl rfl rfl
            · dsimp only [List.set_cons_zero, List.set_cons_succ]
            apply OrdAt.op_not (fun _ _ _ h => h) rfl rfl rfl
            · dsimp only [List.set_cons_zero, List.set_cons_succ]
            apply OrdAt.op_not (fun _ _ _ h => h) rfl rfl rfl
            · dsimp only [List.set_cons_zero, List.set_cons_succ]
            iterate 2
              apply OrdAt.op (fun _ _ _ h => h) rfl rfl rfl
              · intro X hB
                go_simp
                try rfl
              · dsimp only [List.set_cons_zero, List.set_cons_succ]
            iterate 4
              apply OrdAt.op_if (fun _ _ _ h => h) rfl rfl rfl
              · intro X hB
                go_simp
                try rfl
              · dsimp only [List.set_cons_zero, List.set_cons_succ]
            apply OrdAt.op_if (fun _ _ _ h => h) rfl rfl rfl
            · intro X hB
              have s := rd (hWc.tr hB) g2
              go_simp
              try rfl
            · dsimp only [List.set_cons_zero, List.set_cons_succ]
            iterate 6
              apply OrdAt.op_if (fun _ _ _ h => h) rfl rfl rfl
              · intro X hB
                go_simp
                try rfl
              · dsimp only [List.set_cons_zero, List.set_cons_succ]
            apply OrdAt.op_if (fun _ _ _ h => h) rfl rfl rfl
            · intro X hB
              have s := rd (hWc.tr hB) g1
              go_simp
              try rfl
            · dsimp only [List.set_cons_zero, List.set_cons_succ]
            iterate 3
              apply OrdAt.op_if (fun _ _ _ h => h) rfl rfl rfl
              · intro X hB
                go_simp
                try rfl
              · dsimp only [List.set_cons_zero, List.set_cons_succ]
            apply OrdAt.op_not (fun _ _ _ h => h) rfl rfl rfl
            · dsimp only [List.set_cons_zero, List.set_cons_succ]
            apply OrdAt.op_not (fun _ _ _ h => h) rfl rfl rfl
            · dsimp only [List.set_cons_zero, List.set_cons_succ]
            apply OrdAt.op_not (fun _ _ _ h => h) rfl rfl rfl
            · dsimp only [List.set_cons_zero, List.set_cons_succ]
            apply OrdAt.op_not (fun _ _ _ h => h) rfl rfl rfl
            · dsimp only [List.set_cons_zero, List.set_cons_succ]
            apply OrdAt.op_not (fun _ _ _ h => h) rfl rfl rfl
            · dsimp only [List.set_cons_zero, List.set_cons_succ]
            apply OrdAt.op_not (fun _ _ _ h => h) rfl rfl rfl
            · dsimp only [List.set_cons_zero, List.set_cons_succ]
            apply OrdAt.op_not (fun _ _ _ h => h) rfl rfl rfl
            · dsimp only [List.set_cons_zero, List.set_cons_succ]
            apply OrdAt.op_not (fun _ _ _ h => h) rfl rfl rfl
            · dsimp only [List.set_cons_zero, List.set_cons_succ]
            apply OrdAt.op_not (fun _ _ _ h => h) rfl rfl rfl
            · dsimp only [List.set_cons_zero, List.set_cons_succ]
            apply OrdAt.op_if (fun _ _ _ h => h) rfl rfl rfl
            · intro X hB
              go_simp
              try rfl
            · dsimp only [List.set_cons_zero, List.set_cons_succ]
            iterate 2
              apply OrdAt.op (fun _ _ _ h => h) rfl rfl rfl
              · intro X hB
                go_simp
                try rfl
              · dsimp only [List.set_cons_zero, List.set_cons_succ]
            iterate 4
              apply OrdAt.op_if (fun _ _ _ h => h) rfl rfl rfl
              · intro X hB
                go_simp
                try rfl
              · dsimp only [List.set_cons_zero, List.set_cons_succ]
            apply OrdAt.op_if (fun _ _ _ h => h) rfl rfl rfl
            · intro X hB
              have s := rd (hWc.tr hB) g2
              go_simp
              try rfl
            · dsimp only [List.set_cons_zero, List.set_cons_succ]
            iterate 6
              apply OrdAt.op_if (fun _ _ _ h => h) rfl rfl rfl
              · intro X hB
                go_simp
                try rfl
              · dsimp only [List.set_cons_zero, List.set_cons_succ]
            apply OrdAt.op_if (fun _ _ _ h => h) rfl rfl rfl
            · intro X hB
              have s := rd (hWc.tr hB) g1
              go_simp
              try rfl
            · dsimp only [List.set_cons_zero, List.set_cons_succ]
            iterate 6
              apply OrdAt.op_if (fun _ _ _ h => h) rfl rfl rfl
              · intro X hB
                go_simp
                try rfl
              · dsimp only [List.set_cons_zero, List.set_cons_succ]
            apply OrdAt.op_if (fun _ _ _ h => h) rfl rfl rfl
            · intro X hB
              have s := rd (hWc.tr hB) j5
              go_simp
              try rfl
            · dsimp only [List.set_cons_zero, List.set_cons_succ]
            apply OrdAt.op_if (fun _ _ _ h => h) rfl rfl rfl
            · intro X hB
              go_simp
              try rfl
            · dsimp only [List.set_cons_zero, List.set_cons_succ]
            apply OrdAt.op_if (fun _ _ _ h => h) rfl rfl rfl
            · intro X hB
              have s := rd (hWc.tr hB) r1
              go_simp
              try rfl
            · dsimp only [List.set_cons_zero, List.set_cons_succ]
            iterate 4
              apply OrdAt.op_if (fun _ _ _ h => h) rfl rfl rfl
              · intro X hB
                go_simp
                try rfl
              · dsimp only [List.set_cons_zero, List.set_cons_succ]
            apply OrdAt.op (fun _ _ _ h => h) rfl rfl rfl
            · intro X hB
              go_simp
              try rfl
            · dsimp only [List.set_cons_zero, List.set_cons_succ]
            refine OrdAt.done ?_
            intro W5 hW5
            have HB5 := Lib.hid (HBi.out.trans ((hWc.tr hW5).mono HBi.out.size))
            clear hW5 hWc g1 g2 g4 j1 j3 j5 j7 r1 r3
            go_wp2_with (fail)
            go_roundw
            case rel => exact ⟨i + 1, by omega, by go_num, HB5⟩
            case measure => simp [intOf]; omega
          have q1 : (e1 == 1) = false := beq_eq_false_iff_ne.2 c1
          have q2 : (e1 == 0) = false := beq_eq_false_iff_ne.2 c2
          have q3 : (e1 == 2) = false := beq_eq_false_iff_ne.2 c3
          clear Hx hx c1 c2 c3
          refine wp_region_ord 81 [(0, true), (1, true), (2, true), (3, true), (4, true), (5, true), (6, true), (7, true), (8, true), (9, true), (10, true), (11, true), (12, true), (13, true), (14, true), (15, true), (16, true), (17, true), (18, true), (19, true), (20, true), (21, true), (22, true), (23, true), (24, true), (25, true), (26, true), (27, true), (28, true), (29, true), (30, true), (31, true), (32, true), (33, true), (34, true), (35, true), (36, true), (37, true), (38, true), (39, true), (40, true), (41, true), (42, true), (43, true), (44, true), (45, true), (46, true), (47, true), (48, true), (49, true), (50, true), (51, true), (52, true), (53, true), (54, true), (55, true), (56, true), (57, true), (58, true), (59, true), (60, true), (61, true), (62, true), (63, true), (64, true), (65, true), (66, true), (67, true), (68, true), (69, true), (70, true), (71, true), (72, true), (73, true), (74, true), (75, true), (76, true), (77, true), (78, true), (79, true), (80, true)] (by kernel_rfl) (by kernel_rfl) ?_
          intro Wc hWc
          iterate 4
            apply OrdAt.op (fun _ _ _ h => h) rfl rfl rfl
            · intro X hB
              go_simp
              try rfl
            · dsimp only [List.set_cons_zero, List.set_cons_succ]
          apply OrdAt.op (fun _ _ _ h => h) rfl rfl rfl
          · intro X hB
            have s := rd (hWc.tr hB) g2
            go_simp
            try rfl
          · dsimp only [List.set_cons_zero, List.set_cons_succ]
          iterate 2
            apply OrdAt.op (fun _ _ _ h => h) rfl rfl rfl
            · intro X hB
              go_simp
              try rfl
            · dsimp only [List.set_cons_zero, List.set_cons_succ]
          iterate 4
            apply OrdAt.op_if (fun _ _ _ h => h) rfl rfl rfl
            · intro X hB
              go_simp
              try rfl
            · dsimp only [List.set_cons_zero, List.set_cons_succ]
          apply OrdAt.op_if (fun _ _ _ h => h) rfl rfl rfl
          · intro X hB
            have s := rd (hWc.tr hB) g1
            go_simp
            try rfl
          · dsimp only [List.set_cons_zero, List.set_cons_succ]
          apply OrdAt.op_if (fun _ _ _ h => h) rfl rfl rfl
          · intro X hB
            go_simp
            try rfl
          · dsimp only [List.set_cons_zero, List.set_cons_succ]
          iterate 2
            apply OrdAt.op (fun _ _ _ h => h) rfl rfl rfl
            · intro X hB
              go_simp
              try rfl
            · dsimp only [List.set_cons_zero, List.set_cons_succ]
          apply OrdAt.op_not (fun _ _ _ h => h) rfl rfl rfl
          · dsimp only [List.set_cons_zero, List.set_cons_succ]
          apply OrdAt.op_not (fun _ _ _ h => h) rfl rfl rfl
          · dsimp only [List.set_cons_zero, List.set_cons_succ]
          apply OrdAt.op_not (fun _ _ _ h => h) rfl rfl rfl
          · dsimp only [List.set_cons_zero, List.set_cons_succ]
          apply OrdAt.op_not (fun _ _ _ h => h) rfl rfl rfl
          · dsimp only [List.set_cons_zero, List.set_cons_succ]
          apply OrdAt.op_not (fun _ _ _ h => h) rfl rfl rfl
          · dsimp only [List.set_cons_zero, List.set_cons_succ]
          apply OrdAt.op_not (fun _ _ _ h => h) rfl rfl rfl
          · dsimp only [List.set_cons_zero, List.set_cons_succ]
          apply OrdAt.op_not (fun _ _ _ h => h) rfl rfl rfl
          · dsimp only [List.set_cons_zero, List.set_cons_succ]
          apply OrdAt.op_not (fun _ _ _ h => h) rfl rfl rfl
          · dsimp only [List.set_cons_zero, List.set_cons_succ]
          apply OrdAt.op_not (fun _ _ _ h => h) rfl rfl rfl
          · dsimp only [List.set_cons_zero, List.set_cons_succ]
          apply OrdAt.op_not (fun _ _ _ h => h) rfl rfl rfl
          · dsimp only [List.set_cons_zero, List.set_cons_succ]
          apply OrdAt.op_not (fun _ _ _ h => h) rfl rfl rfl
          · dsimp only [List.set_cons_zero, List.set_cons_succ]
          iterate 2
            apply OrdAt.op (fun _ _ _ h => h) rfl rfl rfl
            · intro X hB
              go_simp
              try rfl
            · dsimp only [List.set_cons_zero, List.set_cons_succ]
          iterate 4
            apply OrdAt.op_if (fun _ _ _ h => h) rfl rfl rfl
            · intro X hB
              go_simp
              try rfl
            · dsimp only [List.set_cons_zero, List.set_cons_succ]
          apply OrdAt.op_if (fun _ _ _ h => h) rfl rfl rfl
          · intro X hB
            have s := rd (hWc.tr hB) g2
            go_simp
            try rfl
          · dsimp only [List.set_cons_zero, List.set_cons_succ]
          iterate 6
            apply OrdAt.op_if (fun _ _ _ h => h) rfl rfl rfl
            · intro X hB
              go_simp
              try rfl
            · dsimp only [List.set_cons_zero, List.set_cons_succ]
          apply OrdAt.op_if (fun _ _ _ h => h) rfl rfl rfl
          · intro X hB
            have s := rd (hWc.tr hB) g1
            go_simp
            try rfl
          · dsimp only [List.set_cons_zero, List.set_cons_succ]
          iterate 3
            apply OrdAt.op_if (fun _ _ _ h => h) rfl rfl rfl
            · intro X hB
              go_simp
              try rfl
            · dsimp only [List.set_cons_zero, List.set_cons_succ]
          apply OrdAt.op_not (fun _ _ _ h => h) rfl rfl rfl
          · dsimp only [List.set_cons_zero, List.set_cons_succ]
          apply OrdAt.op_not (fun _ _ _ h => h) rfl rfl rfl
          · dsimp only [List.set_cons_zero, List.set_cons_succ]
          apply OrdAt.op_not (fun _ _ _ h => h) rfl rfl rfl
          · dsimp only [List.set_cons_zero, List.set_cons_succ]
          apply OrdAt.op_not (fun _ _ _ h => h) rfl rfl rfl
          · dsimp only [List.set_cons_zero, List.set_cons_succ]
          apply OrdAt.op_not (fun _ _ _ h => h) rfl rfl rfl
          · dsimp only [List.set_cons_zero, List.set_cons_succ]
          apply OrdAt.op_not (fun _ _ _ h => h) rfl rfl rfl
          · dsimp only [List.set_cons_zero, List.set_cons_succ]
          apply OrdAt.op_not (fun _ _ _ h => h) rfl rfl rfl
          · dsimp only [List.set_cons_zero, List.set_cons_succ]
          apply OrdAt.op_not (fun _ _ _ h => h) rfl rfl rfl
          · dsimp only [List.set_cons_zero, List.set_cons_succ]
          apply OrdAt.op_not (fun _ _ _ h => h) rfl rfl rfl
          · dsimp only [List.set_cons_zero, List.set_cons_succ]
          apply OrdAt.op_if (fun _ _ _ h => h) rfl rfl rfl
          · intro X hB
            go_simp
            try rfl
          · dsimp only [List.set_cons_zero, List.set_cons_succ]
          iterate 2
            apply OrdAt.op (fun _ _ _ h => h) rfl rfl rfl
            · intro X hB
              go_simp
              try rfl
            · dsimp only [List.set_cons_zero, List.set_cons_succ]
          iterate 4
            apply OrdAt.op_if (fun _ _ _ h => h) rfl rfl rfl
            · intro X hB
              go_simp
              try rfl
            · dsimp only [List.set_cons_zero, List.set_cons_succ]
          apply OrdAt.op_if (fun _ _ _ h => h) rfl rfl rfl
          · intro X hB
            have s := rd (hWc.tr hB) g2
            go_simp
            try rfl
          · dsimp only [List.set_cons_zero, List.set_cons_succ]
          iterate 6
            apply OrdAt.op_if (fun _ _ _ h => h) rfl rfl rfl
            · intro X hB
              go_simp
              try rfl
            · dsimp only [List.set_cons_zero, List.set_cons_succ]
          apply OrdAt.op_if (fun _ _ _ h => h) rfl rfl rfl
          · intro X hB
            have s := rd (hWc.tr hB) g1
            go_simp
            try rfl
          · dsimp only [List.set_cons_zero, List.set_cons_succ]
          iterate 3
            apply OrdAt.op_if (fun _ _ _ h => h) rfl rfl rfl
            · intro X hB
              go_simp
              try rfl
            · dsimp only [List.set_cons_zero, List.set_cons_succ]
          apply OrdAt.op_not (fun _ _ _ h => h) rfl rfl rfl
          · dsimp only [List.set_cons_zero, List.set_cons_succ]
          apply OrdAt.op_not (fun _ _ _ h => h) rfl rfl rfl
          · dsimp only [List.set_cons_zero, List.set_cons_succ]
          apply OrdAt.op_not (fun _ _ _ h => h) rfl rfl rfl
          · dsimp only [List.set_cons_zero, List.set_cons_succ]
          apply OrdAt.op_not (fun _ _ _ h => h) rfl rfl rfl
          · dsimp only [List.set_cons_zero, List.set_cons_succ]
          apply OrdAt.op_not (fun _ _ _ h => h) rfl rfl rfl
          · dsimp only [List.set_cons_zero, List.set_cons_succ]
          apply OrdAt.op_not (fun _ _ _ h => h) rfl rfl rfl
          · dsimp only [List.set_cons_zero, List.set_cons_succ]
          apply OrdAt.op_not (fun _ _ _ h => h) rfl rfl rfl
          · dsimp only [List.set_cons_zero, List.set_cons_succ]
          apply OrdAt.op_not (fun _ _ _ h => h) rfl rfl rfl
          · dsimp only [List.set_cons_zero, List.set_cons_succ]
          apply OrdAt.op_not (fun _ _ _ h => h) rfl rfl rfl
          · dsimp only [List.set_cons_zero, List.set_cons_succ]
          apply OrdAt.op_if (fun _ _ _ h => h) rfl rfl rfl
          · intro X hB
            go_simp
            try rfl
          · dsimp only [List.set_cons_zero, List.set_cons_succ]
          apply OrdAt.op (fun _ _ _ h => h) rfl rfl rfl
          · intro X hB
            go_simp
            try rfl
          · dsimp only [List.set_cons_zero, List.set_cons_succ]
          refine OrdAt.done ?_
          intro W5 hW5
          have HB5 := Lib.hid (HBi.out.trans ((hWc.tr hW5).mono HBi.out.size))
          clear hW5 hWc g1 g2 g4 j1 j3 j5 j7 r1 r3
          go_wp2_with (fail)
          go_roundw
          case rel => exact ⟨i + 1, by omega, by go_num, HB5⟩
          case measure => simp [intOf]; omega
      · obtain rfl : i = 7 := by omega
        have ti : decide (((7 : Nat) : Int) < 7) = false := by decide
        go_wp2_with (fail)
        go_ret
        exact ⟨rfl, HB6.out.trans (HBi.out.mono HB6.out.size)⟩
end Go.Proofs.Ytmlcjiabnmdfeaa
