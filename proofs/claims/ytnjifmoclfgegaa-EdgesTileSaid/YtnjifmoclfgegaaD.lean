/- The contract of edges.Span: for wrong bands or places an error, else how far the bands reach. -/
import Derived.Test.YtnjifmoclfgegaaC
import Derived.Scope
import Derived.ScopeJumps
import Derived.WalkMore
namespace Go.Proofs.Ytnjifmoclfgegaa
open Go.RowKit Go.Shelf
attribute [local go_sem] Oper.semAt_some

theorem Keeps.setBox {S : Nat → Prop} {a w : World} (h : Keeps S a w) (B : Nat) (hp : ¬ S B) (u : Value) : Keeps S a (w.setCell ⟨B, 0, none⟩ u) := h.setCell (p := ⟨B, 0, none⟩) hp u
theorem run_store_float {P : Program} {w : World} {a : Addr} {m : Mode} (k : FloatKind) (b : Nat) : (store a (.float k b) m).run P w = stored P w a (.float k b) m := run_store P w a _ m rfl
attribute [local go_sem] run_store_float

theorem wpIn_scope_wide {n : Nat} {P : Program} {c : Code} {Q : Exit → Act → World → Prop} {a : Act} {w : World} (h : c.wpIn Fence.wide n P (Exit.noGoto Q) a w) : (Code.scope c).wpIn Fence.wide n P Q a w :=
  wpIn_wide.2 (wp_scope_straight (wpIn_wide.1 h))

def inSpan (xs : List Int) (a n : Int) : Prop := 0 ≤ a ∧ a ≤ xs.length ∧ 0 ≤ n ∧ n ≤ xs.length - a

/-- the span of n bands from a on -/
def sp (gap : Int) (xs : List Int) (a n : Nat) : Int := if n = 0 then 0 else st gap xs (a + n - 1) + xs[a + n - 1]?.getD 0 - st gap xs a

theorem two_boxes (w : World) (a n : Int) : Boxed ((w.alloc (.cells #[.int .i64 a] 3)).alloc (.cells #[.int .i64 n] 3)) w.heap.size 3 (.int .i64 a) ∧ Boxed ((w.alloc (.cells #[.int .i64 a] 3)).alloc (.cells #[.int .i64 n] 3)) (w.heap.size + 1) 3 (.int .i64 n) := by
  refine ⟨(Boxed.new w 3 _).alloc _, ?_⟩
  have := Boxed.new (w.alloc (.cells #[.int .i64 a] 3)) 3 (.int .i64 n)
  rw [World.size_alloc] at this; exact this
theorem boxed_below {w w' : World} {B : Nat} {t : TypeId} {v : Value} (h : Boxed w B t v) (hb : Below w.heap.size w w') : Boxed w' B t v := (hb.block B h.lt).trans h

theorem c14_wrong (A : Option Addr) (xs : List Int) (c : Nat) (gap a n : Int) (w : World) (hx : Ints w A xs) (hl : xs.length ≤ 17592186044416) (hr : right xs gap = false ∨ ¬ inSpan xs a n) :
    Calls Try.prog 14 #[.slice A xs.length c, .int .i64 gap, .int .i64 a, .int .i64 n] w fun e w' => e = .returned (.tuple #[.int .i64 0, .int .i64 100]) ∧ Below w.heap.size w w' := by
  have hbb := two_boxes w a n
  have hB0 : Below w.heap.size w ((w.alloc (.cells #[.int .i64 a] 3)).alloc (.cells #[.int .i64 n] 3)) := ((Below.refl _ w).alloc (Nat.le_refl _) _).alloc (by simp) _
  have h := c16 A xs c gap _ (hx.below hB0) hl
  have HB0 := Lib.hid hB0
  have Hbb := Lib.hid hbb
  clear hx hbb hB0
  cases hrr : right xs gap with
  | false =>
    rw [hrr] at h
    have H := Lib.hid h
    clear h hr hrr
    go_enter Try.func14, Try.ntmps14; go_wp2; go_step3
    go_wp2_with (go_at_call 16; refine H.out.mono ?_; rintro e w1 ⟨rfl, hb⟩)
    rw [Exit.noGoto_ret]; go_ret2
    exact ⟨rfl, HB0.out.trans (hb.mono HB0.out.size)⟩
  | true =>
    rw [hrr] at h
    have H := Lib.hid h
    have hs : ¬ inSpan xs a n := hr.resolve_left (by rw [hrr]; simp)
    have Hs := Lib.hid hs
    clear h hr hrr hs
    by_cases h1 : a < 0
    · go_enter Try.func14, Try.ntmps14; go_wp2; go_step3
      go_wp2_with (go_at_call 16; refine H.out.mono ?_; rintro e w1 ⟨rfl, hb⟩; have q1 := (boxed_below Hbb.out.1 hb).cell; have q2 := (boxed_below Hbb.out.2 hb).cell)
      rw [Exit.noGoto_ret]; go_ret2
      exact ⟨rfl, HB0.out.trans (hb.mono HB0.out.size)⟩
    · by_cases h2 : (xs.length : Int) < a
      · go_enter Try.func14, Try.ntmps14; go_wp2; go_step3
        go_wp2_with (go_at_call 16; refine H.out.mono ?_; rintro e w1 ⟨rfl, hb⟩; have q1 := (boxed_below Hbb.out.1 hb).cell; have q2 := (boxed_below Hbb.out.2 hb).cell)
        rw [Exit.noGoto_ret]; go_ret2
        exact ⟨rfl, HB0.out.trans (hb.mono HB0.out.size)⟩
      · by_cases h3 : n < 0
        · go_enter Try.func14, Try.ntmps14; go_wp2; go_step3
          go_wp2_with (go_at_call 16; refine H.out.mono ?_; rintro e w1 ⟨rfl, hb⟩; have q1 := (boxed_below Hbb.out.1 hb).cell; have q2 := (boxed_below Hbb.out.2 hb).cell)
          rw [Exit.noGoto_ret]; go_ret2
          exact ⟨rfl, HB0.out.trans (hb.mono HB0.out.size)⟩
        · by_cases h4 : (xs.length : Int) - a < n
          · go_enter Try.func14, Try.ntmps14; go_wp2; go_step3
            go_wp2_with (go_at_call 16; refine H.out.mono ?_; rintro e w1 ⟨rfl, hb⟩; have q1 := (boxed_below Hbb.out.1 hb).cell; have q2 := (boxed_below Hbb.out.2 hb).cell)
            rw [Exit.noGoto_ret]; go_ret2
            exact ⟨rfl, HB0.out.trans (hb.mono HB0.out.size)⟩
          · exact absurd (by unfold inSpan; omega) Hs.out

/-- the bits of 'first' and of 'last' when pre has come -/
def Fb (a : Nat) (pre : List Bp) : Nat := if a < pre.length then floatOfInt .f64 (pre[a]?.getD (mkB 0 0)).1.1 else 0
def Lb (a : Nat) (pre : List Bp) : Nat := if a < pre.length then floatOfInt .f64 (pre[pre.length - 1]?.getD (mkB 0 0)).1.2 else 0
theorem Fb_less {a : Nat} {pre : List Bp} (x : Bp) (h : pre.length < a) : Fb a (pre ++ [x]) = Fb a pre ∧ Lb a (pre ++ [x]) = Lb a pre := by
  unfold Fb Lb
  simp only [List.length_append, List.length_singleton]
  rw [if_neg (by omega), if_neg (by omega), if_neg (by omega), if_neg (by omega)]; exact ⟨rfl, rfl⟩
theorem Fb_same {a : Nat} {pre : List Bp} (x : Bp) (h : pre.length = a) : Fb a (pre ++ [x]) = floatOfInt .f64 x.1.1 ∧ Lb a (pre ++ [x]) = floatOfInt .f64 x.1.2 := by
  unfold Fb Lb
  subst h
  simp
theorem Fb_more {a : Nat} {pre : List Bp} (x : Bp) (h : a < pre.length) : Fb a (pre ++ [x]) = Fb a pre ∧ Lb a (pre ++ [x]) = floatOfInt .f64 x.1.2 := by
  unfold Fb Lb
  simp only [List.length_append, List.length_singleton]
  rw [if_pos (show a < pre.length + 1 by omega), if_pos h, if_pos (show a < pre.length + 1 by omega), List.getElem?_append_left h]
  simp
theorem Fb_upto {xs : List Int} {gap : Int} (hr : right xs gap = true) {a n : Nat} (hs : a + n ≤ xs.length) (hn : n ≠ 0) :
    Fb a (upto (bnd gap xs) (a + n)) = floatOfInt .f64 (st gap xs a) ∧ Lb a (upto (bnd gap xs) (a + n)) = floatOfInt .f64 (st gap xs (a + n - 1) + xs[a + n - 1]?.getD 0) := by
  have hg : ∀ j, j < a + n → (upto (bnd gap xs) (a + n))[j]? = some (bnd gap xs j) := fun j hj => by simp [upto, hj]
  unfold Fb Lb
  rw [upto_length, if_pos (by omega), if_pos (by omega), hg a (by omega), hg (a + n - 1) (by omega)]
  simp only [Option.getD_some, bnd_val hr (show a < xs.length by omega), bnd_val hr (show a + n - 1 < xs.length by omega)]
  exact ⟨trivial, trivial⟩
theorem st_mono {xs : List Int} {gap : Int} (hr : right xs gap = true) {a : Nat} : ∀ d, a + d < xs.length → st gap xs a ≤ st gap xs (a + d) + xs[a + d]?.getD 0
  | 0, h => by have := (right_iff.1 hr).2.2 a (by omega); simp only [Nat.add_zero]; omega
  | d + 1, h => by
    have ih := st_mono hr (a := a) d (by omega)
    have h1 := (right_iff.1 hr).2.1
    have h2 := (right_iff.1 hr).2.2 (a + (d + 1)) h
    have e : st gap xs (a + (d + 1)) = st gap xs (a + d) + (xs[a + d]?.getD 0 + gap) := rfl
    rw [e]; omega
theorem sp_float {xs : List Int} {gap : Int} (hr : right xs gap = true) {a n : Nat} (hs : a + n ≤ xs.length) (hn : n ≠ 0) :
    floatBits .sub .f64 (Lb a (upto (bnd gap xs) (a + n))) (Fb a (upto (bnd gap xs) (a + n))) = some (floatOfInt .f64 (sp gap xs a n)) ∧ 0 ≤ sp gap xs a n ∧ sp gap xs a n < 2 ^ 53 := by
  obtain ⟨e1, e2⟩ := Fb_upto hr hs hn
  have hlen := (right_iff.1 hr).1
  have h1 := st_bounds hr a (by omega)
  have h2 := st_bounds hr (a + n - 1) (by omega)
  have h3 := (right_iff.1 hr).2.2 (a + n - 1) (by omega)
  have h4 := st_mono hr (a := a) (n - 1) (by omega)
  rw [show a + (n - 1) = a + n - 1 by omega] at h4
  unfold sp
  rw [if_neg hn, e1, e2]
  exact ⟨Fx.sub_fb (by omega) h4 (by omega), by omega, by omega⟩

def SpanI (w : World) (a n B : Nat) (pre : List Bp) (W : World) : Prop :=
  (Boxed W B 56 (.float .f64 (Fb a pre)) ∧ Boxed W (B + 1) 56 (.float .f64 (Lb a pre)) ∧ Boxed W (B + 1 + 1) 3 (.int .i64 pre.length) ∧ Boxed W w.heap.size 3 (.int .i64 a) ∧ Boxed W (w.heap.size + 1) 3 (.int .i64 n)) ∧ Below w.heap.size w W ∧ pre.length ≤ a + n
theorem spanI_own (w : World) (a n B C : Nat) (hC : w.heap.size ≤ C) : OwnFrom C (SpanI w a n B) :=
  OwnFrom.and (OwnFrom.and (Own.from (boxed_own _ _ _) _) (OwnFrom.and (Own.from (boxed_own _ _ _) _) (OwnFrom.and (Own.from (boxed_own _ _ (fun pre : List Bp => Value.int .i64 pre.length)) _) (OwnFrom.and (Own.from (boxed_own _ _ _) _) (Own.from (boxed_own _ _ _) _)))))
    (OwnFrom.and (ownFrom_below (Nat.le_refl _) hC) (ownFrom_pure _ _))
def SpanX (w : World) (a n B : Nat) (c : Code) (pre : List Bp) (W : World) : Prop := c = .exit 0 ∧ ∃ ini last, pre = ini ++ [last] ∧ ini.length = a + n ∧ SpanI w a n B ini W
theorem spanX_own (w : World) (a n B C : Nat) (hC : w.heap.size ≤ C) (c : Code) : OwnFrom C (SpanX w a n B c) := fun s X Y row hs hg hr => by
  obtain ⟨hc, ini, last, e1, e2, hI⟩ := hs
  exact ⟨hc, ini, last, e1, e2, spanI_own w a n B C hC ini X Y row hI hg hr⟩

set_option maxRecDepth 100000 in
set_option maxHeartbeats 4000000 in
theorem c14_right (A : Option Addr) (xs : List Int) (c : Nat) (gap : Int) (a n : Nat) (w : World) (hx : Ints w A xs) (hr : right xs gap = true) (hs : a + n ≤ xs.length) :
    Calls Try.prog 14 #[.slice A xs.length c, .int .i64 gap, .int .i64 a, .int .i64 n] w fun e w' => e = .returned (.tuple #[.int .i64 (sp gap xs a n), .int .i64 0]) ∧ Below w.heap.size w w' := by
  have hlen := (right_iff.1 hr).1
  have hbb := two_boxes w a n
  have hB0 : Below w.heap.size w ((w.alloc (.cells #[.int .i64 a] 3)).alloc (.cells #[.int .i64 n] 3)) := ((Below.refl _ w).alloc (Nat.le_refl _) _).alloc (by simp) _
  have h := c16 A xs c gap _ (hx.below hB0) (by omega)
  have HB0 := Lib.hid hB0
  have Hbb := Lib.hid hbb
  rw [hr] at h
  have H := Lib.hid h
  clear h
  have Hx := Lib.hid hx
  have Hr := Lib.hid hr
  clear hx hr hbb hB0
  refine (callsIn_wide (n := 3)).1 ?_
  refine callsIn_of_wp_marks Try.func14 rfl trivial ?_ rfl
  simp only [Try.ntmps14, List.size_toArray, List.length_cons, List.length_nil, Nat.reduceAdd, Nat.reduceSub, Array.replicate_succ, Array.replicate_zero, List.push_toArray, List.append_toArray, List.nil_append, List.cons_append]
  gi_wp2
  refine wpIn_scope_wide ?_
  gi_wp2_with (first | (refine ⟨trivial, ?_⟩; gi_at_call 16; refine (callsIn_wide.2 H.out).mono ?_; rintro e w1 ⟨rfl, hb1⟩; have b1 := boxed_below Hbb.out.1 hb1; have b2 := boxed_below Hbb.out.2 hb1; have q1 := b1.cell; have q2 := b2.cell) | (refine ⟨trivial, ?_⟩; gi_at_call 27; refine (callsIn_wide.2 (c27 _ _ _ _ _)).mono ?_; rintro e w' ⟨rfl, rfl⟩) | (refine wpIn_label ?_))
  obtain ⟨W0, hW0⟩ : ∃ W0, (((((w1.alloc (Obj.cells #[Value.float FloatKind.f64 0] 56)).alloc (Obj.cells #[Value.float FloatKind.f64 0] 56)).alloc (Obj.cells #[Value.int IntKind.i64 0] 3)).alloc (Obj.cells #[Value.slice A xs.length c] 22)).alloc (Obj.cells #[Value.int IntKind.i64 gap] 2)) = W0 := ⟨_, rfl⟩
  have hsz1 := HB0.out.size
  have hsz2 := hb1.size
  have hsz3 : ((w.alloc (.cells #[.int .i64 a] 3)).alloc (.cells #[.int .i64 n] 3)).heap.size = w.heap.size + 2 := by simp
  have hsz : W0.heap.size = w1.heap.size + 5 := by rw [← hW0]; simp
  have hBw : Below w1.heap.size w1 W0 := by
    rw [← hW0]; exact (((((Below.refl _ w1).alloc (Nat.le_refl _) _).alloc (by simp) _).alloc (by simp; omega) _).alloc (by simp; omega) _).alloc (by simp; omega) _
  have c0 : Boxed W0 w1.heap.size 56 (.float .f64 0) := by rw [← hW0]; exact ((((Boxed.new w1 56 _).alloc _).alloc _).alloc _).alloc _
  have c1 : Boxed W0 (w1.heap.size + 1) 56 (.float .f64 0) := by
    have := (((Boxed.new (w1.alloc (Obj.cells #[Value.float FloatKind.f64 0] 56)) 56 (.float .f64 0)).alloc (Obj.cells #[Value.int IntKind.i64 0] 3)).alloc (Obj.cells #[Value.slice A xs.length c] 22)).alloc (Obj.cells #[Value.int IntKind.i64 gap] 2)
    rw [World.size_alloc, hW0] at this; exact this
  have c2 : Boxed W0 (w1.heap.size + 1 + 1) 3 (.int .i64 0) := by
    have := ((Boxed.new ((w1.alloc (Obj.cells #[Value.float FloatKind.f64 0] 56)).alloc (Obj.cells #[Value.float FloatKind.f64 0] 56)) 3 (.int .i64 0)).alloc (Obj.cells #[Value.slice A xs.length c] 22)).alloc (Obj.cells #[Value.int IntKind.i64 gap] 2)
    rw [World.size_alloc, World.size_alloc, hW0] at this; exact this
  have c3 : Boxed W0 (w1.heap.size + 1 + 1 + 1) 22 (.slice A xs.length c) := by
    have := (Boxed.new (((w1.alloc (Obj.cells #[Value.float FloatKind.f64 0] 56)).alloc (Obj.cells #[Value.float FloatKind.f64 0] 56)).alloc (Obj.cells #[Value.int IntKind.i64 0] 3)) 22 (.slice A xs.length c)).alloc (Obj.cells #[Value.int IntKind.i64 gap] 2)
    rw [World.size_alloc, World.size_alloc, World.size_alloc, hW0] at this; exact this
  have c4 : Boxed W0 (w1.heap.size + 1 + 1 + 1 + 1) 2 (.int .i64 gap) := by
    have := Boxed.new ((((w1.alloc (Obj.cells #[Value.float FloatKind.f64 0] 56)).alloc (Obj.cells #[Value.float FloatKind.f64 0] 56)).alloc (Obj.cells #[Value.int IntKind.i64 0] 3)).alloc (Obj.cells #[Value.slice A xs.length c] 22)) 2 (.int .i64 gap)
    rw [World.size_alloc, World.size_alloc, World.size_alloc, World.size_alloc, hW0] at this; exact this
  have hB1 : Below w.heap.size w W0 := (HB0.out.trans (hb1.mono hsz1)).trans (hBw.mono (by omega))
  have hxW0 := Hx.out.below hB1
  have d1 := boxed_below b1 hBw
  have d2 := boxed_below b2 hBw
  rw [hW0]
  clear hW0 hb1 hBw b1 b2 q1 q2 H Hbb
  refine wpIn_rangeFunc_ownG (F := Fence.wide) (n := 3) rfl (by omega) (gf := 39) (lb := #[.pointer (some ⟨w1.heap.size + 1 + 1 + 1 + 1, 0, none⟩), .pointer (some ⟨w1.heap.size + 1 + 1 + 1, 0, none⟩)]) rfl trivial (enters_of Try.func39 (by kernel_rfl) rfl)
    (c39_stops Fence.wide 2 trivial rfl (by omega) (w1.heap.size + 1 + 1 + 1 + 1) (w1.heap.size + 1 + 1 + 1) (fun k => k < w.heap.size ∨ k = w1.heap.size + 1 + 1 + 1 + 1) A xs c gap Hr.out
      (fun b off e h0 => by obtain ⟨b', off', e', hc⟩ := Hx.out 0 h0; rw [e] at e'; cases e'; exact .inl (World.block_lt_of_cell? w _ hc)) (.inr rfl) W0 c4.cell c3.cell hxW0)
    (fun h k => h.trans k) (Keeps.putObj W0 (fun k hk => by omega)) (Below.refl _ _) (fun _ => rfl)
    (SpanI w a n w1.heap.size) (SpanX w a n w1.heap.size) (spanI_own w a n w1.heap.size _ (by omega)) (spanX_own w a n w1.heap.size _ (by omega))
    ⟨⟨c0, c1, c2, d1, d2⟩, hB1, Nat.zero_le _⟩ ?a1 ?assign ?body ?done ?stop
  case assign =>
    intro l x W K hK
    have HK := Lib.hid hK
    clear hK
    unfold encB
    gi_wp2
    exact HK.out
  case body =>
    rintro l pre x W ⟨⟨e0, e1, e2, e3, e4⟩, hB, hpl⟩ hlt
    have f0 := e0.cell
    have f1 := e1.cell
    have f2 := e2.cell
    have f3 := e3.cell
    have f4 := e4.cell
    have g0 := e0.frozen
    have g1 := e1.frozen
    have g2 := e2.frozen
    have hfin : ∀ (v0 v1 : Value) (W' : World), (v0 = .float .f64 (Fb a (pre ++ [x]))) → (v1 = .float .f64 (Lb a (pre ++ [x]))) → pre.length + 1 ≤ a + n →
        (Boxed W' w1.heap.size 56 v0 ∧ Boxed W' (w1.heap.size + 1) 56 v1 ∧ Boxed W' (w1.heap.size + 1 + 1) 3 (.int .i64 ((pre.length : Int) + 1)) ∧ Boxed W' w.heap.size 3 (.int .i64 a) ∧ Boxed W' (w.heap.size + 1) 3 (.int .i64 n)) →
        KeepsOthers W W' → Keeps (fun k => k < w.heap.size ∨ k = w1.heap.size + 1 + 1 + 1 + 1) W W' →
        KeepsFrom W0.heap.size W W' ∧ Keeps (fun k => k < w.heap.size ∨ k = w1.heap.size + 1 + 1 + 1 + 1) W W' ∧ SpanI w a n w1.heap.size (pre ++ [x]) W' := by
      rintro v0 v1 W' rfl rfl hle ⟨k0, k1, k2, k3, k4⟩ ho hk
      refine ⟨ho.from _, hk, ⟨k0, k1, ?_, k3, k4⟩, hB.trans (hk.below fun k hk => .inl hk), by simpa using hle⟩
      simpa using k2
    have Hfin := Lib.hid hfin
    clear hfin
    by_cases h1 : pre.length < a
    · gi_wp2
      obtain ⟨z0, z1⟩ := Fb_less x h1
      exact Hfin.out _ _ _ (by rw [z0]) (by rw [z1]) (by omega) ⟨e0.other (by omega) _, e1.other (by omega) _, e2.set _, e3.other (by omega) _, e4.other (by omega) _⟩ (KeepsOthers.setCell _ _ _) ((Keeps.refl _ _).setBox (w1.heap.size + 1 + 1) (fun h => by omega) _)
    · by_cases h2 : pre.length = a + n
      · have t2 : ((pre.length : Int) == (a : Int) + (n : Int)) = true := by rw [beq_iff_eq]; omega
        gi_wp2
        exact ⟨KeepsFrom.refl _ _, rfl, pre, x, rfl, h2, ⟨e0, e1, e2, e3, e4⟩, hB, hpl⟩
      · have t2 : ((pre.length : Int) == (a : Int) + (n : Int)) = false := by rw [beq_eq_false_iff_ne]; omega
        by_cases h3 : pre.length = a
        · have t3 : (pre.length == a) = true := by rw [beq_iff_eq]; omega
          have t4 : ((pre.length : Int) == (a : Int)) = true := by rw [beq_iff_eq]; omega
          have H2 := Lib.hid h2
          have H3 := Lib.hid h3
          clear h2 h3
          gi_wp2
          obtain ⟨z0, z1⟩ := Fb_same x H3.out
          have hle : pre.length + 1 ≤ a + n := by have := H2.out; omega
          exact Hfin.out _ _ _ (by rw [z0]) (by rw [z1]) hle ⟨((e0.set _).other (by omega) _).other (by omega) _, ((e1.other (by omega) _).set _).other (by omega) _, ((e2.other (by omega) _).other (by omega) _).set _, ((e3.other (by omega) _).other (by omega) _).other (by omega) _, ((e4.other (by omega) _).other (by omega) _).other (by omega) _⟩
            (((KeepsOthers.setCell _ _ _).trans (KeepsOthers.setCell _ _ _)).trans (KeepsOthers.setCell _ _ _))
            ((((Keeps.refl _ _).setBox (w1.heap.size) (fun h => by omega) _).setBox (w1.heap.size + 1) (fun h => by omega) _).setBox (w1.heap.size + 1 + 1) (fun h => by omega) _)
        · have t3 : (pre.length == a) = false := by rw [beq_eq_false_iff_ne]; omega
          have t4 : ((pre.length : Int) == (a : Int)) = false := by rw [beq_eq_false_iff_ne]; omega
          gi_wp2
          obtain ⟨z0, z1⟩ := Fb_more x (show a < pre.length by omega)
          exact Hfin.out _ _ _ (by rw [z0]) (by rw [z1]) (by omega) ⟨(e0.other (by omega) _).other (by omega) _, (e1.set _).other (by omega) _, (e2.other (by omega) _).set _, (e3.other (by omega) _).other (by omega) _, (e4.other (by omega) _).other (by omega) _⟩
            ((KeepsOthers.setCell _ _ _).trans (KeepsOthers.setCell _ _ _))
            (((Keeps.refl _ _).setBox (w1.heap.size + 1) (fun h => by omega) _).setBox (w1.heap.size + 1 + 1) (fun h => by omega) _)
  case done =>
    rintro D ys W hD rfl ⟨⟨e0, e1, e2, e3, e4⟩, hB, hpl⟩ hK
    rw [upto_length] at hpl
    have hxn : xs.length = a + n := by omega
    rw [hxn] at e0 e1
    have f0 := e0.cell
    have f1 := e1.cell
    have f4 := e4.cell
    have hKb := (belowK_b (w := W0) (n₀ := W0.heap.size) (Nat.le_refl _) W D _ (.deferred none) (by omega) hK rfl rfl).mono (B' := w.heap.size) (by omega)
    have HX := Lib.hid hxn
    have HS := Lib.hid (hs)
    clear hxn
    by_cases hn : n = 0
    · have t1 : (n == 0) = true := by rw [beq_iff_eq]; exact hn
      have t2 : ((n : Int) == 0) = true := by rw [beq_iff_eq]; omega
      have Hn := Lib.hid hn
      clear hn
      gi_wp2
      rw [Exit.noGoto_ret]
      refine ⟨by simp, .inl ⟨_, _, rfl, run_takeDeferred hK, ?_⟩⟩
      exact ⟨_, results_tmp2 rfl _ _ _, by rw [show sp gap xs a n = 0 from by unfold sp; rw [if_pos Hn.out]]; rfl, hB.trans hKb⟩
    · have t1 : (n == 0) = false := by rw [beq_eq_false_iff_ne]; exact hn
      have t2 : ((n : Int) == 0) = false := by rw [beq_eq_false_iff_ne]; omega
      obtain ⟨s1, s2, s3⟩ := sp_float Hr.out hs hn
      have r1 := fun W => run_float_arith (P := Try.prog) W .sub 56 .f64 _ _ _ s1
      have r2 := fun W => run_convert_float_int (P := Try.prog) W 56 2 .f64 .i64 _ _ (by kernel_rfl) Try.underlying2 (Fx.floatToInt_fb s2 s3)
      clear s1 s2 s3
      gi_wp2
      rw [Exit.noGoto_ret]
      refine ⟨by simp, .inl ⟨_, _, rfl, run_takeDeferred hK, ?_⟩⟩
      exact ⟨_, results_tmp2 rfl _ _ _, rfl, hB.trans hKb⟩
  case stop =>
    rintro D c pre W hD ⟨k, hk, rfl⟩ ⟨rfl, ini, last, hpe, hil, ⟨e0, e1, e2, e3, e4⟩, hB, hpl⟩ hK
    obtain ⟨k', rfl⟩ : ∃ k', k = k' + 1 := by
      cases k with
      | zero => simp [upto] at hpe
      | succ k' => exact ⟨k', rfl⟩
    rw [upto_succ] at hpe
    obtain ⟨rfl, -⟩ := List.append_inj' hpe rfl
    rw [upto_length] at hil
    subst hil
    have f0 := e0.cell
    have f1 := e1.cell
    have f4 := e4.cell
    have hKb := (belowK_b (w := W0) (n₀ := W0.heap.size) (Nat.le_refl _) W D _ (.deferred none) (by omega) hK rfl rfl).mono (B' := w.heap.size) (by omega)
    clear hpe hpl
    by_cases hn : n = 0
    · have t1 : (n == 0) = true := by rw [beq_iff_eq]; exact hn
      have t2 : ((n : Int) == 0) = true := by rw [beq_iff_eq]; omega
      have Hn := Lib.hid hn
      clear hn
      gi_wp2
      rw [Exit.noGoto_ret]
      refine ⟨by simp, .inl ⟨_, _, rfl, run_takeDeferred hK, ?_⟩⟩
      exact ⟨_, results_tmp2 rfl _ _ _, by rw [show sp gap xs a n = 0 from by unfold sp; rw [if_pos Hn.out]]; rfl, hB.trans hKb⟩
    · have t1 : (n == 0) = false := by rw [beq_eq_false_iff_ne]; exact hn
      have t2 : ((n : Int) == 0) = false := by rw [beq_eq_false_iff_ne]; omega
      obtain ⟨s1, s2, s3⟩ := sp_float Hr.out hs hn
      have r1 := fun W => run_float_arith (P := Try.prog) W .sub 56 .f64 _ _ _ s1
      have r2 := fun W => run_convert_float_int (P := Try.prog) W 56 2 .f64 .i64 _ _ (by kernel_rfl) Try.underlying2 (Fx.floatToInt_fb s2 s3)
      clear s1 s2 s3
      gi_wp2
      rw [Exit.noGoto_ret]
      refine ⟨by simp, .inl ⟨_, _, rfl, run_takeDeferred hK, ?_⟩⟩
      exact ⟨_, results_tmp2 rfl _ _ _, rfl, hB.trans hKb⟩

end Go.Proofs.Ytnjifmoclfgegaa
