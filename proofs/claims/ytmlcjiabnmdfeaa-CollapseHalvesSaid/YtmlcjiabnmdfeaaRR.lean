/- The reference's Insets and Outer. -/
import Derived.Test.YtmlcjiabnmdfeaaRQ
import Derived.Test.YtmlcjiabnmdfeaaRD
import Derived.Test.YtmlcjiabnmdfeaaAC
import Derived.Test.YtmlcjiabnmdfeaaOrd
namespace Go.Proofs.Ytmlcjiabnmdfeaa
open Go Go.RowKit Go.Shelf CT Ords
set_option linter.unusedVariables false

/-- a list of fours, in a row of the call's own -/
structure GotI (w0 W : World) (u : Value) (l : List I4) : Prop where
  own : W.ownsRow w0.heap.size 52 4 u l.length (GR.flat I4.cells l)
  bl : Below w0.heap.size w0 W
theorem GotI.turn {w0 W W' : World} {u : Value} {l : List I4} (h : GotI w0 W u l) (hb : Below W.heap.size W W') : GotI w0 W' u l := ⟨GR.own_turn h.own hb, h.bl.trans (hb.mono h.bl.size)⟩
theorem GotI.app {w0 W W1 : World} {u v' : Value} {l : List I4} {s : I4} (h : GotI w0 W u l) (ho : W1.ownsRow w0.heap.size 52 4 v' (l.length + 1) (GR.flat I4.cells (l ++ [s]))) (hb : Below w0.heap.size W W1) : GotI w0 W1 v' (l ++ [s]) :=
  ⟨by rw [List.length_append]; exact ho, h.bl.trans hb⟩
theorem four_box (W : World) (s : I4) : Below W.heap.size W (W.alloc (.cells s.arr 52)) ∧ GR.One I4.cells 52 (W.alloc (.cells s.arr 52)) W.heap.size s := ⟨(Below.refl _ _).alloc (Nat.le_refl _) _, GR.One.new (enc := I4.cells) 52 W s⟩
def insTo (f : Fr) (l : List Edge) (k : Nat) : List I4 := (f.pl.take k).map (insetP l)
theorem insTo_next {f : Fr} {l : List Edge} {k : Nat} (hk : k < f.pl.length) : insTo f l (k + 1) = insTo f l k ++ [insetP l (f.pl[k]?.getD default)] := by
  unfold insTo
  rw [List.take_add_one, List.map_append, List.getElem?_eq_getElem hk]
  rfl
theorem insTo_len (f : Fr) (l : List Edge) (k : Nat) : (insTo f l k).length ≤ f.pl.length := by
  unfold insTo
  rw [List.length_map, List.length_take]
  omega

set_option maxRecDepth 100000 in
set_option maxHeartbeats 16000000 in
/-- the reference's Insets -/
theorem c22 (f : Fr) (A : Option Addr) (l : List Edge) (cp : Nat) (w : World) (hI : f.In w) (hok : okFr f = true) (hR : f.R ≤ 8) (hC : f.C ≤ 8) (hx : GR.Many Edge.cells 10 w A l) (hl : l.length ≤ 1000000) (hw : ∀ x ∈ l, x.width ≤ 9223372036854775807) :
    Calls Try.prog 22 #[.agg f.arr, .slice A l.length cp] w fun e w' => ∃ v, e = .returned v ∧ GotI w w' v (insets f l) := by
  have hba : Below w.heap.size w (w.alloc (.cells f.arr 30)) := (Below.refl _ _).alloc (Nat.le_refl _) _
  have HA0 := Lib.hid (Fr.At.new f w)
  have HI0 := Lib.hid (hI.turn hba)
  have HX0 := Lib.hid (hx.below hba)
  have HB0 := Lib.hid hba
  have HPI := Lib.hid (fun k (hk : k < f.pl.length) => place_in hok hR hC hk)
  have HRC : Hid (f.R ≤ 8 ∧ f.C ≤ 8 ∧ f.pl.length ≤ 10) := Lib.hid ⟨hR, hC, hI.len.1⟩
  have H38 := Lib.hid fun lies line fr to fi W hm => c38 A l cp lies line fr to fi W hm hl hw
  obtain ⟨NL, hNL⟩ : ∃ x, l.length = x := ⟨_, rfl⟩
  rw [hNL] at H38 ⊢
  obtain ⟨n, hn⟩ : ∃ x, f.pl.length = x := ⟨_, rfl⟩
  have HN := Lib.hid hn
  have HALL : Hid (insets f l = insTo f l n) := Lib.hid (by unfold insets insTo; rw [← hn, List.take_length])
  obtain ⟨AL, hAL⟩ : ∃ x, insets f l = x := ⟨_, rfl⟩
  rw [hAL] at HALL ⊢
  rw [hn] at HRC
  obtain ⟨pa, hpa⟩ : ∃ x, f.pa = x := ⟨_, rfl⟩
  have HPA := Lib.hid hpa
  clear hba hI hok hR hC hx hl hw hNL hn hAL hpa
  obtain ⟨w1, hw1⟩ : ∃ x, w.alloc (.cells f.arr 30) = x := ⟨_, rfl⟩
  rw [hw1] at HA0 HI0 HX0 HB0
  have HW1 := Lib.hid hw1
  clear hw1
  go_enter Try.func22, Try.ntmps22
  go_wp2_with (fail)
  rw [HW1.out]
  clear HW1
  go_loopw [5, 6] (fun u a wr => ∃ k : Nat, k ≤ n ∧ a = .int .i64 k ∧ Hid (GotI w1 wr u (insTo f l k))) (fun _ a _ => n - (intOf a).toNat)
  case atStart => exact ⟨0, Nat.zero_le _, rfl, Lib.hid ⟨GR.own_nil _ _ _ _, Below.refl _ _⟩⟩
  case round =>
    obtain ⟨k, hk, rfl, HG⟩ := hrel
    obtain ⟨w2, hw2⟩ : ∃ x, x = wr := ⟨_, rfl⟩
    subst hw2
    obtain ⟨u, hu⟩ : ∃ x, x = u5 := ⟨_, rfl⟩
    subst hu
    have p2 : w2.cell? ⟨w.heap.size, 2, none⟩ = some (.slice pa n f.pc) := by rw [← HPA.out, ← HN.out]; exact (HA0.out.turn HG.out.bl).eight.2.2.1
    by_cases hlt : k < n
    · have ti : decide ((k : Int) < (n : Int)) = true := decide_eq_true (by omega)
      obtain ⟨x, b, off, hxk, hA2, hat, _⟩ := (HI0.out.turn HG.out.bl).p.get k (by rw [HN.out]; exact hlt)
      have hpi := HPI.out k (by rw [HN.out]; exact hlt)
      rw [hxk.out] at hpi
      have hnx := insTo_next (f := f) (l := l) (k := k) (by rw [HN.out]; exact hlt)
      rw [hxk.out] at hnx
      unfold insetP boxP at hnx
      rw [halves_side] at hnx
      have hpb := place_box w2 x
      rw [HPA.out] at hA2
      subst hA2
      obtain ⟨x0, x1, x2, x3, x4⟩ := x
      have g0 : w2.cell? ⟨b, off + k * 5, none⟩ = some (.int .i64 x0) := hat 0 _ rfl
      have g1 : w2.cell? ⟨b, off + k * 5 + 1, none⟩ = some (.int .i64 x1) := hat 1 _ rfl
      have g2 : w2.cell? ⟨b, off + k * 5 + 2, none⟩ = some (.int .i64 x2) := hat 2 _ rfl
      have g3 : w2.cell? ⟨b, off + k * 5 + 3, none⟩ = some (.int .i64 x3) := hat 3 _ rfl
      have g4 : w2.cell? ⟨b, off + k * 5 + 4, none⟩ = some (.int .i64 x4) := hat 4 _ rfl
      unfold Place.arr at hpb
      dsimp only at hpb hnx hpi
      have vk : k < n := hlt
      have f9 : IntKind.i64.wrap ((k : Int) + 1) = (k : Int) + 1 := IntWalk.i64_in _ (by have := HRC.out; omega)
      obtain ⟨re, hre⟩ : ∃ q, x1 + x3 = q := ⟨_, rfl⟩
      obtain ⟨ce, hce⟩ : ∃ q, x2 + x4 = q := ⟨_, rfl⟩
      rw [hre, hce] at hnx
      have fr : IntKind.i64.wrap (x1 + x3) = re := by rw [IntWalk.i64_in _ (by have := HRC.out; omega)]; exact hre
      have fc : IntKind.i64.wrap (x2 + x4) = ce := by rw [IntWalk.i64_in _ (by have := HRC.out; omega)]; exact hce
      rw [show (true == true) = true from rfl, show (false == true) = false from rfl] at hnx
      have h0 := H38.out true x1 x2 ce true
      have h1 := H38.out false ce x1 re false
      have h2 := H38.out true re x2 ce false
      have h3 := H38.out false x2 x1 re true
      obtain ⟨s0, hs0⟩ : ∃ q, sideR l true x1 x2 ce true = q := ⟨_, rfl⟩
      obtain ⟨s1, hs1⟩ : ∃ q, sideR l false ce x1 re false = q := ⟨_, rfl⟩
      obtain ⟨s2, hs2⟩ : ∃ q, sideR l true re x2 ce false = q := ⟨_, rfl⟩
      obtain ⟨s3, hs3⟩ : ∃ q, sideR l false x2 x1 re true = q := ⟨_, rfl⟩
      rw [hs0] at h0 hnx
      rw [hs1] at h1 hnx
      rw [hs2] at h2 hnx
      rw [hs3] at h3 hnx
      have HS0 := Lib.hid h0
      have HS1 := Lib.hid h1
      have HS2 := Lib.hid h2
      have HS3 := Lib.hid h3
      have HNX := Lib.hid hnx
      obtain ⟨wp, hwp⟩ : ∃ q, w2.alloc (.cells #[.int .i64 x0, .int .i64 x1, .int .i64 x2, .int .i64 x3, .int .i64 x4] 43) = q := ⟨_, rfl⟩
      rw [hwp] at hpb
      have HGp := Lib.hid (HG.out.turn hpb.1)
      have HP := Lib.hid hpb.2
      have HXp := Lib.hid (HX0.out.below HGp.out.bl)
      have HWP := Lib.hid hwp
      have HLE : Hid ((insTo f l k).length ≤ 999999) := Lib.hid (by have := insTo_len f l k; have := HRC.out; have := HN.out; omega)
      clear hat hxk hpi hnx hpb hre hce h0 h1 h2 h3 hs0 hs1 hs2 hs3 hwp HG
      go_wp2_with (fail)
      rw [HWP.out]
      clear HWP g0 g1 g2 g3 g4 p2 fr fc
      have q1 : Hid (wp.cell? ⟨w2.heap.size, 1, none⟩ = some (.int .i64 x1)) := Lib.hid (cell_of (j := 1) HP.out rfl)
      have q2 : Hid (wp.cell? ⟨w2.heap.size, 2, none⟩ = some (.int .i64 x2)) := Lib.hid (cell_of (j := 2) HP.out rfl)
      refine wp_region_ord 29 [(0, true), (1, true), (2, true), (3, true), (4, true), (5, true), (6, true), (7, true), (8, true), (9, true), (10, true), (11, true), (12, true), (13, true), (14, true), (15, true), (16, true), (17, true), (18, true), (19, true), (20, true), (21, true), (22, true), (23, true), (24, true), (25, true), (26, true), (27, true), (28, false), (29, false), (30, false)] (by kernel_rfl) (by kernel_rfl) ?_
      intro Wc hWc
      iterate 3
        apply OrdAt.op (fun _ _ _ h => h) rfl rfl rfl
        · intro X hB
          go_simp
          try rfl
        · dsimp only [List.set_cons_zero, List.set_cons_succ]
      apply OrdAt.op (fun _ _ _ h => h) rfl rfl rfl
      · intro X hB
        have s := rd (hWc.tr hB) q1.out
        go_simp
        try rfl
      · dsimp only [List.set_cons_zero, List.set_cons_succ]
      apply OrdAt.op (fun _ _ _ h => h) rfl rfl rfl
      · intro X hB
        go_simp
        try rfl
      · dsimp only [List.set_cons_zero, List.set_cons_succ]
      apply OrdAt.op (fun _ _ _ h => h) rfl rfl rfl
      · intro X hB
        have s := rd (hWc.tr hB) q2.out
        go_simp
        try rfl
      · dsimp only [List.set_cons_zero, List.set_cons_succ]
      apply OrdAt.op (fun _ _ _ h => h) rfl rfl rfl
      · intro X hB
        go_simp
        try rfl
      · dsimp only [List.set_cons_zero, List.set_cons_succ]
      apply OrdAt.call (fun _ _ _ h => h) rfl rfl rfl
      · intro X hB
        go_simp
        first | exact ⟨rfl, rfl⟩ | rfl
      · intro X hB
        refine (HS0.out X (HXp.out.below (hWc.tr hB))).mono ?_; rintro e W1 ⟨rfl, rfl⟩; exact ⟨rfl, Below.refl _ _⟩
      · dsimp only [List.set_cons_zero, List.set_cons_succ]
      iterate 3
        apply OrdAt.op (fun _ _ _ h => h) rfl rfl rfl
        · intro X hB
          go_simp
          try rfl
        · dsimp only [List.set_cons_zero, List.set_cons_succ]
      apply OrdAt.op (fun _ _ _ h => h) rfl rfl rfl
      · intro X hB
        have s := rd (hWc.tr hB) q1.out
        go_simp
        try rfl
      · dsimp only [List.set_cons_zero, List.set_cons_succ]
      apply OrdAt.op (fun _ _ _ h => h) rfl rfl rfl
      · intro X hB
        go_simp
        try rfl
      · dsimp only [List.set_cons_zero, List.set_cons_succ]
      apply OrdAt.call (fun _ _ _ h => h) rfl rfl rfl
      · intro X hB
        go_simp
        first | exact ⟨rfl, rfl⟩ | rfl
      · intro X hB
        refine (HS1.out X (HXp.out.below (hWc.tr hB))).mono ?_; rintro e W1 ⟨rfl, rfl⟩; exact ⟨rfl, Below.refl _ _⟩
      · dsimp only [List.set_cons_zero, List.set_cons_succ]
      iterate 3
        apply OrdAt.op (fun _ _ _ h => h) rfl rfl rfl
        · intro X hB
          go_simp
          try rfl
        · dsimp only [List.set_cons_zero, List.set_cons_succ]
      apply OrdAt.op (fun _ _ _ h => h) rfl rfl rfl
      · intro X hB
        have s := rd (hWc.tr hB) q2.out
        go_simp
        try rfl
      · dsimp only [List.set_cons_zero, List.set_cons_succ]
      apply OrdAt.op (fun _ _ _ h => h) rfl rfl rfl
      · intro X hB
        go_simp
        try rfl
      · dsimp only [List.set_cons_zero, List.set_cons_succ]
      apply OrdAt.call (fun _ _ _ h => h) rfl rfl rfl
      · intro X hB
        go_simp
        first | exact ⟨rfl, rfl⟩ | rfl
      · intro X hB
        refine (HS2.out X (HXp.out.below (hWc.tr hB))).mono ?_; rintro e W1 ⟨rfl, rfl⟩; exact ⟨rfl, Below.refl _ _⟩
      · dsimp only [List.set_cons_zero, List.set_cons_succ]
      iterate 2
        apply OrdAt.op (fun _ _ _ h => h) rfl rfl rfl
        · intro X hB
          go_simp
          try rfl
        · dsimp only [List.set_cons_zero, List.set_cons_succ]
      apply OrdAt.op (fun _ _ _ h => h) rfl rfl rfl
      · intro X hB
        have s := rd (hWc.tr hB) q2.out
        go_simp
        try rfl
      · dsimp only [List.set_cons_zero, List.set_cons_succ]
      apply OrdAt.op (fun _ _ _ h => h) rfl rfl rfl
      · intro X hB
        go_simp
        try rfl
      · dsimp only [List.set_cons_zero, List.set_cons_succ]
      apply OrdAt.op (fun _ _ _ h => h) rfl rfl rfl
      · intro X hB
        have s := rd (hWc.tr hB) q1.out
        go_simp
        try rfl
      · dsimp only [List.set_cons_zero, List.set_cons_succ]
      apply OrdAt.op (fun _ _ _ h => h) rfl rfl rfl
      · intro X hB
        go_simp
        try rfl
      · dsimp only [List.set_cons_zero, List.set_cons_succ]
      apply OrdAt.call (fun _ _ _ h => h) rfl rfl rfl
      · intro X hB
        go_simp
        first | exact ⟨rfl, rfl⟩ | rfl
      · intro X hB
        refine (HS3.out X (HXp.out.below (hWc.tr hB))).mono ?_; rintro e W1 ⟨rfl, rfl⟩; exact ⟨rfl, Below.refl _ _⟩
      · dsimp only [List.set_cons_zero, List.set_cons_succ]
      apply OrdAt.op (fun _ _ _ h => h) rfl rfl rfl
      · intro X hB
        go_simp
        try rfl
      · dsimp only [List.set_cons_zero, List.set_cons_succ]
      refine OrdAt.seq rfl rfl ?_
      intro X hB
      go_wp2_with (fail)
      refine ⟨.inr ((Below.refl _ _).alloc (Nat.le_refl _) _), ?_⟩
      have hbx := hWc.tr hB
      have hsb := four_box X ⟨s0, s1, s2, s3⟩
      unfold I4.arr at hsb
      dsimp only at hsb
      have HG5 := Lib.hid (HGp.out.turn (hbx.trans (hsb.1.mono hbx.size)))
      have HM := Lib.hid hsb.2
      clear hbx hsb hB hWc
      generalize X.alloc (.cells #[.int .i64 s0, .int .i64 s1, .int .i64 s2, .int .i64 s3] 52) = Y at *
      generalize X.heap.size = M at *
      refine OrdAt.seq rfl rfl ?_
      intro X hB
      have hG5 := HG5.out.turn hB
      refine GR.wp_app_one I4.len I4.one (by decide) (T := 49) (e := 52) (bytes := 32) (by kernel_rfl) info52 rfl w1.heap.size _ _ rfl _ _ _ rfl hG5.own M 1 _ rfl (HM.out.turn hB) HLE.out (by decide) hG5.bl.size ?_
      intro v' W1 h1 h2 h3
      have H1 : Hid (GotI w1 W1 v' (insTo f l k ++ [⟨s0, s1, s2, s3⟩])) := Lib.hid (hG5.app h1 h2)
      refine ⟨.inl (by decide), ?_⟩
      clear h1 h2 h3 hG5 hB
      simp only [Act.put, List.setIfInBounds_toArray, List.set_cons_zero, List.set_cons_succ]
      refine OrdAt.seq rfl rfl ?_
      intro X hB
      have HE := Lib.hid (H1.out.turn hB)
      clear hB
      go_wp2_with (fail)
      refine ⟨.inl (by decide), OrdAt.done ?_⟩
      intro W9 hW9
      have HE9 := Lib.hid (HE.out.turn hW9)
      clear hW9 HE
      go_wp2_with (fail)
      go_roundw
      case rel => exact ⟨k + 1, by omega, by go_num, Lib.hid (by rw [HNX.out]; exact HE9.out)⟩
      case measure => simp [intOf]; omega
    · obtain rfl : k = n := by omega
      have ti : decide ((k : Int) < (k : Int)) = false := decide_eq_false (by omega)
      go_wp2_with (fail)
      go_ret
      exact ⟨_, rfl, by rw [HALL.out]; exact ⟨GR.own_base HG.out.own HB0.out.size, HB0.out.trans (HG.out.bl.mono HB0.out.size)⟩⟩

theorem res23 {tmps : Array Value} {W : World} {H : Nat} {x : I4} (h2 : tmps[4]?.getD undef = .pointer (some ⟨H, 0, none⟩)) (h : W.heap[H]? = some (.cells x.arr 52 (0, 0))) :
    (results Try.f23 tmps).run Try.prog W = .ok (.agg x.arr) W := by
  have c0 : W.cell? ⟨H, 0, none⟩ = some (.int .i64 x.a) := cell_of h rfl
  have c1 : W.cell? ⟨H, 1, none⟩ = some (.int .i64 x.b) := cell_of h rfl
  have c2 : W.cell? ⟨H, 2, none⟩ = some (.int .i64 x.c) := cell_of h rfl
  have c3 : W.cell? ⟨H, 3, none⟩ = some (.int .i64 x.d) := cell_of h rfl
  simp [results, Try.results23, go_sem, h2, c0, c1, c2, c3, I4.arr]

set_option maxRecDepth 100000 in
set_option maxHeartbeats 16000000 in
/-- the reference's Outer -/
theorem c23 (f : Fr) (A : Option Addr) (l : List Edge) (cp : Nat) (w : World) (hx : GR.Many Edge.cells 10 w A l) (hl : l.length ≤ 1000000) (hw : ∀ x ∈ l, x.width ≤ 9223372036854775807) :
    Calls Try.prog 23 #[.agg f.arr, .slice A l.length cp] w fun e w' => e = .returned (.agg (outer4 f l).arr) ∧ Below w.heap.size w w' := by
  obtain ⟨w1, hw1⟩ : ∃ x, (w.alloc (.cells f.arr 30)).alloc (.cells #[.int .i64 0, .int .i64 0, .int .i64 0, .int .i64 0] 52) = x := ⟨_, rfl⟩
  have z1 : (w.alloc (.cells f.arr 30)).heap.size = w.heap.size + 1 := alloc_size rfl _
  have hA : f.At w1 w.heap.size := by rw [← hw1]; exact ⟨alloc_keep z1 (alloc_here rfl _ _) _⟩
  have hO : w1.heap[w.heap.size + 1]? = some (.cells (⟨0, 0, 0, 0⟩ : I4).arr 52 (0, 0)) := by rw [← hw1]; exact alloc_here z1 _ _
  have hb1 : Below w.heap.size w w1 := by rw [← hw1]; exact ((Below.refl _ _).alloc (Nat.le_refl _) _).alloc (by rw [z1]; omega) _
  have P0 := Lib.hid hA.eight.1
  have P1 := Lib.hid hA.eight.2.1
  have HO := Lib.hid hO
  have HB1 := Lib.hid hb1
  have HX := Lib.hid (hx.below hb1)
  have HW1 := Lib.hid hw1
  have H38 := Lib.hid fun lies line fr to fi W hm => c38 A l cp lies line fr to fi W hm hl hw
  have h4 : outer4 f l = ⟨sideR l true 0 0 f.C false, sideR l false f.C 0 f.R true, sideR l true f.R 0 f.C true, sideR l false 0 0 f.R false⟩ := by unfold outer4; rw [halves_side]; rfl
  rw [h4]
  obtain ⟨NL, hNL⟩ : ∃ x, l.length = x := ⟨_, rfl⟩
  rw [hNL] at H38 ⊢
  obtain ⟨fR, hfR⟩ : ∃ x, f.R = x := ⟨_, rfl⟩
  obtain ⟨fC, hfC⟩ : ∃ x, f.C = x := ⟨_, rfl⟩
  rw [hfR] at P0
  rw [hfC] at P1
  rw [hfR, hfC]
  have h0 := H38.out true 0 0 fC false
  have h1 := H38.out false fC 0 fR true
  have h2 := H38.out true fR 0 fC true
  have h3 := H38.out false 0 0 fR false
  obtain ⟨s0, hs0⟩ : ∃ q, sideR l true 0 0 fC false = q := ⟨_, rfl⟩
  obtain ⟨s1, hs1⟩ : ∃ q, sideR l false fC 0 fR true = q := ⟨_, rfl⟩
  obtain ⟨s2, hs2⟩ : ∃ q, sideR l true fR 0 fC true = q := ⟨_, rfl⟩
  obtain ⟨s3, hs3⟩ : ∃ q, sideR l false 0 0 fR false = q := ⟨_, rfl⟩
  rw [hs0] at h0 ⊢
  rw [hs1] at h1 ⊢
  rw [hs2] at h2 ⊢
  rw [hs3] at h3 ⊢
  have HS0 := Lib.hid h0
  have HS1 := Lib.hid h1
  have HS2 := Lib.hid h2
  have HS3 := Lib.hid h3
  clear hx hl hw hw1 z1 hA hO hb1 h4 hNL h0 h1 h2 h3 hs0 hs1 hs2 hs3 hfR hfC
  go_enter Try.func23, Try.ntmps23
  go_wp2_with (fail)
  rw [HW1.out]
  clear HW1
  refine wp_region_ord 21 [(0, true), (1, true), (2, true), (3, true), (4, true), (5, true), (6, true), (7, true), (8, true), (9, true), (10, true), (11, true), (12, true), (13, true), (14, true), (15, true), (16, true), (17, true), (18, true), (19, true), (20, true), (21, false)] (by kernel_rfl) (by kernel_rfl) ?_
  intro Wc hWc
  iterate 2
    apply OrdAt.op (fun _ _ _ h => h) rfl rfl rfl
    · intro X hB
      go_simp
      try rfl
    · dsimp only [List.set_cons_zero, List.set_cons_succ]
  apply OrdAt.op (fun _ _ _ h => h) rfl rfl rfl
  · intro X hB
    have s := rd (hWc.tr hB) P1.out
    go_simp
    try rfl
  · dsimp only [List.set_cons_zero, List.set_cons_succ]
  apply OrdAt.call (fun _ _ _ h => h) rfl rfl rfl
  · intro X hB
    go_simp
    first | exact ⟨rfl, rfl⟩ | rfl
  · intro X hB
    refine (HS0.out X (HX.out.below (hWc.tr hB))).mono ?_; rintro e W1 ⟨rfl, rfl⟩; exact ⟨rfl, Below.refl _ _⟩
  · dsimp only [List.set_cons_zero, List.set_cons_succ]
  iterate 2
    apply OrdAt.op (fun _ _ _ h => h) rfl rfl rfl
    · intro X hB
      go_simp
      try rfl
    · dsimp only [List.set_cons_zero, List.set_cons_succ]
  apply OrdAt.op (fun _ _ _ h => h) rfl rfl rfl
  · intro X hB
    have s := rd (hWc.tr hB) P1.out
    go_simp
    try rfl
  · dsimp only [List.set_cons_zero, List.set_cons_succ]
  apply OrdAt.op (fun _ _ _ h => h) rfl rfl rfl
  · intro X hB
    go_simp
    try rfl
  · dsimp only [List.set_cons_zero, List.set_cons_succ]
  apply OrdAt.op (fun _ _ _ h => h) rfl rfl rfl
  · intro X hB
    have s := rd (hWc.tr hB) P0.out
    go_simp
    try rfl
  · dsimp only [List.set_cons_zero, List.set_cons_succ]
  apply OrdAt.call (fun _ _ _ h => h) rfl rfl rfl
  · intro X hB
    go_simp
    first | exact ⟨rfl, rfl⟩ | rfl
  · intro X hB
    refine (HS1.out X (HX.out.below (hWc.tr hB))).mono ?_; rintro e W1 ⟨rfl, rfl⟩; exact ⟨rfl, Below.refl _ _⟩
  · dsimp only [List.set_cons_zero, List.set_cons_succ]
  iterate 2
    apply OrdAt.op (fun _ _ _ h => h) rfl rfl rfl
    · intro X hB
      go_simp
      try rfl
    · dsimp only [List.set_cons_zero, List.set_cons_succ]
  apply OrdAt.op (fun _ _ _ h => h) rfl rfl rfl
  · intro X hB
    have s := rd (hWc.tr hB) P0.out
    go_simp
    try rfl
  · dsimp only [List.set_cons_zero, List.set_cons_succ]
  apply OrdAt.op (fun _ _ _ h => h) rfl rfl rfl
  · intro X hB
    go_simp
    try rfl
  · dsimp only [List.set_cons_zero, List.set_cons_succ]
  apply OrdAt.op (fun _ _ _ h => h) rfl rfl rfl
  · intro X hB
    have s := rd (hWc.tr hB) P1.out
    go_simp
    try rfl
  · dsimp only [List.set_cons_zero, List.set_cons_succ]
  apply OrdAt.call (fun _ _ _ h => h) rfl rfl rfl
  · intro X hB
    go_simp
    first | exact ⟨rfl, rfl⟩ | rfl
  · intro X hB
    refine (HS2.out X (HX.out.below (hWc.tr hB))).mono ?_; rintro e W1 ⟨rfl, rfl⟩; exact ⟨rfl, Below.refl _ _⟩
  · dsimp only [List.set_cons_zero, List.set_cons_succ]
  iterate 2
    apply OrdAt.op (fun _ _ _ h => h) rfl rfl rfl
    · intro X hB
      go_simp
      try rfl
    · dsimp only [List.set_cons_zero, List.set_cons_succ]
  apply OrdAt.op (fun _ _ _ h => h) rfl rfl rfl
  · intro X hB
    have s := rd (hWc.tr hB) P0.out
    go_simp
    try rfl
  · dsimp only [List.set_cons_zero, List.set_cons_succ]
  apply OrdAt.call (fun _ _ _ h => h) rfl rfl rfl
  · intro X hB
    go_simp
    first | exact ⟨rfl, rfl⟩ | rfl
  · intro X hB
    refine (HS3.out X (HX.out.below (hWc.tr hB))).mono ?_; rintro e W1 ⟨rfl, rfl⟩; exact ⟨rfl, Below.refl _ _⟩
  · dsimp only [List.set_cons_zero, List.set_cons_succ]
  apply OrdAt.op (fun _ _ _ h => h) rfl rfl rfl
  · intro X hB
    go_simp
    try rfl
  · dsimp only [List.set_cons_zero, List.set_cons_succ]
  refine OrdAt.seq rfl rfl ?_
  intro X hB
  have hO5 := ((hWc.tr hB).block _ (Array.getElem?_eq_some_iff.1 HO.out).1).trans HO.out
  have hB5 := HB1.out.trans ((hWc.tr hB).mono HB1.out.size)
  refine wp_store (B := w.heap.size + 1) (old := (⟨0, 0, 0, 0⟩ : I4).arr) (cs := (⟨s0, s1, s2, s3⟩ : I4).arr) rfl rfl rfl hO5 (size52' _) rfl (I4.one' _) ?_
  have HR : Hid ((X.setRow (w.heap.size + 1) (⟨s0, s1, s2, s3⟩ : I4).arr).heap[w.heap.size + 1]? = some (.cells (⟨s0, s1, s2, s3⟩ : I4).arr 52 (0, 0))) := Lib.hid (setRow_heap _ _ _ _ _ _ hO5)
  have HBR : Hid (Below w.heap.size w (X.setRow (w.heap.size + 1) (⟨s0, s1, s2, s3⟩ : I4).arr)) := Lib.hid (hB5.trans (CT.below_setRow hB5.size (Nat.le_succ _)))
  refine ⟨.inl (by decide), ?_⟩
  clear hO5 hB5 hB hWc
  simp only [Act.put]
  refine OrdAt.done ?_
  intro W9 hW9
  have HR9 := Lib.hid ((hW9.block _ (Array.getElem?_eq_some_iff.1 HR.out).1).trans HR.out)
  have HB9 := Lib.hid (HBR.out.trans (hW9.mono HBR.out.size))
  clear hW9
  go_wp2_with (fail)
  refine ⟨rfl, _, res23 (x := ⟨s0, s1, s2, s3⟩) rfl HR9.out, rfl, HB9.out⟩
end Go.Proofs.Ytmlcjiabnmdfeaa
