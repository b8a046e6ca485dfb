/- What the reference asks for at an edge. -/
import Derived.Test.YtmlcjiabnmdfeaaRH
import Derived.Test.YtmlcjiabnmdfeaaOrd
namespace Go.Proofs.Ytmlcjiabnmdfeaa
open Go Go.RowKit Go.Shelf CT Ords
set_option linter.unusedVariables false

theorem ap_len {α : Type} {l m : List α} {a b : Nat} (h1 : l.length ≤ a) (h2 : m.length ≤ b) : (l ++ m).length ≤ a + b := by rw [List.length_append]; omega
theorem ends_len (st : Bool) (n by_ : Int) (fa ne : Nat) {xs : List Run} (h : xs.length ≤ 10) : (xs.flatMap (endsRun st n by_ fa ne)).length ≤ 20 := by
  have := flat_le (F := endsRun st n by_ fa ne) (l := xs) fun x _ => endsRun_len st n by_ fa ne x
  omega
theorem over_len (col : Bool) (m : Int) (line : Nat) (by_ : Int) {xs : List Run} (h : xs.length ≤ 10) : (xs.flatMap (overRun col m line by_)).length ≤ 10 := by
  have := flat_le (F := overRun col m line by_) (c := 1) (l := xs) fun x _ => by unfold overRun; split <;> simp
  omega
/-- what is asked for at the rim -/
def rimTo (f : Fr) (st : Bool) (m : Int) (line : Nat) (l : List CT.Side) : List CT.Side := ((l ++ ((ovr f st)[0]?.getD default).1.flatMap (overRun (!st) m line ((ovr f st)[0]?.getD default).2)) ++ ((ovr f st)[1]?.getD default).1.flatMap (overRun (!st) m line ((ovr f st)[1]?.getD default).2)) ++ [tableSide f line]
def betw (f : Fr) (st : Bool) (n a b : Int) : List CT.Side := ((cellAsk f a (aheadOf st) ++ cellAsk f b (behindOf st)) ++ ((btw f st)[0]?.getD default).1.flatMap (endsRun st n ((btw f st)[0]?.getD default).2 (aheadOf st) (behindOf st))) ++ ((btw f st)[1]?.getD default).1.flatMap (endsRun st n ((btw f st)[1]?.getD default).2 (aheadOf st) (behindOf st))
theorem rimTo_eq (f : Fr) (st : Bool) (m : Int) (line : Nat) (l : List CT.Side) : rimTo f st m line l = l ++ rim f st m line := by
  unfold rimTo rim
  rw [overRun_rim, overRun_rim]
  cases st <;> simp [ovr, btw, List.append_assoc]
theorem asked_eq (f : Fr) (st : Bool) (n m a b : Int) : asked f st n m a b = (let l := betw f st n a b; let l2 := if n = 0 then rimTo f st m (behindOf st) l else l; if n = lastOf f st then rimTo f st m (aheadOf st) l2 else l2) := by
  have hb : betw f st n a b = cellAsk f a (aheadOf st) ++ (cellAsk f b (behindOf st) ++ askBtw f st n) := by
    unfold betw askBtw
    rw [endsRun_ask, endsRun_ask]
    cases st <;> simp [btw, List.append_assoc]
  dsimp only
  unfold asked
  rw [hb]
  by_cases h1 : n = 0
  · rw [if_pos h1, if_pos h1]
    by_cases h2 : n = lastOf f st
    · rw [if_pos h2, if_pos h2, rimTo_eq, rimTo_eq]; simp [List.append_assoc]
    · rw [if_neg h2, if_neg h2, rimTo_eq]; simp [List.append_assoc]
  · rw [if_neg h1, if_neg h1]
    by_cases h2 : n = lastOf f st
    · rw [if_pos h2, if_pos h2, rimTo_eq]; simp [List.append_assoc]
    · rw [if_neg h2, if_neg h2]; simp

theorem Got.base {w0 w1 W : World} {u : Value} {l : List CT.Side} (h : Got w1 W u l) (hb : Below w0.heap.size w0 w1) : Got w0 W u l := ⟨GR.own_base h.own hb.size, hb.trans (h.bl.mono hb.size)⟩

set_option maxRecDepth 100000 in
set_option maxHeartbeats 16000000 in
/-- the reference's lying -/
theorem c34 (f : Fr) (base : Nat) (v : Value) (vs : Nat → Value) (r c : Int) (w : World) (hI : f.In w) (hT : TabR w base v f.R.toNat vs (fun _ => f.C.toNat) (whoTo f.pl f.pl.length)) (h0 : (0 ≤ f.R ∧ 0 ≤ f.C) ∧ f.R ≤ 8 ∧ f.C ≤ 8) (hlen : f.cl.length = f.pl.length) (hr : 0 ≤ r ∧ r ≤ 8) (hc : 0 ≤ c ∧ c ≤ 8) :
    Calls Try.prog 34 #[.agg f.arr, v, .int .i64 r, .int .i64 c] w fun e w' => ∃ u, e = .returned u ∧ Got w w' u (asked f false r c (who f (r - 1) c) (who f r c)) := by
  have hba : Below w.heap.size w (w.alloc (.cells f.arr 30)) := (Below.refl _ _).alloc (Nat.le_refl _) _
  have HA := Lib.hid (Fr.At.new f w)
  have HI1 := Lib.hid (hI.turn hba)
  have HT1 := Lib.hid (hT.turn hba)
  have HB1 := Lib.hid hba
  have HI := Lib.hid hI
  have H0 := Lib.hid h0
  have HL := Lib.hid hlen
  have HLn := Lib.hid hI.len
  have fs : IntKind.i64.wrap (r - 1) = r - 1 := IntWalk.i64_in _ (by omega)
  obtain ⟨Av, cv, hv⟩ := own_slice hT.own
  subst hv
  obtain ⟨wa, hwa⟩ : ∃ x, (who f (r - 1) c) = x := ⟨_, rfl⟩
  obtain ⟨wb, hwb⟩ : ∃ x, who f r c = x := ⟨_, rfl⟩
  have HA0 : Hid (∀ W, TabR W base (.slice Av f.R.toNat cv) f.R.toNat vs (fun _ => f.C.toNat) (whoTo f.pl f.pl.length) → Calls Try.prog 33 #[.slice Av f.R.toNat cv, .int .i64 (r - 1), .int .i64 c] W fun e W' => e = .returned (.int .i64 wa) ∧ W = W') := Lib.hid fun W h => by rw [← hwa]; exact c33 f base _ vs _ _ W h h0
  have HB0 : Hid (∀ W, TabR W base (.slice Av f.R.toNat cv) f.R.toNat vs (fun _ => f.C.toNat) (whoTo f.pl f.pl.length) → Calls Try.prog 33 #[.slice Av f.R.toNat cv, .int .i64 r, .int .i64 c] W fun e W' => e = .returned (.int .i64 wb) ∧ W = W') := Lib.hid fun W h => by rw [← hwb]; exact c33 f base _ vs _ _ W h h0
  have HWL : Hid (wa < f.pl.length ∧ wb < f.pl.length) := Lib.hid ⟨by rw [← hwa]; exact who_lt f _ _, by rw [← hwb]; exact who_lt f _ _⟩
  rw [hwa, hwb]
  obtain ⟨AL, hAL⟩ : ∃ x, asked f false r c wa wb = x := ⟨_, rfl⟩
  have HAL : Hid (AL = if r = lastOf f false then rimTo f false c (aheadOf false) (if r = 0 then rimTo f false c (behindOf false) (betw f false r wa wb) else betw f false r wa wb) else (if r = 0 then rimTo f false c (behindOf false) (betw f false r wa wb) else betw f false r wa wb)) := Lib.hid (by rw [← hAL, asked_eq])
  rw [hAL]
  clear hAL
  have HSZ : Hid (w.heap.size < (w.alloc (.cells f.arr 30)).heap.size) := Lib.hid (by simp)
  obtain ⟨w1, hw1⟩ : ∃ x, w.alloc (.cells f.arr 30) = x := ⟨_, rfl⟩
  have HW1 := Lib.hid hw1
  rw [hw1] at HA HI1 HT1 HB1 HSZ
  obtain ⟨R0, hR0⟩ : ∃ x, f.R.toNat = x := ⟨_, rfl⟩
  clear hI hT h0 hlen hba hwa hwb hw1 hR0
  go_enter Try.func34, Try.ntmps34
  go_wp2_with (fail)
  rw [HW1.out]
  clear HW1
  have HG0 := Lib.hid (Got.nil (Below.refl w1.heap.size w1))
  have HN0 : Hid (([] : List CT.Side).length ≤ 0) := Lib.hid (Nat.le_refl _)
  refine wp_region_ord 6 [(0, true), (1, true), (2, true), (3, true), (4, true), (5, true), (6, false), (7, false)] (by kernel_rfl) (by kernel_rfl) ?_
  intro Wc hWc
  apply OrdAt.op (fun _ _ _ h => h) rfl rfl rfl
  · intro X hB
    exact exec_load (cs := f.arr) (fr := (0, 0)) _ rfl rfl (HA.out.turn (HG0.out.bl.trans ((hWc.tr hB).mono HG0.out.bl.size))).at_ Try.underlying30 rfl (size30 f)
  · dsimp only [List.set_cons_zero, List.set_cons_succ]
  iterate 4
    apply OrdAt.op (fun _ _ _ h => h) rfl rfl rfl
    · intro X hB
      go_simp
      try rfl
    · dsimp only [List.set_cons_zero, List.set_cons_succ]
  apply OrdAt.call (fun _ _ _ h => h) rfl rfl rfl
  · intro X hB
    go_simp
    first | exact ⟨rfl, rfl⟩ | rfl
  · intro X hB
    refine (HA0.out X (HT1.out.turn (HG0.out.bl.trans ((hWc.tr hB).mono HG0.out.bl.size)))).mono ?_; rintro e W1 ⟨rfl, rfl⟩; exact ⟨rfl, Below.refl _ _⟩
  · dsimp only [List.set_cons_zero, List.set_cons_succ]
  refine OrdAt.seq rfl rfl ?_
  intro X hB
  go_wp2_with (fail)
  refine (c54 f wa 2 (.slice none 0 0) _ w1 X HI1.out (HG0.out.turn (hWc.tr hB)) (by decide) HWL.out.1 HL.out (Nat.le_trans HN0.out (by decide))).mono ?_
  rintro e W1 ⟨u1, rfl, hg⟩
  refine ⟨.inl (by decide), ?_⟩
  have HGi := Lib.hid hg
  clear hg hB hWc
  refine OrdAt.seq rfl rfl ?_
  intro X hB
  have HGj := Lib.hid (HGi.out.turn hB)
  clear hB HGi HG0
  go_wp2_with (fail)
  refine ⟨.inl (by decide), OrdAt.done ?_⟩
  intro W9 hW9
  have HG0 := Lib.hid (HGj.out.turn hW9)
  clear hW9 HGj
  have HN1 := Lib.hid (ap_len HN0.out (cellAsk_len f wa 2))
  go_wp2_with (fail)
  refine wp_region_ord 6 [(0, true), (1, true), (2, true), (3, true), (4, true), (5, true), (6, false), (7, false)] (by kernel_rfl) (by kernel_rfl) ?_
  intro Wc hWc
  apply OrdAt.op (fun _ _ _ h => h) rfl rfl rfl
  · intro X hB
    go_simp
    try rfl
  · dsimp only [List.set_cons_zero, List.set_cons_succ]
  apply OrdAt.op (fun _ _ _ h => h) rfl rfl rfl
  · intro X hB
    exact exec_load (cs := f.arr) (fr := (0, 0)) _ rfl rfl (HA.out.turn (HG0.out.bl.trans ((hWc.tr hB).mono HG0.out.bl.size))).at_ Try.underlying30 rfl (size30 f)
  · dsimp only [List.set_cons_zero, List.set_cons_succ]
  iterate 3
    apply OrdAt.op (fun _ _ _ h => h) rfl rfl rfl
    · intro X hB
      go_simp
      try rfl
    · dsimp only [List.set_cons_zero, List.set_cons_succ]
  apply OrdAt.call (fun _ _ _ h => h) rfl rfl rfl
  · intro X hB
    go_simp
    first | exact ⟨rfl, rfl⟩ | rfl
  · intro X hB
    refine (HB0.out X (HT1.out.turn (HG0.out.bl.trans ((hWc.tr hB).mono HG0.out.bl.size)))).mono ?_; rintro e W1 ⟨rfl, rfl⟩; exact ⟨rfl, Below.refl _ _⟩
  · dsimp only [List.set_cons_zero, List.set_cons_succ]
  refine OrdAt.seq rfl rfl ?_
  intro X hB
  go_wp2_with (fail)
  refine (c54 f wb 0 u1 _ w1 X HI1.out (HG0.out.turn (hWc.tr hB)) (by decide) HWL.out.2 HL.out (Nat.le_trans HN1.out (by decide))).mono ?_
  rintro e W1 ⟨u2, rfl, hg⟩
  refine ⟨.inl (by decide), ?_⟩
  have HGi := Lib.hid hg
  clear hg hB hWc
  refine OrdAt.seq rfl rfl ?_
  intro X hB
  have HGj := Lib.hid (HGi.out.turn hB)
  clear hB HGi HG0
  go_wp2_with (fail)
  refine ⟨.inl (by decide), OrdAt.done ?_⟩
  intro W9 hW9
  have HG0 := Lib.hid (HGj.out.turn hW9)
  clear hW9 HGj
  have HN2 := Lib.hid (ap_len HN1.out (cellAsk_len f wb 0))
  have HG2 := HG0
  clear HG0 fs HA0 HB0 HT1
  obtain ⟨p0, p1, p2, p3, p4, p5, p6, p7⟩ := (HA.out.turn HG2.out.bl).eight
  go_wp2_with (fail)
  refine (c55 false f.ra f.rl f.rc r 1 2 0 u2 _ w1 _ HI1.out.r (by have := HLn.out.2.2.1; omega) HG2.out (by decide) (by decide) (Nat.le_trans HN2.out (by decide))).mono ?_
  rintro e Wc3 ⟨u3, rfl, hg⟩
  have HG3 := Lib.hid hg
  clear hg p0 p1 p2 p3 p4 p5 p6 p7
  have HN3 := Lib.hid (ap_len HN2.out (ends_len false r 1 2 0 HLn.out.2.2.1))
  obtain ⟨p0, p1, p2, p3, p4, p5, p6, p7⟩ := (HA.out.turn HG3.out.bl).eight
  go_wp2_with (fail)
  refine (c55 false f.ga f.gl f.gc r 2 2 0 u3 _ w1 _ HI1.out.g (by have := HLn.out.2.2.2.1; omega) HG3.out (by decide) (by decide) (Nat.le_trans HN3.out (by decide))).mono ?_
  rintro e Wc4 ⟨u4, rfl, hg⟩
  have HG4 := Lib.hid hg
  clear hg p0 p1 p2 p3 p4 p5 p6 p7
  have HN4 := Lib.hid (ap_len HN3.out (ends_len false r 2 2 0 HLn.out.2.2.2.1))
  by_cases z0 : r = 0
  · by_cases zl : r = f.R
    · skip
      subst z0
      have z0 : (0 : Int) = 0 := rfl
      have tl : ((0 : Int) == f.R) = true := beq_iff_eq.2 zl
      have Z0 := Lib.hid z0
      have ZL := Lib.hid zl
      clear z0 zl
      obtain ⟨p0, p1, p2, p3, p4, p5, p6, p7⟩ := (HA.out.turn HG4.out.bl).eight
      go_wp2_with (fail)
      refine (c56 true f.ka f.kl f.kc c 3 0 u4 _ w1 _ HI1.out.k (by have := HLn.out.2.2.2.2.1; omega) HG4.out (by decide) (Nat.le_trans HN4.out (by decide))).mono ?_
      rintro e Wc5 ⟨u5, rfl, hg⟩
      have HG5 := Lib.hid hg
      clear hg p0 p1 p2 p3 p4 p5 p6 p7
      have HN5 := Lib.hid (ap_len HN4.out (over_len true c 0 3 HLn.out.2.2.2.2.1))
      obtain ⟨p0, p1, p2, p3, p4, p5, p6, p7⟩ := (HA.out.turn HG5.out.bl).eight
      go_wp2_with (fail)
      refine (c56 true f.ha f.hl f.hc c 4 0 u5 _ w1 _ HI1.out.h (by have := HLn.out.2.2.2.2.2; omega) HG5.out (by decide) (Nat.le_trans HN5.out (by decide))).mono ?_
      rintro e Wc6 ⟨u6, rfl, hg⟩
      have HG6 := Lib.hid hg
      clear hg p0 p1 p2 p3 p4 p5 p6 p7
      have HN6 := Lib.hid (ap_len HN5.out (over_len true c 0 4 HLn.out.2.2.2.2.2))
      obtain ⟨p0, p1, p2, p3, p4, p5, p6, p7⟩ := (HA.out.turn HG6.out.bl).eight
      have q0 : Wc6.cell? ⟨w.heap.size, 8, none⟩ = some (.int .i64 f.t.a0) := (HA.out.turn HG6.out.bl).table 0 _ rfl
      have q1 : Wc6.cell? ⟨w.heap.size, 9, none⟩ = some (.int .i64 f.t.a1) := (HA.out.turn HG6.out.bl).table 1 _ rfl
      have q2 : Wc6.cell? ⟨w.heap.size, 10, none⟩ = some (.int .u32 f.t.a2) := (HA.out.turn HG6.out.bl).table 2 _ rfl
      have HSB := Lib.hid (side_box Wc6 ⟨f.t.a0, f.t.a1, f.t.a2, 5, 0, 0⟩)
      have HG65 := Lib.hid (HG6.out.turn HSB.out.1)
      go_wp2_with (refine at_dst 52 rfl ?_; go_must ((refine GR.wpList_app_one rfl Side.len Side.one (by decide) (T := 79) (e := 45) (bytes := 48) (by kernel_rfl) info45 rfl w1.heap.size _ _ rfl _ _ _ rfl HG65.out.own Wc6.heap.size 1 _ rfl HSB.out.2 (Nat.le_trans HN6.out (by decide)) (by decide) HG65.out.bl.size ?_); intro u7 Wc7 h1 h2 h3; have HG7 := Lib.hid (HG65.out.app rfl h1 h2); clear h1 h2 h3 q0 q1 q2 p0 p1 p2 p3 p4 p5 p6 p7; obtain ⟨p0, p1, p2, p3, p4, p5, p6, p7⟩ := (HA.out.turn HG7.out.bl).eight))
      have HN7 := Lib.hid (ap_len HN6.out (show ([(⟨f.t.a0, f.t.a1, f.t.a2, 5, 0, 0⟩ : CT.Side)]).length ≤ 1 from Nat.le_refl 1))
      clear p0 p1 p2 p3 p4 p5 p6 p7
      obtain ⟨p0, p1, p2, p3, p4, p5, p6, p7⟩ := (HA.out.turn HG7.out.bl).eight
      go_wp2_with (fail)
      refine (c56 true f.ka f.kl f.kc c 3 2 u7 _ w1 _ HI1.out.k (by have := HLn.out.2.2.2.2.1; omega) HG7.out (by decide) (Nat.le_trans HN7.out (by decide))).mono ?_
      rintro e Wc8 ⟨u8, rfl, hg⟩
      have HG8 := Lib.hid hg
      clear hg p0 p1 p2 p3 p4 p5 p6 p7
      have HN8 := Lib.hid (ap_len HN7.out (over_len true c 2 3 HLn.out.2.2.2.2.1))
      obtain ⟨p0, p1, p2, p3, p4, p5, p6, p7⟩ := (HA.out.turn HG8.out.bl).eight
      go_wp2_with (fail)
      refine (c56 true f.ha f.hl f.hc c 4 2 u8 _ w1 _ HI1.out.h (by have := HLn.out.2.2.2.2.2; omega) HG8.out (by decide) (Nat.le_trans HN8.out (by decide))).mono ?_
      rintro e Wc9 ⟨u9, rfl, hg⟩
      have HG9 := Lib.hid hg
      clear hg p0 p1 p2 p3 p4 p5 p6 p7
      have HN9 := Lib.hid (ap_len HN8.out (over_len true c 2 4 HLn.out.2.2.2.2.2))
      obtain ⟨p0, p1, p2, p3, p4, p5, p6, p7⟩ := (HA.out.turn HG9.out.bl).eight
      have q0 : Wc9.cell? ⟨w.heap.size, 14, none⟩ = some (.int .i64 f.t.c0) := (HA.out.turn HG9.out.bl).table 6 _ rfl
      have q1 : Wc9.cell? ⟨w.heap.size, 15, none⟩ = some (.int .i64 f.t.c1) := (HA.out.turn HG9.out.bl).table 7 _ rfl
      have q2 : Wc9.cell? ⟨w.heap.size, 16, none⟩ = some (.int .u32 f.t.c2) := (HA.out.turn HG9.out.bl).table 8 _ rfl
      have HSB := Lib.hid (side_box Wc9 ⟨f.t.c0, f.t.c1, f.t.c2, 5, 0, 0⟩)
      have HG95 := Lib.hid (HG9.out.turn HSB.out.1)
      go_wp2_with (refine at_dst 73 rfl ?_; go_must ((refine GR.wpList_app_one rfl Side.len Side.one (by decide) (T := 79) (e := 45) (bytes := 48) (by kernel_rfl) info45 rfl w1.heap.size _ _ rfl _ _ _ rfl HG95.out.own Wc9.heap.size 1 _ rfl HSB.out.2 (Nat.le_trans HN9.out (by decide)) (by decide) HG95.out.bl.size ?_); intro u10 Wc10 h1 h2 h3; have HG10 := Lib.hid (HG95.out.app rfl h1 h2); clear h1 h2 h3 q0 q1 q2 p0 p1 p2 p3 p4 p5 p6 p7; obtain ⟨p0, p1, p2, p3, p4, p5, p6, p7⟩ := (HA.out.turn HG10.out.bl).eight))
      have HN10 := Lib.hid (ap_len HN9.out (show ([(⟨f.t.c0, f.t.c1, f.t.c2, 5, 0, 0⟩ : CT.Side)]).length ≤ 1 from Nat.le_refl 1))
      clear p0 p1 p2 p3 p4 p5 p6 p7
      go_ret
      refine ⟨_, rfl, ?_⟩
      rw [HAL.out, if_pos (show 0 = lastOf f false from ZL.out)]
      first | rw [if_pos trivial] | rw [if_pos rfl]
      exact HG10.out.base HB1.out
    · skip
      subst z0
      have z0 : (0 : Int) = 0 := rfl
      have tl : ((0 : Int) == f.R) = false := beq_eq_false_iff_ne.2 zl
      have Z0 := Lib.hid z0
      have ZL := Lib.hid zl
      clear z0 zl
      obtain ⟨p0, p1, p2, p3, p4, p5, p6, p7⟩ := (HA.out.turn HG4.out.bl).eight
      go_wp2_with (fail)
      refine (c56 true f.ka f.kl f.kc c 3 0 u4 _ w1 _ HI1.out.k (by have := HLn.out.2.2.2.2.1; omega) HG4.out (by decide) (Nat.le_trans HN4.out (by decide))).mono ?_
      rintro e Wc5 ⟨u5, rfl, hg⟩
      have HG5 := Lib.hid hg
      clear hg p0 p1 p2 p3 p4 p5 p6 p7
      have HN5 := Lib.hid (ap_len HN4.out (over_len true c 0 3 HLn.out.2.2.2.2.1))
      obtain ⟨p0, p1, p2, p3, p4, p5, p6, p7⟩ := (HA.out.turn HG5.out.bl).eight
      go_wp2_with (fail)
      refine (c56 true f.ha f.hl f.hc c 4 0 u5 _ w1 _ HI1.out.h (by have := HLn.out.2.2.2.2.2; omega) HG5.out (by decide) (Nat.le_trans HN5.out (by decide))).mono ?_
      rintro e Wc6 ⟨u6, rfl, hg⟩
      have HG6 := Lib.hid hg
      clear hg p0 p1 p2 p3 p4 p5 p6 p7
      have HN6 := Lib.hid (ap_len HN5.out (over_len true c 0 4 HLn.out.2.2.2.2.2))
      obtain ⟨p0, p1, p2, p3, p4, p5, p6, p7⟩ := (HA.out.turn HG6.out.bl).eight
      have q0 : Wc6.cell? ⟨w.heap.size, 8, none⟩ = some (.int .i64 f.t.a0) := (HA.out.turn HG6.out.bl).table 0 _ rfl
      have q1 : Wc6.cell? ⟨w.heap.size, 9, none⟩ = some (.int .i64 f.t.a1) := (HA.out.turn HG6.out.bl).table 1 _ rfl
      have q2 : Wc6.cell? ⟨w.heap.size, 10, none⟩ = some (.int .u32 f.t.a2) := (HA.out.turn HG6.out.bl).table 2 _ rfl
      have HSB := Lib.hid (side_box Wc6 ⟨f.t.a0, f.t.a1, f.t.a2, 5, 0, 0⟩)
      have HG65 := Lib.hid (HG6.out.turn HSB.out.1)
      go_wp2_with (refine at_dst 52 rfl ?_; go_must ((refine GR.wpList_app_one rfl Side.len Side.one (by decide) (T := 79) (e := 45) (bytes := 48) (by kernel_rfl) info45 rfl w1.heap.size _ _ rfl _ _ _ rfl HG65.out.own Wc6.heap.size 1 _ rfl HSB.out.2 (Nat.le_trans HN6.out (by decide)) (by decide) HG65.out.bl.size ?_); intro u7 Wc7 h1 h2 h3; have HG7 := Lib.hid (HG65.out.app rfl h1 h2); clear h1 h2 h3 q0 q1 q2 p0 p1 p2 p3 p4 p5 p6 p7; obtain ⟨p0, p1, p2, p3, p4, p5, p6, p7⟩ := (HA.out.turn HG7.out.bl).eight))
      have HN7 := Lib.hid (ap_len HN6.out (show ([(⟨f.t.a0, f.t.a1, f.t.a2, 5, 0, 0⟩ : CT.Side)]).length ≤ 1 from Nat.le_refl 1))
      clear p0 p1 p2 p3 p4 p5 p6 p7
      go_ret
      refine ⟨_, rfl, ?_⟩
      rw [HAL.out, if_neg (show ¬ 0 = lastOf f false from ZL.out)]
      first | rw [if_pos trivial] | rw [if_pos rfl]
      exact HG7.out.base HB1.out
  · by_cases zl : r = f.R
    · skip
      have t0 : (r == 0) = false := beq_eq_false_iff_ne.2 z0
      have tl : (r == f.R) = true := beq_iff_eq.2 zl
      have Z0 := Lib.hid z0
      have ZL := Lib.hid zl
      clear z0 zl
      obtain ⟨p0, p1, p2, p3, p4, p5, p6, p7⟩ := (HA.out.turn HG4.out.bl).eight
      go_wp2_with (fail)
      refine (c56 true f.ka f.kl f.kc c 3 2 u4 _ w1 _ HI1.out.k (by have := HLn.out.2.2.2.2.1; omega) HG4.out (by decide) (Nat.le_trans HN4.out (by decide))).mono ?_
      rintro e Wc5 ⟨u5, rfl, hg⟩
      have HG5 := Lib.hid hg
      clear hg p0 p1 p2 p3 p4 p5 p6 p7
      have HN5 := Lib.hid (ap_len HN4.out (over_len true c 2 3 HLn.out.2.2.2.2.1))
      obtain ⟨p0, p1, p2, p3, p4, p5, p6, p7⟩ := (HA.out.turn HG5.out.bl).eight
      go_wp2_with (fail)
      refine (c56 true f.ha f.hl f.hc c 4 2 u5 _ w1 _ HI1.out.h (by have := HLn.out.2.2.2.2.2; omega) HG5.out (by decide) (Nat.le_trans HN5.out (by decide))).mono ?_
      rintro e Wc6 ⟨u6, rfl, hg⟩
      have HG6 := Lib.hid hg
      clear hg p0 p1 p2 p3 p4 p5 p6 p7
      have HN6 := Lib.hid (ap_len HN5.out (over_len true c 2 4 HLn.out.2.2.2.2.2))
      obtain ⟨p0, p1, p2, p3, p4, p5, p6, p7⟩ := (HA.out.turn HG6.out.bl).eight
      have q0 : Wc6.cell? ⟨w.heap.size, 14, none⟩ = some (.int .i64 f.t.c0) := (HA.out.turn HG6.out.bl).table 6 _ rfl
      have q1 : Wc6.cell? ⟨w.heap.size, 15, none⟩ = some (.int .i64 f.t.c1) := (HA.out.turn HG6.out.bl).table 7 _ rfl
      have q2 : Wc6.cell? ⟨w.heap.size, 16, none⟩ = some (.int .u32 f.t.c2) := (HA.out.turn HG6.out.bl).table 8 _ rfl
      have HSB := Lib.hid (side_box Wc6 ⟨f.t.c0, f.t.c1, f.t.c2, 5, 0, 0⟩)
      have HG65 := Lib.hid (HG6.out.turn HSB.out.1)
      go_wp2_with (refine at_dst 73 rfl ?_; go_must ((refine GR.wpList_app_one rfl Side.len Side.one (by decide) (T := 79) (e := 45) (bytes := 48) (by kernel_rfl) info45 rfl w1.heap.size _ _ rfl _ _ _ rfl HG65.out.own Wc6.heap.size 1 _ rfl HSB.out.2 (Nat.le_trans HN6.out (by decide)) (by decide) HG65.out.bl.size ?_); intro u7 Wc7 h1 h2 h3; have HG7 := Lib.hid (HG65.out.app rfl h1 h2); clear h1 h2 h3 q0 q1 q2 p0 p1 p2 p3 p4 p5 p6 p7; obtain ⟨p0, p1, p2, p3, p4, p5, p6, p7⟩ := (HA.out.turn HG7.out.bl).eight))
      have HN7 := Lib.hid (ap_len HN6.out (show ([(⟨f.t.c0, f.t.c1, f.t.c2, 5, 0, 0⟩ : CT.Side)]).length ≤ 1 from Nat.le_refl 1))
      clear p0 p1 p2 p3 p4 p5 p6 p7
      go_ret
      refine ⟨_, rfl, ?_⟩
      rw [HAL.out, if_pos (show r = lastOf f false from ZL.out)]
      rw [if_neg Z0.out]
      exact HG7.out.base HB1.out
    · skip
      have t0 : (r == 0) = false := beq_eq_false_iff_ne.2 z0
      have tl : (r == f.R) = false := beq_eq_false_iff_ne.2 zl
      have Z0 := Lib.hid z0
      have ZL := Lib.hid zl
      clear z0 zl
      obtain ⟨p0, p1, p2, p3, p4, p5, p6, p7⟩ := (HA.out.turn HG4.out.bl).eight
      go_wp2_with (fail)
      go_ret
      refine ⟨_, rfl, ?_⟩
      rw [HAL.out, if_neg (show ¬ r = lastOf f false from ZL.out)]
      rw [if_neg Z0.out]
      exact HG4.out.base HB1.out
set_option maxRecDepth 100000 in
set_option maxHeartbeats 16000000 in
/-- the reference's standing -/
theorem c36 (f : Fr) (base : Nat) (v : Value) (vs : Nat → Value) (r c : Int) (w : World) (hI : f.In w) (hT : TabR w base v f.R.toNat vs (fun _ => f.C.toNat) (whoTo f.pl f.pl.length)) (h0 : (0 ≤ f.R ∧ 0 ≤ f.C) ∧ f.R ≤ 8 ∧ f.C ≤ 8) (hlen : f.cl.length = f.pl.length) (hr : 0 ≤ r ∧ r ≤ 8) (hc : 0 ≤ c ∧ c ≤ 8) :
    Calls Try.prog 36 #[.agg f.arr, v, .int .i64 r, .int .i64 c] w fun e w' => ∃ u, e = .returned u ∧ Got w w' u (asked f true c r (who f r (c - 1)) (who f r c)) := by
  have hba : Below w.heap.size w (w.alloc (.cells f.arr 30)) := (Below.refl _ _).alloc (Nat.le_refl _) _
  have HA := Lib.hid (Fr.At.new f w)
  have HI1 := Lib.hid (hI.turn hba)
  have HT1 := Lib.hid (hT.turn hba)
  have HB1 := Lib.hid hba
  have HI := Lib.hid hI
  have H0 := Lib.hid h0
  have HL := Lib.hid hlen
  have HLn := Lib.hid hI.len
  have fs : IntKind.i64.wrap (c - 1) = c - 1 := IntWalk.i64_in _ (by omega)
  obtain ⟨Av, cv, hv⟩ := own_slice hT.own
  subst hv
  obtain ⟨wa, hwa⟩ : ∃ x, (who f r (c - 1)) = x := ⟨_, rfl⟩
  obtain ⟨wb, hwb⟩ : ∃ x, who f r c = x := ⟨_, rfl⟩
  have HA0 : Hid (∀ W, TabR W base (.slice Av f.R.toNat cv) f.R.toNat vs (fun _ => f.C.toNat) (whoTo f.pl f.pl.length) → Calls Try.prog 33 #[.slice Av f.R.toNat cv, .int .i64 r, .int .i64 (c - 1)] W fun e W' => e = .returned (.int .i64 wa) ∧ W = W') := Lib.hid fun W h => by rw [← hwa]; exact c33 f base _ vs _ _ W h h0
  have HB0 : Hid (∀ W, TabR W base (.slice Av f.R.toNat cv) f.R.toNat vs (fun _ => f.C.toNat) (whoTo f.pl f.pl.length) → Calls Try.prog 33 #[.slice Av f.R.toNat cv, .int .i64 r, .int .i64 c] W fun e W' => e = .returned (.int .i64 wb) ∧ W = W') := Lib.hid fun W h => by rw [← hwb]; exact c33 f base _ vs _ _ W h h0
  have HWL : Hid (wa < f.pl.length ∧ wb < f.pl.length) := Lib.hid ⟨by rw [← hwa]; exact who_lt f _ _, by rw [← hwb]; exact who_lt f _ _⟩
  rw [hwa, hwb]
  obtain ⟨AL, hAL⟩ : ∃ x, asked f true c r wa wb = x := ⟨_, rfl⟩
  have HAL : Hid (AL = if c = lastOf f true then rimTo f true r (aheadOf true) (if c = 0 then rimTo f true r (behindOf true) (betw f true c wa wb) else betw f true c wa wb) else (if c = 0 then rimTo f true r (behindOf true) (betw f true c wa wb) else betw f true c wa wb)) := Lib.hid (by rw [← hAL, asked_eq])
  rw [hAL]
  clear hAL
  have HSZ : Hid (w.heap.size < (w.alloc (.cells f.arr 30)).heap.size) := Lib.hid (by simp)
  obtain ⟨w1, hw1⟩ : ∃ x, w.alloc (.cells f.arr 30) = x := ⟨_, rfl⟩
  have HW1 := Lib.hid hw1
  rw [hw1] at HA HI1 HT1 HB1 HSZ
  obtain ⟨R0, hR0⟩ : ∃ x, f.R.toNat = x := ⟨_, rfl⟩
  clear hI hT h0 hlen hba hwa hwb hw1 hR0
  go_enter Try.func36, Try.ntmps36
  go_wp2_with (fail)
  rw [HW1.out]
  clear HW1
  have HG0 := Lib.hid (Got.nil (Below.refl w1.heap.size w1))
  have HN0 : Hid (([] : List CT.Side).length ≤ 0) := Lib.hid (Nat.le_refl _)
  refine wp_region_ord 6 [(0, true), (1, true), (2, true), (3, true), (4, true), (5, true), (6, false), (7, false)] (by kernel_rfl) (by kernel_rfl) ?_
  intro Wc hWc
  apply OrdAt.op (fun _ _ _ h => h) rfl rfl rfl
  · intro X hB
    exact exec_load (cs := f.arr) (fr := (0, 0)) _ rfl rfl (HA.out.turn (HG0.out.bl.trans ((hWc.tr hB).mono HG0.out.bl.size))).at_ Try.underlying30 rfl (size30 f)
  · dsimp only [List.set_cons_zero, List.set_cons_succ]
  iterate 4
    apply OrdAt.op (fun _ _ _ h => h) rfl rfl rfl
    · intro X hB
      go_simp
      try rfl
    · dsimp only [List.set_cons_zero, List.set_cons_succ]
  apply OrdAt.call (fun _ _ _ h => h) rfl rfl rfl
  · intro X hB
    go_simp
    first | exact ⟨rfl, rfl⟩ | rfl
  · intro X hB
    refine (HA0.out X (HT1.out.turn (HG0.out.bl.trans ((hWc.tr hB).mono HG0.out.bl.size)))).mono ?_; rintro e W1 ⟨rfl, rfl⟩; exact ⟨rfl, Below.refl _ _⟩
  · dsimp only [List.set_cons_zero, List.set_cons_succ]
  refine OrdAt.seq rfl rfl ?_
  intro X hB
  go_wp2_with (fail)
  refine (c54 f wa 1 (.slice none 0 0) _ w1 X HI1.out (HG0.out.turn (hWc.tr hB)) (by decide) HWL.out.1 HL.out (Nat.le_trans HN0.out (by decide))).mono ?_
  rintro e W1 ⟨u1, rfl, hg⟩
  refine ⟨.inl (by decide), ?_⟩
  have HGi := Lib.hid hg
  clear hg hB hWc
  refine OrdAt.seq rfl rfl ?_
  intro X hB
  have HGj := Lib.hid (HGi.out.turn hB)
  clear hB HGi HG0
  go_wp2_with (fail)
  refine ⟨.inl (by decide), OrdAt.done ?_⟩
  intro W9 hW9
  have HG0 := Lib.hid (HGj.out.turn hW9)
  clear hW9 HGj
  have HN1 := Lib.hid (ap_len HN0.out (cellAsk_len f wa 1))
  go_wp2_with (fail)
  refine wp_region_ord 6 [(0, true), (1, true), (2, true), (3, true), (4, true), (5, true), (6, false), (7, false)] (by kernel_rfl) (by kernel_rfl) ?_
  intro Wc hWc
  apply OrdAt.op (fun _ _ _ h => h) rfl rfl rfl
  · intro X hB
    go_simp
    try rfl
  · dsimp only [List.set_cons_zero, List.set_cons_succ]
  apply OrdAt.op (fun _ _ _ h => h) rfl rfl rfl
  · intro X hB
    exact exec_load (cs := f.arr) (fr := (0, 0)) _ rfl rfl (HA.out.turn (HG0.out.bl.trans ((hWc.tr hB).mono HG0.out.bl.size))).at_ Try.underlying30 rfl (size30 f)
  · dsimp only [List.set_cons_zero, List.set_cons_succ]
  iterate 3
    apply OrdAt.op (fun _ _ _ h => h) rfl rfl rfl
    · intro X hB
      go_simp
      try rfl
    · dsimp only [List.set_cons_zero, List.set_cons_succ]
  apply OrdAt.call (fun _ _ _ h => h) rfl rfl rfl
  · intro X hB
    go_simp
    first | exact ⟨rfl, rfl⟩ | rfl
  · intro X hB
    refine (HB0.out X (HT1.out.turn (HG0.out.bl.trans ((hWc.tr hB).mono HG0.out.bl.size)))).mono ?_; rintro e W1 ⟨rfl, rfl⟩; exact ⟨rfl, Below.refl _ _⟩
  · dsimp only [List.set_cons_zero, List.set_cons_succ]
  refine OrdAt.seq rfl rfl ?_
  intro X hB
  go_wp2_with (fail)
  refine (c54 f wb 3 u1 _ w1 X HI1.out (HG0.out.turn (hWc.tr hB)) (by decide) HWL.out.2 HL.out (Nat.le_trans HN1.out (by decide))).mono ?_
  rintro e W1 ⟨u2, rfl, hg⟩
  refine ⟨.inl (by decide), ?_⟩
  have HGi := Lib.hid hg
  clear hg hB hWc
  refine OrdAt.seq rfl rfl ?_
  intro X hB
  have HGj := Lib.hid (HGi.out.turn hB)
  clear hB HGi HG0
  go_wp2_with (fail)
  refine ⟨.inl (by decide), OrdAt.done ?_⟩
  intro W9 hW9
  have HG0 := Lib.hid (HGj.out.turn hW9)
  clear hW9 HGj
  have HN2 := Lib.hid (ap_len HN1.out (cellAsk_len f wb 3))
  have HG2 := HG0
  clear HG0 fs HA0 HB0 HT1
  obtain ⟨p0, p1, p2, p3, p4, p5, p6, p7⟩ := (HA.out.turn HG2.out.bl).eight
  go_wp2_with (fail)
  refine (c55 true f.ka f.kl f.kc c 3 1 3 u2 _ w1 _ HI1.out.k (by have := HLn.out.2.2.2.2.1; omega) HG2.out (by decide) (by decide) (Nat.le_trans HN2.out (by decide))).mono ?_
  rintro e Wc3 ⟨u3, rfl, hg⟩
  have HG3 := Lib.hid hg
  clear hg p0 p1 p2 p3 p4 p5 p6 p7
  have HN3 := Lib.hid (ap_len HN2.out (ends_len true c 3 1 3 HLn.out.2.2.2.2.1))
  obtain ⟨p0, p1, p2, p3, p4, p5, p6, p7⟩ := (HA.out.turn HG3.out.bl).eight
  go_wp2_with (fail)
  refine (c55 true f.ha f.hl f.hc c 4 1 3 u3 _ w1 _ HI1.out.h (by have := HLn.out.2.2.2.2.2; omega) HG3.out (by decide) (by decide) (Nat.le_trans HN3.out (by decide))).mono ?_
  rintro e Wc4 ⟨u4, rfl, hg⟩
  have HG4 := Lib.hid hg
  clear hg p0 p1 p2 p3 p4 p5 p6 p7
  have HN4 := Lib.hid (ap_len HN3.out (ends_len true c 4 1 3 HLn.out.2.2.2.2.2))
  by_cases z0 : c = 0
  · by_cases zl : c = f.C
    · skip
      subst z0
      have z0 : (0 : Int) = 0 := rfl
      have tl : ((0 : Int) == f.C) = true := beq_iff_eq.2 zl
      have Z0 := Lib.hid z0
      have ZL := Lib.hid zl
      clear z0 zl
      obtain ⟨p0, p1, p2, p3, p4, p5, p6, p7⟩ := (HA.out.turn HG4.out.bl).eight
      go_wp2_with (fail)
      refine (c56 false f.ra f.rl f.rc r 1 3 u4 _ w1 _ HI1.out.r (by have := HLn.out.2.2.1; omega) HG4.out (by decide) (Nat.le_trans HN4.out (by decide))).mono ?_
      rintro e Wc5 ⟨u5, rfl, hg⟩
      have HG5 := Lib.hid hg
      clear hg p0 p1 p2 p3 p4 p5 p6 p7
      have HN5 := Lib.hid (ap_len HN4.out (over_len false r 3 1 HLn.out.2.2.1))
      obtain ⟨p0, p1, p2, p3, p4, p5, p6, p7⟩ := (HA.out.turn HG5.out.bl).eight
      go_wp2_with (fail)
      refine (c56 false f.ga f.gl f.gc r 2 3 u5 _ w1 _ HI1.out.g (by have := HLn.out.2.2.2.1; omega) HG5.out (by decide) (Nat.le_trans HN5.out (by decide))).mono ?_
      rintro e Wc6 ⟨u6, rfl, hg⟩
      have HG6 := Lib.hid hg
      clear hg p0 p1 p2 p3 p4 p5 p6 p7
      have HN6 := Lib.hid (ap_len HN5.out (over_len false r 3 2 HLn.out.2.2.2.1))
      obtain ⟨p0, p1, p2, p3, p4, p5, p6, p7⟩ := (HA.out.turn HG6.out.bl).eight
      have q0 : Wc6.cell? ⟨w.heap.size, 17, none⟩ = some (.int .i64 f.t.d0) := (HA.out.turn HG6.out.bl).table 9 _ rfl
      have q1 : Wc6.cell? ⟨w.heap.size, 18, none⟩ = some (.int .i64 f.t.d1) := (HA.out.turn HG6.out.bl).table 10 _ rfl
      have q2 : Wc6.cell? ⟨w.heap.size, 19, none⟩ = some (.int .u32 f.t.d2) := (HA.out.turn HG6.out.bl).table 11 _ rfl
      have HSB := Lib.hid (side_box Wc6 ⟨f.t.d0, f.t.d1, f.t.d2, 5, 0, 0⟩)
      have HG65 := Lib.hid (HG6.out.turn HSB.out.1)
      go_wp2_with (refine at_dst 52 rfl ?_; go_must ((refine GR.wpList_app_one rfl Side.len Side.one (by decide) (T := 79) (e := 45) (bytes := 48) (by kernel_rfl) info45 rfl w1.heap.size _ _ rfl _ _ _ rfl HG65.out.own Wc6.heap.size 1 _ rfl HSB.out.2 (Nat.le_trans HN6.out (by decide)) (by decide) HG65.out.bl.size ?_); intro u7 Wc7 h1 h2 h3; have HG7 := Lib.hid (HG65.out.app rfl h1 h2); clear h1 h2 h3 q0 q1 q2 p0 p1 p2 p3 p4 p5 p6 p7; obtain ⟨p0, p1, p2, p3, p4, p5, p6, p7⟩ := (HA.out.turn HG7.out.bl).eight))
      have HN7 := Lib.hid (ap_len HN6.out (show ([(⟨f.t.d0, f.t.d1, f.t.d2, 5, 0, 0⟩ : CT.Side)]).length ≤ 1 from Nat.le_refl 1))
      clear p0 p1 p2 p3 p4 p5 p6 p7
      obtain ⟨p0, p1, p2, p3, p4, p5, p6, p7⟩ := (HA.out.turn HG7.out.bl).eight
      go_wp2_with (fail)
      refine (c56 false f.ra f.rl f.rc r 1 1 u7 _ w1 _ HI1.out.r (by have := HLn.out.2.2.1; omega) HG7.out (by decide) (Nat.le_trans HN7.out (by decide))).mono ?_
      rintro e Wc8 ⟨u8, rfl, hg⟩
      have HG8 := Lib.hid hg
      clear hg p0 p1 p2 p3 p4 p5 p6 p7
      have HN8 := Lib.hid (ap_len HN7.out (over_len false r 1 1 HLn.out.2.2.1))
      obtain ⟨p0, p1, p2, p3, p4, p5, p6, p7⟩ := (HA.out.turn HG8.out.bl).eight
      go_wp2_with (fail)
      refine (c56 false f.ga f.gl f.gc r 2 1 u8 _ w1 _ HI1.out.g (by have := HLn.out.2.2.2.1; omega) HG8.out (by decide) (Nat.le_trans HN8.out (by decide))).mono ?_
      rintro e Wc9 ⟨u9, rfl, hg⟩
      have HG9 := Lib.hid hg
      clear hg p0 p1 p2 p3 p4 p5 p6 p7
      have HN9 := Lib.hid (ap_len HN8.out (over_len false r 1 2 HLn.out.2.2.2.1))
      obtain ⟨p0, p1, p2, p3, p4, p5, p6, p7⟩ := (HA.out.turn HG9.out.bl).eight
      have q0 : Wc9.cell? ⟨w.heap.size, 11, none⟩ = some (.int .i64 f.t.b0) := (HA.out.turn HG9.out.bl).table 3 _ rfl
      have q1 : Wc9.cell? ⟨w.heap.size, 12, none⟩ = some (.int .i64 f.t.b1) := (HA.out.turn HG9.out.bl).table 4 _ rfl
      have q2 : Wc9.cell? ⟨w.heap.size, 13, none⟩ = some (.int .u32 f.t.b2) := (HA.out.turn HG9.out.bl).table 5 _ rfl
      have HSB := Lib.hid (side_box Wc9 ⟨f.t.b0, f.t.b1, f.t.b2, 5, 0, 0⟩)
      have HG95 := Lib.hid (HG9.out.turn HSB.out.1)
      go_wp2_with (refine at_dst 73 rfl ?_; go_must ((refine GR.wpList_app_one rfl Side.len Side.one (by decide) (T := 79) (e := 45) (bytes := 48) (by kernel_rfl) info45 rfl w1.heap.size _ _ rfl _ _ _ rfl HG95.out.own Wc9.heap.size 1 _ rfl HSB.out.2 (Nat.le_trans HN9.out (by decide)) (by decide) HG95.out.bl.size ?_); intro u10 Wc10 h1 h2 h3; have HG10 := Lib.hid (HG95.out.app rfl h1 h2); clear h1 h2 h3 q0 q1 q2 p0 p1 p2 p3 p4 p5 p6 p7; obtain ⟨p0, p1, p2, p3, p4, p5, p6, p7⟩ := (HA.out.turn HG10.out.bl).eight))
      have HN10 := Lib.hid (ap_len HN9.out (show ([(⟨f.t.b0, f.t.b1, f.t.b2, 5, 0, 0⟩ : CT.Side)]).length ≤ 1 from Nat.le_refl 1))
      clear p0 p1 p2 p3 p4 p5 p6 p7
      go_ret
      refine ⟨_, rfl, ?_⟩
      rw [HAL.out, if_pos (show 0 = lastOf f true from ZL.out)]
      first | rw [if_pos trivial] | rw [if_pos rfl]
      exact HG10.out.base HB1.out
    · skip
      subst z0
      have z0 : (0 : Int) = 0 := rfl
      have tl : ((0 : Int) == f.C) = false := beq_eq_false_iff_ne.2 zl
      have Z0 := Lib.hid z0
      have ZL := Lib.hid zl
      clear z0 zl
      obtain ⟨p0, p1, p2, p3, p4, p5, p6, p7⟩ := (HA.out.turn HG4.out.bl).eight
      go_wp2_with (fail)
      refine (c56 false f.ra f.rl f.rc r 1 3 u4 _ w1 _ HI1.out.r (by have := HLn.out.2.2.1; omega) HG4.out (by decide) (Nat.le_trans HN4.out (by decide))).mono ?_
      rintro e Wc5 ⟨u5, rfl, hg⟩
      have HG5 := Lib.hid hg
      clear hg p0 p1 p2 p3 p4 p5 p6 p7
      have HN5 := Lib.hid (ap_len HN4.out (over_len false r 3 1 HLn.out.2.2.1))
      obtain ⟨p0, p1, p2, p3, p4, p5, p6, p7⟩ := (HA.out.turn HG5.out.bl).eight
      go_wp2_with (fail)
      refine (c56 false f.ga f.gl f.gc r 2 3 u5 _ w1 _ HI1.out.g (by have := HLn.out.2.2.2.1; omega) HG5.out (by decide) (Nat.le_trans HN5.out (by decide))).mono ?_
      rintro e Wc6 ⟨u6, rfl, hg⟩
      have HG6 := Lib.hid hg
      clear hg p0 p1 p2 p3 p4 p5 p6 p7
      have HN6 := Lib.hid (ap_len HN5.out (over_len false r 3 2 HLn.out.2.2.2.1))
      obtain ⟨p0, p1, p2, p3, p4, p5, p6, p7⟩ := (HA.out.turn HG6.out.bl).eight
      have q0 : Wc6.cell? ⟨w.heap.size, 17, none⟩ = some (.int .i64 f.t.d0) := (HA.out.turn HG6.out.bl).table 9 _ rfl
      have q1 : Wc6.cell? ⟨w.heap.size, 18, none⟩ = some (.int .i64 f.t.d1) := (HA.out.turn HG6.out.bl).table 10 _ rfl
      have q2 : Wc6.cell? ⟨w.heap.size, 19, none⟩ = some (.int .u32 f.t.d2) := (HA.out.turn HG6.out.bl).table 11 _ rfl
      have HSB := Lib.hid (side_box Wc6 ⟨f.t.d0, f.t.d1, f.t.d2, 5, 0, 0⟩)
      have HG65 := Lib.hid (HG6.out.turn HSB.out.1)
      go_wp2_with (refine at_dst 52 rfl ?_; go_must ((refine GR.wpList_app_one rfl Side.len Side.one (by decide) (T := 79) (e := 45) (bytes := 48) (by kernel_rfl) info45 rfl w1.heap.size _ _ rfl _ _ _ rfl HG65.out.own Wc6.heap.size 1 _ rfl HSB.out.2 (Nat.le_trans HN6.out (by decide)) (by decide) HG65.out.bl.size ?_); intro u7 Wc7 h1 h2 h3; have HG7 := Lib.hid (HG65.out.app rfl h1 h2); clear h1 h2 h3 q0 q1 q2 p0 p1 p2 p3 p4 p5 p6 p7; obtain ⟨p0, p1, p2, p3, p4, p5, p6, p7⟩ := (HA.out.turn HG7.out.bl).eight))
      have HN7 := Lib.hid (ap_len HN6.out (show ([(⟨f.t.d0, f.t.d1, f.t.d2, 5, 0, 0⟩ : CT.Side)]).length ≤ 1 from Nat.le_refl 1))
      clear p0 p1 p2 p3 p4 p5 p6 p7
      go_ret
      refine ⟨_, rfl, ?_⟩
      rw [HAL.out, if_neg (show ¬ 0 = lastOf f true from ZL.out)]
      first | rw [if_pos trivial] | rw [if_pos rfl]
      exact HG7.out.base HB1.out
  · by_cases zl : c = f.C
    · skip
      have t0 : (c == 0) = false := beq_eq_false_iff_ne.2 z0
      have tl : (c == f.C) = true := beq_iff_eq.2 zl
      have Z0 := Lib.hid z0
      have ZL := Lib.hid zl
      clear z0 zl
      obtain ⟨p0, p1, p2, p3, p4, p5, p6, p7⟩ := (HA.out.turn HG4.out.bl).eight
      go_wp2_with (fail)
      refine (c56 false f.ra f.rl f.rc r 1 1 u4 _ w1 _ HI1.out.r (by have := HLn.out.2.2.1; omega) HG4.out (by decide) (Nat.le_trans HN4.out (by decide))).mono ?_
      rintro e Wc5 ⟨u5, rfl, hg⟩
      have HG5 := Lib.hid hg
      clear hg p0 p1 p2 p3 p4 p5 p6 p7
      have HN5 := Lib.hid (ap_len HN4.out (over_len false r 1 1 HLn.out.2.2.1))
      obtain ⟨p0, p1, p2, p3, p4, p5, p6, p7⟩ := (HA.out.turn HG5.out.bl).eight
      go_wp2_with (fail)
      refine (c56 false f.ga f.gl f.gc r 2 1 u5 _ w1 _ HI1.out.g (by have := HLn.out.2.2.2.1; omega) HG5.out (by decide) (Nat.le_trans HN5.out (by decide))).mono ?_
      rintro e Wc6 ⟨u6, rfl, hg⟩
      have HG6 := Lib.hid hg
      clear hg p0 p1 p2 p3 p4 p5 p6 p7
      have HN6 := Lib.hid (ap_len HN5.out (over_len false r 1 2 HLn.out.2.2.2.1))
      obtain ⟨p0, p1, p2, p3, p4, p5, p6, p7⟩ := (HA.out.turn HG6.out.bl).eight
      have q0 : Wc6.cell? ⟨w.heap.size, 11, none⟩ = some (.int .i64 f.t.b0) := (HA.out.turn HG6.out.bl).table 3 _ rfl
      have q1 : Wc6.cell? ⟨w.heap.size, 12, none⟩ = some (.int .i64 f.t.b1) := (HA.out.turn HG6.out.bl).table 4 _ rfl
      have q2 : Wc6.cell? ⟨w.heap.size, 13, none⟩ = some (.int .u32 f.t.b2) := (HA.out.turn HG6.out.bl).table 5 _ rfl
      have HSB := Lib.hid (side_box Wc6 ⟨f.t.b0, f.t.b1, f.t.b2, 5, 0, 0⟩)
      have HG65 := Lib.hid (HG6.out.turn HSB.out.1)
      go_wp2_with (refine at_dst 73 rfl ?_; go_must ((refine GR.wpList_app_one rfl Side.len Side.one (by decide) (T := 79) (e := 45) (bytes := 48) (by kernel_rfl) info45 rfl w1.heap.size _ _ rfl _ _ _ rfl HG65.out.own Wc6.heap.size 1 _ rfl HSB.out.2 (Nat.le_trans HN6.out (by decide)) (by decide) HG65.out.bl.size ?_); intro u7 Wc7 h1 h2 h3; have HG7 := Lib.hid (HG65.out.app rfl h1 h2); clear h1 h2 h3 q0 q1 q2 p0 p1 p2 p3 p4 p5 p6 p7; obtain ⟨p0, p1, p2, p3, p4, p5, p6, p7⟩ := (HA.out.turn HG7.out.bl).eight))
      have HN7 := Lib.hid (ap_len HN6.out (show ([(⟨f.t.b0, f.t.b1, f.t.b2, 5, 0, 0⟩ : CT.Side)]).length ≤ 1 from Nat.le_refl 1))
      clear p0 p1 p2 p3 p4 p5 p6 p7
      go_ret
      refine ⟨_, rfl, ?_⟩
      rw [HAL.out, if_pos (show c = lastOf f true from ZL.out)]
      rw [if_neg Z0.out]
      exact HG7.out.base HB1.out
    · skip
      have t0 : (c == 0) = false := beq_eq_false_iff_ne.2 z0
      have tl : (c == f.C) = false := beq_eq_false_iff_ne.2 zl
      have Z0 := Lib.hid z0
      have ZL := Lib.hid zl
      clear z0 zl
      obtain ⟨p0, p1, p2, p3, p4, p5, p6, p7⟩ := (HA.out.turn HG4.out.bl).eight
      go_wp2_with (fail)
      go_ret
      refine ⟨_, rfl, ?_⟩
      rw [HAL.out, if_neg (show ¬ c = lastOf f true from ZL.out)]
      rw [if_neg Z0.out]
      exact HG4.out.base HB1.out
end Go.Proofs.Ytmlcjiabnmdfeaa
