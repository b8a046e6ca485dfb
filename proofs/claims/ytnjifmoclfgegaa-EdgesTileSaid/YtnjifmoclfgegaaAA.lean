/- Contract of edges.Gutters: what it gives where bands or gaps are wrong, where there is nothing between, and else. -/
import Derived.Test.YtnjifmoclfgegaaY
import Derived.Test.YtnjifmoclfgegaaZ
import Derived.Test.YtnjifmoclfgegaaOrd
namespace Go.Proofs.Ytnjifmoclfgegaa
open Go Go.RowKit Go.Shelf Ords
set_option linter.unusedVariables false

theorem wpList_append_rect {ops : Array Oper} {rest : List Oper} {o : Oper} {a : Act} {w : World} {Q : Exit → Act → World → Prop} (hgd : o.guard = none) (base : Nat) (x z : Operand) (ho : o.op = .call { callee := .builtin .append, args := #[x, z], argTypes := #[39, 39] })
    (v : Value) (n : Nat) (l : List Rect) (hx : a.eval x = v) (hown : w.ownsRow base 47 4 v n (flat l)) (M : Nat) (r : Rect) (hz : a.eval z = .slice (some ⟨M, 0, none⟩) 1 1) (hm : RRow w M r) (hn : n ≤ 1000000) (hbase : base ≤ w.heap.size)
    (h : ∀ v' W', W'.ownsRow base 47 4 v' (n + 1) (flat (l ++ [r])) → w.grownBy W' v.ownBlock → wpList Try.prog ops Q rest (a.put o.dst v') W') : wpList Try.prog ops Q (o :: rest) a w :=
  wpList_plain hgd fun K hK => wp_append_rect base x z ho v n l hx hown M r hz hm hn hbase fun v' W' h1 h2 => hK _ _ (h v' W' h1 h2)

theorem eq38 (r0 r1 q0 q1 : Int) (w : World) : (Op.equalIn 10000 38 (.agg #[.int .i64 r0, .int .i64 r1]) (.agg #[.int .i64 q0, .int .i64 q1])).run Try.prog w = .ok (decide ([r0, r1] = [q0, q1])) w := by
  have u2 := Try.underlying2
  have a2 := Try.isAgg2
  have z2 := Try.sizeOf2
  rw [show (10000 : Nat) = 9999 + 1 from rfl, Op.equalIn]
  simp only [Sem.run_bind, run_underlying Try.underlying38, Result.andThen_ok]
  simp only [Std.Legacy.Range.forIn_eq_forIn_range', Std.Legacy.Range.size, Nat.sub_zero, Nat.add_sub_cancel, Nat.div_one, List.range'_succ, List.range'_zero, List.forIn_cons, List.forIn_nil]
  go_simp
  by_cases h0 : r0 = q0
  case neg => simp [h0]
  subst h0
  by_cases h1 : r1 = q1
  case neg => simp [h1]
  subst h1
  simp

/-- nothing lies between -/
def noGut (cols rows : List Int) (g0 g1 : Int) : Bool := cols.length == 0 || rows.length == 0 || decide ([g0, g1] = [0, 0])

set_option maxHeartbeats 2000000 in
theorem c24_wrong (Ac Ar : Option Addr) (cols rows : List Int) (cc cr : Nat) (g0 g1 : Int) (w : World) (hc : Ints w Ac cols) (hr : Ints w Ar rows) (hlc : cols.length ≤ 17592186044416) (lr : rows.length ≤ 17592186044416) (hw : right cols g0 = false ∨ right rows g1 = false) :
    Calls Try.prog 24 #[.slice Ac cols.length cc, .slice Ar rows.length cr, .agg #[.int .i64 g0, .int .i64 g1]] w fun e w' => e = .returned (.tuple #[.slice none 0 0, .int .i64 100]) ∧ Below w.heap.size w w' := by
  have lc := hlc
  have hB0 : Below w.heap.size w (w.alloc (.cells #[.int .i64 g0, .int .i64 g1] 38)) := (Below.refl _ w).alloc (Nat.le_refl _) _
  have HB0 := Lib.hid hB0
  have Hc := Lib.hid (hc.below hB0)
  have Hr := Lib.hid (hr.below hB0)
  have H7 := Lib.hid (heap_alloc_new w (.cells #[.int .i64 g0, .int .i64 g1] 38))
  clear hB0 hc hr
  have H1 : ∀ W, Ints W Ac cols → Calls Try.prog 12 #[.slice Ac cols.length cc, .int .i64 g0] W fun e w' => ∃ A' n' c' x, e = .returned (.tuple #[.slice A' n' c', .int .i64 x]) ∧ (right cols g0 = false → x = 100) ∧ (right cols g0 = true → x = 0) ∧ Below W.heap.size W w' := fun W h => by
    cases hr : right cols g0 with
    | false => exact (c12_wrong Ac cols cc g0 W h lc hr).mono fun e w' ⟨h1, h2⟩ => ⟨none, 0, 0, 100, h1, fun _ => rfl, fun h => by simp at h, h2⟩
    | true => exact (c12_right Ac cols cc g0 W h hr).mono fun e w' ⟨A', c', h1, h2, h3, h4⟩ => ⟨A', _, c', 0, h1, fun h => by simp at h, fun _ => rfl, h4⟩
  have H2 : ∀ W, Ints W Ar rows → Calls Try.prog 12 #[.slice Ar rows.length cr, .int .i64 g1] W fun e w' => ∃ A' n' c' x, e = .returned (.tuple #[.slice A' n' c', .int .i64 x]) ∧ (right rows g1 = false → x = 100) ∧ (right rows g1 = true → x = 0) ∧ Below W.heap.size W w' := fun W h => by
    cases hr : right rows g1 with
    | false => exact (c12_wrong Ar rows cr g1 W h lr hr).mono fun e w' ⟨h1, h2⟩ => ⟨none, 0, 0, 100, h1, fun _ => rfl, fun h => by simp at h, h2⟩
    | true => exact (c12_right Ar rows cr g1 W h hr).mono fun e w' ⟨A', c', h1, h2, h3, h4⟩ => ⟨A', _, c', 0, h1, fun h => by simp at h, fun _ => rfl, h4⟩
  have K1 := Lib.hid H1
  have K2 := Lib.hid H2
  have Hw := Lib.hid hw
  clear H1 H2 hw
  go_enter Try.func24, Try.ntmps24
  go_wp2_with (fail)
  refine (K1.out _ Hc.out).mono ?_
  rintro e w1 ⟨A1, n1, c1, x1, rfl, ha, hb, hb1⟩
  have Ha := Lib.hid ha
  have Hb := Lib.hid hb
  have r7 := (hb1.block _ (Array.getElem?_eq_some_iff.1 H7.out).1).trans H7.out
  have p0 : w1.cell? ⟨w.heap.size, 0, none⟩ = some (.int .i64 g0) := by simp [World.cell?, r7]
  have p1 : w1.cell? ⟨w.heap.size, 1, none⟩ = some (.int .i64 g1) := by simp [World.cell?, r7]
  have hB1 := HB0.out.trans (hb1.mono HB0.out.size)
  have HB1 := Lib.hid hB1
  have Hr1 := Lib.hid (Hr.out.below hb1)
  clear ha hb r7 hB1 hb1
  go_wp2_with (fail)
  refine (K2.out _ Hr1.out).mono ?_
  rintro e w2 ⟨A2, n2, c2, x2, rfl, ha, hb, hb2⟩
  have hB2 := HB1.out.trans (hb2.mono HB1.out.size)
  have HB2 := Lib.hid (hB2.alloc hB2.size (.cells #[.int .i64 0, .int .i64 0] 38))
  clear hB2 hb2 p0 p1
  by_cases hx : x1 = 0
  · subst hx
    have h1 : right cols g0 = true := by
      cases h : right cols g0 with
      | true => rfl
      | false => exact absurd (Ha.out h) (by decide)
    obtain rfl := ha (by rcases Hw.out with h | h; rw [h1] at h; simp at h; exact h)
    clear h1 hb
    go_wp2
    go_ret2
    exact ⟨rfl, HB2.out⟩
  · have hne : x1 = 100 := by
      cases h : right cols g0 with
      | false => exact Ha.out h
      | true => exact absurd (Hb.out h) hx
    subst hne
    clear hx ha hb
    go_wp2
    go_ret2
    exact ⟨rfl, HB2.out⟩

set_option maxHeartbeats 2000000 in
theorem c24_none (Ac Ar : Option Addr) (cols rows : List Int) (cc cr : Nat) (g0 g1 : Int) (w : World) (hc : Ints w Ac cols) (hr : Ints w Ar rows) (hlc : cols.length ≤ 10000) (hw1 : right cols g0 = true) (hw2 : right rows g1 = true) (hn : noGut cols rows g0 g1 = true) :
    Calls Try.prog 24 #[.slice Ac cols.length cc, .slice Ar rows.length cr, .agg #[.int .i64 g0, .int .i64 g1]] w fun e w' => e = .returned (.tuple #[.slice none 0 0, .int .i64 0]) ∧ Below w.heap.size w w' := by
  have Hn := Lib.hid hn
  clear hn
  have lc := hlc
  have hB0 : Below w.heap.size w (w.alloc (.cells #[.int .i64 g0, .int .i64 g1] 38)) := (Below.refl _ w).alloc (Nat.le_refl _) _
  have HB0 := Lib.hid hB0
  have Hc := Lib.hid (hc.below hB0)
  have Hr := Lib.hid (hr.below hB0)
  have H7 := Lib.hid (heap_alloc_new w (.cells #[.int .i64 g0, .int .i64 g1] 38))
  have H7 := Lib.hid (heap_alloc_new w (.cells #[.int .i64 g0, .int .i64 g1] 38))
  have K1 := Lib.hid (fun W (h : Ints W Ac cols) => c12_right Ac cols cc g0 W h hw1)
  have K2 := Lib.hid (fun W (h : Ints W Ar rows) => c12_right Ar rows cr g1 W h hw2)
  have lr := (right_iff.1 hw2).1
  clear hB0 hc hr
  go_enter Try.func24, Try.ntmps24
  go_wp2_with (fail)
  refine (K1.out _ Hc.out).mono ?_
  rintro e w1 ⟨A1, c1, rfl, hc1, hi1, hb1⟩
  have r7 := (hb1.block _ (Array.getElem?_eq_some_iff.1 H7.out).1).trans H7.out
  have p0 : w1.cell? ⟨w.heap.size, 0, none⟩ = some (.int .i64 g0) := by simp [World.cell?, r7]
  have p1 : w1.cell? ⟨w.heap.size, 1, none⟩ = some (.int .i64 g1) := by simp [World.cell?, r7]
  have HB1 := Lib.hid (HB0.out.trans (hb1.mono HB0.out.size))
  have Hr1 := Lib.hid (Hr.out.below hb1)
  have Hc1 := Lib.hid (Hc.out.below hb1)
  have I1 := Lib.hid hi1
  have R7 := Lib.hid r7
  clear r7 hb1 hi1
  go_wp2_with (fail)
  refine (K2.out _ Hr1.out).mono ?_
  rintro e w2 ⟨A2, c2, rfl, hc2, hi2, hb2⟩
  have hz : Below w2.heap.size w2 (w2.alloc (.cells #[.int .i64 0, .int .i64 0] 38)) := (Below.refl _ w2).alloc (Nat.le_refl _) _
  have r7 := ((hb2.trans (hz.mono hb2.size)).block _ (Array.getElem?_eq_some_iff.1 R7.out).1).trans R7.out
  have HB2 := Lib.hid ((HB1.out.trans (hb2.mono HB1.out.size)).trans (hz.mono (Nat.le_trans HB1.out.size hb2.size)))
  have Hr2 := Lib.hid ((Hr1.out.below hb2).below hz)
  have Hc2 := Lib.hid ((Hc1.out.below hb2).below hz)
  have I1' := Lib.hid ((I1.out.below hb2).below hz)
  have I2 := Lib.hid (hi2.below hz)
  have R7' := Lib.hid r7
  clear p0 p1
  have p0 : (w2.alloc (.cells #[.int .i64 0, .int .i64 0] 38)).cell? ⟨w.heap.size, 0, none⟩ = some (.int .i64 g0) := by unfold World.cell?; rw [r7]; rfl
  have p1 : (w2.alloc (.cells #[.int .i64 0, .int .i64 0] 38)).cell? ⟨w.heap.size, 1, none⟩ = some (.int .i64 g1) := by unfold World.cell?; rw [r7]; rfl
  have z0 : (w2.alloc (.cells #[.int .i64 0, .int .i64 0] 38)).cell? ⟨w2.heap.size, 0, none⟩ = some (.int .i64 0) := by unfold World.cell?; rw [heap_alloc_new]; rfl
  have z1 : (w2.alloc (.cells #[.int .i64 0, .int .i64 0] 38)).cell? ⟨w2.heap.size, 1, none⟩ = some (.int .i64 0) := by unfold World.cell?; rw [heap_alloc_new]; rfl
  have hq := eq38 g0 g1 0 0 (w2.alloc (.cells #[.int .i64 0, .int .i64 0] 38))
  clear r7 hb2 hi2 Hr1 Hc1 I1 R7 Hr Hc H7 K1 K2 HB0 HB1 hz
  clear hw1 hw2
  by_cases h1 : cols.length = 0
  · have t1 : ((cols.length : Int) == 0) = true := by rw [beq_iff_eq]; omega
    clear hq h1
    go_wp2
    go_ret2
    exact ⟨rfl, HB2.out⟩
  · have t1 : ((cols.length : Int) == 0) = false := by rw [beq_eq_false_iff_ne]; omega
    by_cases h2 : rows.length = 0
    · have t2 : ((rows.length : Int) == 0) = true := by rw [beq_iff_eq]; omega
      clear hq h1 h2
      go_wp2
      go_ret2
      exact ⟨rfl, HB2.out⟩
    · have t2 : ((rows.length : Int) == 0) = false := by rw [beq_eq_false_iff_ne]; omega
      have h3 : [g0, g1] = [0, 0] := by
        have := Hn.out
        unfold noGut at this
        rw [Bool.or_eq_true, Bool.or_eq_true, beq_iff_eq, beq_iff_eq, decide_eq_true_eq] at this
        rcases this with (h | h) | h
        · exact absurd h h1
        · exact absurd h h2
        · exact h
      rw [decide_eq_true h3] at hq
      clear h1 h2 h3
      go_wp2
      go_ret2
      exact ⟨rfl, HB2.out⟩

end Go.Proofs.Ytnjifmoclfgegaa
