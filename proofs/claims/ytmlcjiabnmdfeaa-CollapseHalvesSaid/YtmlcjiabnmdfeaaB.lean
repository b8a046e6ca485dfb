/- Contracts of areRuns: any runs. -/
import Derived.Test.YtmlcjiabnmdfeaaA
namespace Go.Proofs.Ytmlcjiabnmdfeaa
open Go Go.RowKit Go.Shelf
set_option linter.unusedVariables false

theorem run_ls (r : Run) : ∀ j u, (r.ls.cells)[j]? = some u → (r.cells)[2 + j]? = some u := fun j u hu => by rw [Nat.add_comm]; exact hu
set_option maxHeartbeats 2000000 in
/-- the test of a run -/
theorem c53 (r : Run) (Bn : Nat) (n : Int) (w : World) (hn : w.cell? ⟨Bn, 0, none⟩ = some (.int .i64 n)) :
    Calls Try.prog 53 #[.agg r.arr, .pointer (some ⟨Bn, 0, none⟩)] w fun e w' => e = .returned (.bool (!okR n r)) ∧ Below w.heap.size w w' := by
  have hb0 : Below w.heap.size w (w.alloc (.cells r.arr 84)) := (Below.refl _ _).alloc (Nat.le_refl _) _
  have hone := GR.One.new (enc := Run.cells) 84 w r
  have hn0 : (w.alloc (.cells r.arr 84)).cell? ⟨Bn, 0, none⟩ = some (.int .i64 n) := (hb0.cell (p := ⟨Bn, 0, none⟩) (World.block_lt_of_cell? w _ hn)).trans hn
  have hls : GR.At L4.cells (w.alloc (.cells r.arr 84)) w.heap.size 2 r.ls := fun j u hu => by
    have := hone.at0 (2 + j) u (run_ls r j u hu)
    rw [Nat.zero_add] at this
    exact this
  have H31 := Lib.hid (c31 (some ⟨w.heap.size, 2, none⟩) r.ls.lines 4 _ (four_lines hls (by simp)) (by simp [L4.lines]))
  have Hone := Lib.hid hone
  have HB0 := Lib.hid hb0
  have HN0 := Lib.hid hn0
  have hok : okR n r = (!wrongL r.ls.lines && decide (0 ≤ r.from_ ∧ r.from_ < r.to_ ∧ r.to_ ≤ n)) := rfl
  rw [hok]
  have hnb := World.block_lt_of_cell? w _ hn
  clear hb0 hone hn0 hls hn hok
  obtain ⟨wl, hwl⟩ : ∃ wl, wrongL r.ls.lines = wl := ⟨_, rfl⟩
  rw [hwl] at H31
  rw [hwl]
  clear hwl
  have hlen : r.ls.lines.length = 4 := rfl
  rw [hlen] at H31
  clear hlen
  obtain ⟨x0, x1, x2, x3, x4, x5, x6, x7, x8, x9, x10, x11, x12, x13⟩ := r
  unfold Run.arr at *
  dsimp only at *
  go_enter Try.func53, Try.ntmps53
  go_wp2_with (fail)
  refine H31.out.mono ?_
  rintro e w1 ⟨rfl, hb⟩
  have hone1 := Hone.out.turn hb
  have q0 : w1.cell? ⟨w.heap.size, 0, none⟩ = some (.int .i64 x0) := hone1.at0 0 _ rfl
  have q1 : w1.cell? ⟨w.heap.size, 1, none⟩ = some (.int .i64 x1) := hone1.at0 1 _ rfl
  have hn1 := (hb.cell (p := ⟨Bn, 0, none⟩) (World.block_lt_of_cell? _ _ HN0.out)).trans HN0.out
  have HB1 := Lib.hid (HB0.out.trans (hb.mono HB0.out.size))
  clear hb hone1 H31
  cases wl with
  | true =>
    go_wp2_with (fail)
    go_ret
    exact ⟨rfl, HB1.out⟩
  | false =>
    by_cases h0 : x0 < 0
    · have hd : Hid (decide (0 ≤ x0 ∧ x0 < x1 ∧ x1 ≤ n) = false) := Lib.hid (decide_eq_false (by omega))
      go_wp2_with (fail)
      go_ret
      rw [hd.out]
      exact ⟨rfl, HB1.out⟩
    · by_cases h1 : x1 ≤ x0
      · have hd : Hid (decide (0 ≤ x0 ∧ x0 < x1 ∧ x1 ≤ n) = false) := Lib.hid (decide_eq_false (by omega))
        go_wp2_with (fail)
        go_ret
        rw [hd.out]
        exact ⟨rfl, HB1.out⟩
      · by_cases h2 : n < x1
        · have hd : Hid (decide (0 ≤ x0 ∧ x0 < x1 ∧ x1 ≤ n) = false) := Lib.hid (decide_eq_false (by omega))
          go_wp2_with (fail)
          go_ret
          rw [hd.out]
          exact ⟨rfl, HB1.out⟩
        · have t0 : decide (x0 < 0) = false := decide_eq_false h0
          have t1 : decide (x1 ≤ x0) = false := decide_eq_false h1
          have t2 : decide (n < x1) = false := decide_eq_false h2
          have hd : Hid (decide (0 ≤ x0 ∧ x0 < x1 ∧ x1 ≤ n) = true) := Lib.hid (decide_eq_true (by omega))
          go_wp2_with (fail)
          go_ret
          rw [hd.out]
          exact ⟨rfl, HB1.out⟩

set_option maxHeartbeats 4000000 in
theorem c69 (A : Option Addr) (xs : List Run) (c : Nat) (Bn : Nat) (n : Int) (w : World) (hx : GR.Many Run.cells 14 w A xs) (hl : xs.length ≤ 17592186044416) (hn : w.cell? ⟨Bn, 0, none⟩ = some (.int .i64 n)) :
    Calls Try.prog 69 #[.slice A xs.length c, .func (.func 53) #[] #[.pointer (some ⟨Bn, 0, none⟩)]] w fun e w' => ∃ i : Int, e = .returned (.int .i64 i) ∧ decide (0 ≤ i) = xs.any (fun x => !(okR n x)) ∧ Below w.heap.size w w' := by
  have Hx := Lib.hid hx
  have Hn := Lib.hid hn
  clear hx hn
  go_enter Try.func69, Try.ntmps69
  go_wp2
  go_loopw [8] (fun i wr => ∃ k : Nat, k ≤ xs.length ∧ i = .int .i64 k ∧ Hid (∀ j, j < k → (!(okR n) (xs[j]?.getD default)) = false) ∧ Hid (Below w.heap.size w wr)) (fun i _ => xs.length - (intOf i).toNat)
  case atStart => exact ⟨0, Nat.zero_le _, rfl, Lib.hid fun j hj => absurd hj (Nat.not_lt_zero j), Lib.hid (Below.refl _ _)⟩
  case round =>
    obtain ⟨k, hk, rfl, hp, HB⟩ := hrel
    by_cases hlt : k < xs.length
    · obtain ⟨x, b, off, hxk, rfl, hat, _⟩ := (Hx.out.below HB.out).get k hlt
      have h50 := c53 x Bn n wr ((HB.out.cell (p := ⟨Bn, 0, none⟩) (World.block_lt_of_cell? w _ Hn.out)).trans Hn.out)
      obtain ⟨r, hr⟩ : ∃ r, (!(okR n x)) = r := ⟨_, rfl⟩
      rw [hr] at h50
      have Hr := Lib.hid hr
      have H50 := Lib.hid h50
      clear h50 hr
      obtain ⟨x0, x1, x2, x3, x4, x5, x6, x7, x8, x9, x10, x11, x12, x13⟩ := x
      have q0 : wr.cell? ⟨b, off + k * 14, none⟩ = some (.int .i64 x0) := hat 0 _ rfl
      have q1 : wr.cell? ⟨b, off + k * 14 + 1, none⟩ = some (.int .i64 x1) := hat 1 _ rfl
      have q2 : wr.cell? ⟨b, off + k * 14 + 2, none⟩ = some (.int .i64 x2) := hat 2 _ rfl
      have q3 : wr.cell? ⟨b, off + k * 14 + 3, none⟩ = some (.int .i64 x3) := hat 3 _ rfl
      have q4 : wr.cell? ⟨b, off + k * 14 + 4, none⟩ = some (.int .u32 x4) := hat 4 _ rfl
      have q5 : wr.cell? ⟨b, off + k * 14 + 5, none⟩ = some (.int .i64 x5) := hat 5 _ rfl
      have q6 : wr.cell? ⟨b, off + k * 14 + 6, none⟩ = some (.int .i64 x6) := hat 6 _ rfl
      have q7 : wr.cell? ⟨b, off + k * 14 + 7, none⟩ = some (.int .u32 x7) := hat 7 _ rfl
      have q8 : wr.cell? ⟨b, off + k * 14 + 8, none⟩ = some (.int .i64 x8) := hat 8 _ rfl
      have q9 : wr.cell? ⟨b, off + k * 14 + 9, none⟩ = some (.int .i64 x9) := hat 9 _ rfl
      have q10 : wr.cell? ⟨b, off + k * 14 + 10, none⟩ = some (.int .u32 x10) := hat 10 _ rfl
      have q11 : wr.cell? ⟨b, off + k * 14 + 11, none⟩ = some (.int .i64 x11) := hat 11 _ rfl
      have q12 : wr.cell? ⟨b, off + k * 14 + 12, none⟩ = some (.int .i64 x12) := hat 12 _ rfl
      have q13 : wr.cell? ⟨b, off + k * 14 + 13, none⟩ = some (.int .u32 x13) := hat 13 _ rfl
      unfold Run.arr at H50
      dsimp only at H50 q0
      clear hat
      cases r with
      | false =>
        have hnext : Hid (∀ j, j < k + 1 → (!(okR n) (xs[j]?.getD default)) = false) := Lib.hid fun j hj => by
          by_cases e : j = k
          · subst e; rw [hxk.out]; exact Hr.out
          · exact hp.out j (by omega)
        go_wp2_with (go_at_call 53; refine H50.out.mono ?_; rintro e w' ⟨rfl, hb'⟩; have HB2 := Lib.hid (HB.out.trans (hb'.mono HB.out.size)); clear hb')
        go_roundw
        case rel => exact ⟨k + 1, by omega, by go_num, hnext, HB2⟩
        case measure => simp [intOf]; omega
      | true =>
        go_wp2_with (go_at_call 53; refine H50.out.mono ?_; rintro e w' ⟨rfl, hb'⟩; have HB2 := Lib.hid (HB.out.trans (hb'.mono HB.out.size)); clear hb')
        go_ret
        exact ⟨_, rfl, by rw [any_at (p := fun x => !(okR n x)) hlt (by rw [hxk.out]; exact Hr.out)]; simp, HB2.out⟩
    · obtain rfl : k = xs.length := by omega
      go_wp2
      go_ret
      exact ⟨_, rfl, by rw [any_none (p := fun x => !(okR n x)) hp.out]; decide, HB.out⟩
theorem c52 (A : Option Addr) (xs : List Run) (c : Nat) (Bn : Nat) (n : Int) (w : World) (hx : GR.Many Run.cells 14 w A xs) (hl : xs.length ≤ 17592186044416) (hn : w.cell? ⟨Bn, 0, none⟩ = some (.int .i64 n)) :
    Calls Try.prog 52 #[.slice A xs.length c, .func (.func 53) #[] #[.pointer (some ⟨Bn, 0, none⟩)]] w fun e w' => e = .returned (.bool (xs.any fun x => !(okR n x))) ∧ Below w.heap.size w w' := by
  have H := Lib.hid (c69 A xs c Bn n w hx hl hn)
  clear hx hn
  go_enter Try.func52, Try.ntmps52
  go_wp2_with (go_at_call 69; refine H.out.mono ?_; rintro e w' ⟨i, rfl, hi, hb⟩; have Hi := Lib.hid hi; clear hi)
  all_goals go_ret
  all_goals rw [← Hi.out]
  all_goals exact ⟨rfl, hb⟩

/-- collapse.areRuns -/
theorem c32 (n : Int) (A : Option Addr) (xs : List Run) (c : Nat) (w : World) (hx : GR.Many Run.cells 14 w A xs) (hl : xs.length ≤ 17592186044416) :
    Calls Try.prog 32 #[.int .i64 n, .slice A xs.length c] w fun e w' => e = .returned (.bool (!wrongR n xs)) ∧ Below w.heap.size w w' := by
  have hb0 : Below w.heap.size w (w.alloc (.cells #[.int .i64 n] 3)) := (Below.refl _ _).alloc (Nat.le_refl _) _
  have H := Lib.hid (c52 A xs c w.heap.size n _ (hx.below hb0) hl (Boxed.new w 3 (.int .i64 n)).cell)
  have HB0 := Lib.hid hb0
  clear hx hb0
  unfold wrongR
  generalize (xs.any fun l => !okR n l) = r at *
  go_enter Try.func32, Try.ntmps32
  go_wp2_with (go_at_call 52; refine H.out.mono ?_; rintro e w' ⟨rfl, hb⟩; have HB := Lib.hid (HB0.out.trans (hb.mono HB0.out.size)); clear hb)
  go_ret
  exact ⟨rfl, HB.out⟩

end Go.Proofs.Ytmlcjiabnmdfeaa
