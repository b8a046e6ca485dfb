/- Contract of the reference's Around: any rectangles. -/
import Derived.Test.YtnlojbkjhlhogaaSA
namespace Go.Proofs.Ytnlojbkjhlhogaa
open Go Go.RowKit IV
set_option linter.unusedVariables false

def boxS (l : List Rect) : Box := if l.length = 0 then ⟨0, 0, 0, 0⟩ else boxTo l l.length
theorem boxTo_all (l : List Rect) : boxTo l l.length = l.foldl Box.cov (boxOf (l[0]?.getD default)) := by
  unfold boxTo; rw [List.take_length]
theorem box_self' (a : Rect) : (boxOf a).cov a = boxOf a := by
  unfold boxOf Box.cov
  simp only [Int.min_self, Int.max_self]
theorem boxS_first (r : Rect) : boxS ([] ++ [r]) = boxOf r := by
  unfold boxS
  rw [if_neg (by simp), boxTo_all]
  exact box_self' r
theorem boxS_next {l : List Rect} (h : l.length ≠ 0) (r : Rect) : boxS (l ++ [r]) = (boxS l).cov r := by
  unfold boxS
  rw [if_neg (by simp), if_neg h, boxTo_all, boxTo_all, List.foldl_append, List.getElem?_append_left (by omega)]
  rfl
theorem boxS_ok {l : List Rect} (h : ∀ x ∈ l, right x = true) : (boxS l).ok := by
  unfold boxS
  by_cases h0 : l.length = 0
  · rw [if_pos h0]; unfold Box.ok; dsimp only; omega
  · rw [if_neg h0]; exact boxTo_ok h (by omega) _ (Nat.le_refl _)
theorem around_box {xs : List Rect} (h : wrongs xs = false) : (right (boxS (xs.filter pts)).rect = true → around xs = (boxS (xs.filter pts)).rect ∧ erA xs = 0) ∧ (right (boxS (xs.filter pts)).rect = false → around xs = ⟨0, 0, 0, 0⟩ ∧ erA xs = 20) := by
  unfold around erA boxS
  rw [h]
  by_cases h0 : (xs.filter pts).length = 0
  · rw [if_pos h0, if_pos h0, if_pos h0]
    refine ⟨fun _ => ⟨rfl, rfl⟩, fun q => absurd q (by decide)⟩
  · rw [if_neg h0, if_neg h0, if_neg h0]
    refine ⟨fun q => ?_, fun q => ?_⟩
    · rw [if_pos q, if_pos q]; exact ⟨rfl, rfl⟩
    · rw [q]; exact ⟨rfl, rfl⟩
theorem around_wrong {xs : List Rect} (h : wrongs xs = true) : around xs = ⟨0, 0, 0, 0⟩ ∧ erA xs = 20 := by
  unfold around erA
  rw [if_pos h, if_pos h]
  exact ⟨rfl, rfl⟩
def smB (l : List Rect) : Bool := decide (l.length ≠ 0)
def fl (xs : List Rect) (k : Nat) : List Rect := (xs.take k).filter pts
theorem fl_no {xs : List Rect} {k : Nat} (hk : k < xs.length) (h : pts (xs[k]?.getD default) = false) : fl xs (k + 1) = fl xs k := by
  unfold fl
  rw [take_next hk, List.filter_append, List.filter_cons_of_neg (by rw [h]; simp), List.filter_nil, List.append_nil]
theorem fl_yes {xs : List Rect} {k : Nat} (hk : k < xs.length) (h : pts (xs[k]?.getD default) = true) : fl xs (k + 1) = fl xs k ++ [xs[k]?.getD default] := by
  unfold fl
  rw [take_next hk, List.filter_append, List.filter_cons_of_pos h, List.filter_nil]
theorem none_pts {r : Rect} (h : right r = true) : (decide (r.w = 0) || decide (r.h = 0)) = !pts r := by
  rw [none_iff h]
  by_cases hw : r.w = 0
  · rw [if_pos hw, decide_eq_true hw, Bool.true_or]
  · rw [if_neg hw, decide_eq_false hw, Bool.false_or]

set_option maxRecDepth 100000 in
set_option maxHeartbeats 4000000 in
theorem c18 (A : Option Addr) (xs : List Rect) (c : Nat) (w : World) (hx : Rects w A xs) (hl : xs.length ≤ 17592186044416) :
    Calls Try.prog 18 #[.slice A xs.length c] w fun e w' => e = .returned (.tuple #[.agg (around xs).arr, .int .i64 (erA xs)]) ∧ Below w.heap.size w w' := by
  have hb0 : Below w.heap.size w (w.alloc (.cells (Rect.arr ⟨0, 0, 0, 0⟩) 23)) := (Below.refl _ w).alloc (Nat.le_refl _) _
  have Hx := Lib.hid (hx.below hb0)
  have HR0 := Lib.hid (RRow.new w ⟨0, 0, 0, 0⟩)
  have HB0 := Lib.hid hb0
  have Hwr := Lib.hid fun (h : wrongs xs = true) => around_wrong h
  have Hbx := Lib.hid fun (h : wrongs xs = false) => around_box h
  have Hw1 := Lib.hid fun (h : ∀ j, j < xs.length → right (xs[j]?.getD default) = true) => wrongs_none h
  clear hx hb0
  generalize around xs = ar at *
  generalize erA xs = er at *
  have Hnl : Hid (fl xs xs.length = xs.filter pts) := Lib.hid (by unfold fl; rw [List.take_length])
  unfold Rect.arr at HR0 HB0 Hx
  dsimp only at HR0 HB0 Hx
  go_enter Try.func18, Try.ntmps18
  go_wp2_with (fail)
  generalize (w.alloc (.cells #[.int .i64 0, .int .i64 0, .int .i64 0, .int .i64 0] 23)) = w0 at *
  go_loopw [4, 5, 6, 7, 8, 9] (fun s x y u v i wr => ∃ k : Nat, k ≤ xs.length ∧ i = .int .i64 k ∧ s = .bool (smB (fl xs k)) ∧ x = .int .i64 (boxS (fl xs k)).x ∧ y = .int .i64 (boxS (fl xs k)).y ∧ u = .int .i64 (boxS (fl xs k)).X ∧ v = .int .i64 (boxS (fl xs k)).Y ∧ Hid (Below w0.heap.size w0 wr) ∧ Hid (∀ j, j < k → right (xs[j]?.getD default) = true)) (fun _ _ _ _ _ i _ => xs.length - (intOf i).toNat)
  case atStart => exact ⟨0, Nat.zero_le _, rfl, rfl, rfl, rfl, rfl, rfl, Lib.hid (Below.refl _ _), Lib.hid fun j hj => absurd hj (Nat.not_lt_zero j)⟩
  case round =>
    obtain ⟨k, hk, rfl, rfl, rfl, rfl, rfl, rfl, HB, HP⟩ := hrel
    have HRw := Lib.hid (HR0.out.turn HB.out)
    have HBw := Lib.hid (HB0.out.trans (HB.out.mono HB0.out.size))
    by_cases hlt : k < xs.length
    · have ti : decide ((k : Int) < (xs.length : Int)) = true := decide_eq_true (by omega)
      obtain ⟨r, b, off, hrk, rfl, hc⟩ := (Hx.out.below HB.out).get k hlt
      have Hn0 := Lib.hid (@fl_no xs k hlt)
      have Hn1 := Lib.hid (@fl_yes xs k hlt)
      have Hwx := Lib.hid fun (h : right (xs[k]?.getD default) = false) => Hwr.out (wrongs_of hlt h)
      have Hpn : Hid (right (xs[k]?.getD default) = true → ∀ j, j < k + 1 → right (xs[j]?.getD default) = true) := Lib.hid fun h j hj => by
        by_cases e : j = k
        · subst e; exact h
        · exact HP.out j (by omega)
      rw [hrk.out] at Hn0 Hn1 Hwx Hpn
      generalize hk1 : fl xs (k + 1) = f1 at *
      have Hk1 := Lib.hid hk1
      clear hk1
      generalize fl xs k = f0 at *
      have C15 := Lib.hid (fun W => c15 r W)
      have C35 := Lib.hid (fun W => c35 r W)
      have Hnp := Lib.hid (@none_pts r)
      have Hri := Lib.hid (@right_iff r)
      have hbn := (Below.refl wr.heap.size wr).alloc (Nat.le_refl _) (.cells r.arr 23)
      have HNa := Lib.hid (RRow.new wr r)
      have HBn := Lib.hid (HB.out.trans (hbn.mono HB.out.size))
      have HBo := Lib.hid (HBw.out.trans (hbn.mono HBw.out.size))
      have HRn := Lib.hid (HRw.out.turn hbn)
      clear hbn
      have Hcov := Lib.hid (fun l (h : List.length l ≠ 0) => @boxS_next l h r)
      have Hfst := Lib.hid (boxS_first r)
      unfold boxOf at Hfst
      unfold Box.cov at Hcov
      generalize right r = rr at *
      generalize pts r = pr at *
      obtain ⟨x, y, u, v⟩ := r
      obtain ⟨q0, q1, q2, q3⟩ := hc
      unfold Rect.arr at C15 C35 HNa HBn HBo HRn
      dsimp only at C15 C35 q0 q1 q2 q3 HNa HBn HBo HRn Hnp Hri Hcov Hfst
      go_wp2_with (fail)
      generalize hq : wr.alloc (.cells #[.int .i64 x, .int .i64 y, .int .i64 u, .int .i64 v] 23) = w1 at *
      generalize wr.heap.size = b1 at *
      refine (C15.out _).mono ?_
      rintro e w2 ⟨rfl, hb⟩
      have S0 := Lib.hid (HRn.out.turn hb)
      have S1 := Lib.hid (HNa.out.turn hb)
      have SB := Lib.hid (HBn.out.trans (hb.mono HBn.out.size))
      have SO := Lib.hid (HBo.out.trans (hb.mono HBo.out.size))
      clear hb HRn HNa HBn HBo hq C15 q0 q1 q2 q3
      cases rr with
      | false =>
        obtain ⟨rfl, rfl⟩ := Hwx.out rfl
        have z0 : w2.cell? ⟨w.heap.size, 0, none⟩ = some (.int .i64 0) := S0.out.cells.1
        have z1 : w2.cell? ⟨w.heap.size, 1, none⟩ = some (.int .i64 0) := S0.out.cells.2.1
        have z2 : w2.cell? ⟨w.heap.size, 2, none⟩ = some (.int .i64 0) := S0.out.cells.2.2.1
        have z3 : w2.cell? ⟨w.heap.size, 3, none⟩ = some (.int .i64 0) := S0.out.cells.2.2.2
        have f1 := S0.out.frozen
        clear Hwr Hbx Hwx Hpn Hn0 Hn1 Hnp Hri Hcov Hfst
        go_wp2_with (fail)
        exact ⟨rfl, .tuple #[.agg #[.int .i64 0, .int .i64 0, .int .i64 0, .int .i64 0], .int .i64 20], by simp [results, Try.results18, go_sem, *], rfl, (((SO.out.setCell (Nat.le_refl _) _).setCell (Nat.le_refl _) _).setCell (Nat.le_refl _) _).setCell (Nat.le_refl _) _⟩
      | true =>
        have Hpn1 := Lib.hid (Hpn.out rfl)
        have hn := Hnp.out rfl
        rw [hn] at C35
        have Hbd := Lib.hid (Hri.out.1 rfl)
        clear Hwx Hpn Hnp Hri hn
        have p0 : w2.cell? ⟨b1, 0, none⟩ = some (.int .i64 x) := S1.out.cells.1
        have p1 : w2.cell? ⟨b1, 1, none⟩ = some (.int .i64 y) := S1.out.cells.2.1
        have p2 : w2.cell? ⟨b1, 2, none⟩ = some (.int .i64 u) := S1.out.cells.2.2.1
        have p3 : w2.cell? ⟨b1, 3, none⟩ = some (.int .i64 v) := S1.out.cells.2.2.2
        go_wp2_with (fail)
        refine (C35.out _).mono ?_
        rintro e w3 ⟨rfl, hb⟩
        have T0 := Lib.hid (S0.out.turn hb)
        have T1 := Lib.hid (S1.out.turn hb)
        have TB := Lib.hid (SB.out.trans (hb.mono SB.out.size))
        clear hb S0 S1 SB SO C35 p0 p1 p2 p3
        cases pr with
        | false =>
          have hf := Hn0.out rfl
          subst hf
          clear Hn0 Hn1 Hcov Hfst
          go_wp2_with (fail)
          go_roundw
          case rel => exact ⟨k + 1, by omega, by go_num, by rw [Hk1.out], by rw [Hk1.out], by rw [Hk1.out], by rw [Hk1.out], by rw [Hk1.out], TB, Hpn1⟩
          case measure => simp [intOf]; omega
        | true =>
          have hf := Hn1.out rfl
          have p0 : w3.cell? ⟨b1, 0, none⟩ = some (.int .i64 x) := T1.out.cells.1
          have p1 : w3.cell? ⟨b1, 1, none⟩ = some (.int .i64 y) := T1.out.cells.2.1
          have p2 : w3.cell? ⟨b1, 2, none⟩ = some (.int .i64 u) := T1.out.cells.2.2.1
          have p3 : w3.cell? ⟨b1, 3, none⟩ = some (.int .i64 v) := T1.out.cells.2.2.2
          have hbd := Hbd.out
          have hx : IntKind.i64.wrap (x + u) = x + u := IntWalk.i64_in _ (by omega)
          have hy : IntKind.i64.wrap (y + v) = y + v := IntWalk.i64_in _ (by omega)
          clear hbd
          by_cases h0 : f0.length = 0
          · obtain rfl := List.length_eq_zero_iff.1 h0
            have Hf1 : Hid (boxS f1 = ⟨x, x + u, y, y + v⟩ ∧ smB f1 = true) := Lib.hid ⟨by rw [hf]; exact Hfst.out, by rw [hf]; rfl⟩
            have t0 : smB [] = false := rfl
            clear hf h0 Hn0 Hn1 Hcov Hfst
            generalize smB [] = s0 at *
            subst t0
            generalize boxS [] = bx at *
            go_wp2_with (fail)
            go_roundw
            case rel => exact ⟨k + 1, by omega, by go_num, by rw [Hk1.out, Hf1.out.2], by rw [Hk1.out, Hf1.out.1], by rw [Hk1.out, Hf1.out.1], by rw [Hk1.out, Hf1.out.1], by rw [Hk1.out, Hf1.out.1], TB, Hpn1⟩
            case measure => simp [intOf]; omega
          · have Hf1 : Hid (boxS f1 = ⟨min (boxS f0).x x, max (boxS f0).X (x + u), min (boxS f0).y y, max (boxS f0).Y (y + v)⟩ ∧ smB f1 = true) := Lib.hid ⟨by rw [hf]; exact Hcov.out f0 h0, by rw [hf]; unfold smB; simp⟩
            have t0 : smB f0 = true := decide_eq_true h0
            clear hf h0 Hn0 Hn1 Hcov Hfst
            generalize smB f0 = s0 at *
            subst t0
            generalize boxS f0 = bx at *
            obtain ⟨bx0, bx1, bx2, bx3⟩ := bx
            dsimp only at Hf1
            have m1 : (if x < bx0 then x else bx0) = min bx0 x := by rw [Int.min_def]; split <;> split <;> omega
            have m2 : (if y < bx2 then y else bx2) = min bx2 y := by rw [Int.min_def]; split <;> split <;> omega
            have m3 : (if bx1 < x + u then x + u else bx1) = max bx1 (x + u) := by rw [Int.max_def]; split <;> split <;> omega
            have m4 : (if bx3 < y + v then y + v else bx3) = max bx3 (y + v) := by rw [Int.max_def]; split <;> split <;> omega
            dsimp only
            go_wp2_with (fail)
            go_roundw
            case rel => exact ⟨k + 1, by omega, by go_num, by rw [Hk1.out, Hf1.out.2], by rw [Hk1.out, Hf1.out.1], by rw [Hk1.out, Hf1.out.1], by rw [Hk1.out, Hf1.out.1], by rw [Hk1.out, Hf1.out.1], TB, Hpn1⟩
            case measure => simp [intOf]; omega
    · obtain rfl : k = xs.length := by omega
      have ti : decide ((xs.length : Int) < (xs.length : Int)) = false := decide_eq_false (by omega)
      have hwf := Hw1.out HP.out
      have Hbb := Lib.hid (Hbx.out hwf)
      have hok : (boxS (xs.filter pts)).ok := boxS_ok fun x hx => wrongs_iff.1 hwf x (List.mem_filter.1 hx).1
      rw [Hnl.out]
      clear Hbx Hwr Hw1 hwf HP HB Hx
      generalize boxS (xs.filter pts) = bx at *
      generalize smB (xs.filter pts) = sm at *
      obtain ⟨bx0, bx1, bx2, bx3⟩ := bx
      unfold Box.ok at hok
      unfold Box.rect at Hbb
      dsimp only at hok Hbb
      dsimp only
      have w1 : IntKind.i64.wrap (bx1 - bx0) = bx1 - bx0 := IntWalk.i64_in _ (by omega)
      have w2 : IntKind.i64.wrap (bx3 - bx2) = bx3 - bx2 := IntWalk.i64_in _ (by omega)
      have C15 := Lib.hid (fun W => c15 ⟨bx0, bx2, bx1 - bx0, bx3 - bx2⟩ W)
      generalize right ⟨bx0, bx2, bx1 - bx0, bx3 - bx2⟩ = rt at *
      unfold Rect.arr at C15
      dsimp only at C15
      have hbn := (Below.refl wr.heap.size wr).alloc (Nat.le_refl _) (.cells #[.int .i64 bx0, .int .i64 bx2, .int .i64 (bx1 - bx0), .int .i64 (bx3 - bx2)] 23)
      have HNa := Lib.hid (show RRow (wr.alloc (.cells #[.int .i64 bx0, .int .i64 bx2, .int .i64 (bx1 - bx0), .int .i64 (bx3 - bx2)] 23)) wr.heap.size ⟨bx0, bx2, bx1 - bx0, bx3 - bx2⟩ from RRow.new wr ⟨bx0, bx2, bx1 - bx0, bx3 - bx2⟩)
      have HBo := Lib.hid (HBw.out.trans (hbn.mono HBw.out.size))
      have HRn := Lib.hid (HRw.out.turn hbn)
      clear hbn hok HRw HBw
      go_wp2_with (fail)
      refine (C15.out _).mono ?_
      rintro e w9 ⟨rfl, hb⟩
      have S0 := Lib.hid (HRn.out.turn hb)
      have S1 := Lib.hid (HNa.out.turn hb)
      have SO := Lib.hid (HBo.out.trans (hb.mono HBo.out.size))
      clear hb HRn HNa HBo C15 w1 w2
      have z0 : w9.cell? ⟨w.heap.size, 0, none⟩ = some (.int .i64 0) := S0.out.cells.1
      have z1 : w9.cell? ⟨w.heap.size, 1, none⟩ = some (.int .i64 0) := S0.out.cells.2.1
      have z2 : w9.cell? ⟨w.heap.size, 2, none⟩ = some (.int .i64 0) := S0.out.cells.2.2.1
      have z3 : w9.cell? ⟨w.heap.size, 3, none⟩ = some (.int .i64 0) := S0.out.cells.2.2.2
      have f1 := S0.out.frozen
      have m0 : w9.cell? ⟨wr.heap.size, 0, none⟩ = some (.int .i64 bx0) := S1.out.cells.1
      have m1 : w9.cell? ⟨wr.heap.size, 1, none⟩ = some (.int .i64 bx2) := S1.out.cells.2.1
      have m2 : w9.cell? ⟨wr.heap.size, 2, none⟩ = some (.int .i64 (bx1 - bx0)) := S1.out.cells.2.2.1
      have m3 : w9.cell? ⟨wr.heap.size, 3, none⟩ = some (.int .i64 (bx3 - bx2)) := S1.out.cells.2.2.2
      cases rt with
      | true =>
        obtain ⟨rfl, rfl⟩ := Hbb.out.1 rfl
        clear Hbb
        go_wp2_with (fail)
        exact ⟨rfl, .tuple #[.agg #[.int .i64 bx0, .int .i64 bx2, .int .i64 (bx1 - bx0), .int .i64 (bx3 - bx2)], .int .i64 0], by simp [results, Try.results18, go_sem, *], rfl, (((SO.out.setCell (Nat.le_refl _) _).setCell (Nat.le_refl _) _).setCell (Nat.le_refl _) _).setCell (Nat.le_refl _) _⟩
      | false =>
        obtain ⟨rfl, rfl⟩ := Hbb.out.2 rfl
        clear Hbb
        go_wp2_with (fail)
        exact ⟨rfl, .tuple #[.agg #[.int .i64 0, .int .i64 0, .int .i64 0, .int .i64 0], .int .i64 20], by simp [results, Try.results18, go_sem, *], rfl, (((SO.out.setCell (Nat.le_refl _) _).setCell (Nat.le_refl _) _).setCell (Nat.le_refl _) _).setCell (Nat.le_refl _) _⟩

end Go.Proofs.Ytnlojbkjhlhogaa
