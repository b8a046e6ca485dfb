/- Contract of rect.Around: any rectangles. -/
import Derived.Test.YtnlojbkjhlhogaaH
namespace Go.Proofs.Ytnlojbkjhlhogaa
open Go Go.RowKit IV
set_option linter.unusedVariables false

/-- what covers rectangles, two spans -/
structure Box where
  x : Int
  X : Int
  y : Int
  Y : Int
def boxOf (r : Rect) : Box := ⟨r.x, r.x + r.w, r.y, r.y + r.h⟩
def Box.cov (b : Box) (r : Rect) : Box := ⟨min b.x r.x, max b.X (r.x + r.w), min b.y r.y, max b.Y (r.y + r.h)⟩
def boxTo (l : List Rect) (k : Nat) : Box := (l.take k).foldl Box.cov (boxOf (l[0]?.getD default))
def Box.rect (b : Box) : Rect := ⟨b.x, b.y, b.X - b.x, b.Y - b.y⟩
theorem boxTo_succ (l : List Rect) {k : Nat} (h : k < l.length) : boxTo l (k + 1) = (boxTo l k).cov (l[k]?.getD default) := by
  unfold boxTo
  rw [take_next h, List.foldl_append]; rfl
def Box.ok (b : Box) : Prop := (-1152921504606846976 ≤ b.x ∧ b.x ≤ 1152921504606846975) ∧ (-1152921504606846976 ≤ b.X ∧ b.X ≤ 2305843009213693950) ∧ (-1152921504606846976 ≤ b.y ∧ b.y ≤ 1152921504606846975) ∧ (-1152921504606846976 ≤ b.Y ∧ b.Y ≤ 2305843009213693950)
theorem boxOf_ok {r : Rect} (h : right r = true) : (boxOf r).ok := by
  have := right_iff.1 h
  unfold Box.ok boxOf
  dsimp only
  omega
theorem cov_ok {b : Box} {r : Rect} (hb : b.ok) (h : right r = true) : (b.cov r).ok := by
  have := right_iff.1 h
  unfold Box.ok Box.cov at *
  dsimp only
  omega
theorem right_at {l : List Rect} (h : ∀ x ∈ l, right x = true) {k : Nat} (hk : k < l.length) : right (l[k]?.getD default) = true := by
  rw [List.getElem?_eq_getElem hk]
  exact h _ (List.getElem_mem hk)
theorem boxTo_ok {l : List Rect} (h : ∀ x ∈ l, right x = true) (h0 : 0 < l.length) : ∀ k, k ≤ l.length → (boxTo l k).ok
  | 0, _ => boxOf_ok (right_at h h0)
  | k + 1, hk => by
    rw [boxTo_succ l (by omega)]
    exact cov_ok (boxTo_ok h h0 k (by omega)) (right_at h (by omega))

/-- what is around -/
def around (xs : List Rect) : Rect :=
  if wrongs xs = true then ⟨0, 0, 0, 0⟩ else if (xs.filter pts).length = 0 then ⟨0, 0, 0, 0⟩ else
    if right (boxTo (xs.filter pts) (xs.filter pts).length).rect = true then (boxTo (xs.filter pts) (xs.filter pts).length).rect else ⟨0, 0, 0, 0⟩
def erA (xs : List Rect) : Int :=
  if wrongs xs = true then 20 else if (xs.filter pts).length = 0 then 0 else if right (boxTo (xs.filter pts) (xs.filter pts).length).rect = true then 0 else 20

set_option maxRecDepth 100000 in
set_option maxHeartbeats 4000000 in
theorem c16 (A : Option Addr) (xs : List Rect) (c : Nat) (w : World) (hx : Rects w A xs) (hl : xs.length ≤ 1000000) :
    Calls Try.prog 16 #[.slice A xs.length c] w fun e w' => e = .returned (.tuple #[.agg (around xs).arr, .int .i64 (erA xs)]) ∧ Below w.heap.size w w' := by
  have hb0 : Below w.heap.size w (w.alloc (.cells (Rect.arr ⟨0, 0, 0, 0⟩) 23)) := (Below.refl _ w).alloc (Nat.le_refl _) _
  have Hx := Lib.hid (hx.below hb0)
  have C25 := Lib.hid (fun W h => c25 A xs c W h (by omega))
  have C31 := Lib.hid (fun W h => c31 A xs c W h hl)
  have HR0 := Lib.hid (RRow.new w ⟨0, 0, 0, 0⟩)
  have HB0 := Lib.hid hb0
  clear hx hb0
  have Hdef : Hid (around xs = if wrongs xs = true then ⟨0, 0, 0, 0⟩ else if (xs.filter pts).length = 0 then ⟨0, 0, 0, 0⟩ else if right (boxTo (xs.filter pts) (xs.filter pts).length).rect = true then (boxTo (xs.filter pts) (xs.filter pts).length).rect else ⟨0, 0, 0, 0⟩) := Lib.hid rfl
  have Hdee : Hid (erA xs = if wrongs xs = true then 20 else if (xs.filter pts).length = 0 then 0 else if right (boxTo (xs.filter pts) (xs.filter pts).length).rect = true then 0 else 20) := Lib.hid rfl
  have Hwr := Lib.hid (wrongs_iff (xs := xs))
  have hfl : (xs.filter pts).length ≤ 1000000 := Nat.le_trans (List.length_filter_le _ _) hl
  have Hmem := Lib.hid (fun x (h : x ∈ xs.filter pts) => (List.mem_filter.1 h).1)
  have D30 := Lib.hid (fun v base W h hb => c30_32 v xs base W h hl hb)
  generalize around xs = ar at *
  generalize erA xs = er at *
  unfold Rect.arr at HR0 HB0 Hx
  dsimp only at HR0 HB0 Hx
  generalize xs.filter pts = l at *
  generalize hwx : wrongs xs = wx at *
  have HWX := Lib.hid hwx
  clear hwx
  go_enter Try.func16, Try.ntmps16
  go_wp2_with (fail)
  refine (C25.out _ Hx.out).mono ?_
  rintro e w1 ⟨rfl, hb1⟩
  have HR1 := Lib.hid (HR0.out.turn hb1)
  have HB1 := Lib.hid (HB0.out.trans (hb1.mono HB0.out.size))
  have Hx1 := Lib.hid (Hx.out.below hb1)
  clear hb1 HR0 HB0 Hx C25
  cases wx with
  | true =>
    have h1 := Hdef.out
    have h2 := Hdee.out
    rw [if_pos rfl] at h1 h2
    subst h1
    subst h2
    have z0 : w1.cell? ⟨w.heap.size, 0, none⟩ = some (.int .i64 0) := HR1.out.cells.1
    have z1 : w1.cell? ⟨w.heap.size, 1, none⟩ = some (.int .i64 0) := HR1.out.cells.2.1
    have z2 : w1.cell? ⟨w.heap.size, 2, none⟩ = some (.int .i64 0) := HR1.out.cells.2.2.1
    have z3 : w1.cell? ⟨w.heap.size, 3, none⟩ = some (.int .i64 0) := HR1.out.cells.2.2.2
    have f1 := HR1.out.frozen
    clear Hdef Hdee Hwr HWX HR1 Hmem
    go_wp2_with (fail)
    exact ⟨rfl, .tuple #[.agg #[.int .i64 0, .int .i64 0, .int .i64 0, .int .i64 0], .int .i64 20], by simp [results, Try.results16, go_sem, *], rfl, (((HB1.out.setCell (Nat.le_refl _) _).setCell (Nat.le_refl _) _).setCell (Nat.le_refl _) _).setCell (Nat.le_refl _) _⟩
  | false =>
    have Hr := Lib.hid (fun x (h : x ∈ l) => Hwr.out.1 rfl x (Hmem.out x h))
    clear Hwr HWX Hmem
    go_wp2_with (fail)
    refine (C31.out _ Hx1.out).mono ?_
    rintro e w2 ⟨v, rfl, hown, hb2⟩
    have HR2 := Lib.hid (HR1.out.turn hb2)
    have HB2 := Lib.hid (HB1.out.trans (hb2.mono HB1.out.size))
    have Hown := Lib.hid hown
    have Hlt1 := Lib.hid HR1.out.lt
    have hsz2 := Lib.hid hb2.size
    clear hb2 hown HR1 C31 Hx1
    go_wp2_with (fail)
    refine (D30.out v w1.heap.size w2 Hown.out hsz2.out).mono ?_
    rintro e w3 ⟨A3, c3, rfl, hr3, hb3, -⟩
    have hlt1 := Hlt1.out
    have HR3 : Hid (RRow w3 w.heap.size ⟨0, 0, 0, 0⟩) := Lib.hid ⟨(hb3.block _ hlt1).trans HR2.out.at_⟩
    have HB3 := Lib.hid (HB2.out.trans (hb3.mono (Nat.le_of_lt hlt1)))
    have Hr3 := Lib.hid hr3
    clear hb3 hr3 HR2 HB2 Hown hsz2 hlt1 Hlt1 D30
    by_cases h0 : l.length = 0
    · have h1 := Hdef.out
      have h2 := Hdee.out
      rw [if_neg (by simp), if_pos h0] at h1 h2
      subst h1
      subst h2
      have t0 : ((l.length : Int) == 0) = true := by rw [beq_iff_eq]; omega
      have z0 : w3.cell? ⟨w.heap.size, 0, none⟩ = some (.int .i64 0) := HR3.out.cells.1
      have z1 : w3.cell? ⟨w.heap.size, 1, none⟩ = some (.int .i64 0) := HR3.out.cells.2.1
      have z2 : w3.cell? ⟨w.heap.size, 2, none⟩ = some (.int .i64 0) := HR3.out.cells.2.2.1
      have z3 : w3.cell? ⟨w.heap.size, 3, none⟩ = some (.int .i64 0) := HR3.out.cells.2.2.2
      have f1 := HR3.out.frozen
      clear Hdef Hdee h0 HR3
      go_wp2_with (fail)
      exact ⟨rfl, .tuple #[.agg #[.int .i64 0, .int .i64 0, .int .i64 0, .int .i64 0], .int .i64 0], by simp [results, Try.results16, go_sem, *], rfl, (((HB3.out.setCell (Nat.le_refl _) _).setCell (Nat.le_refl _) _).setCell (Nat.le_refl _) _).setCell (Nat.le_refl _) _⟩
    · have h1 := Hdef.out
      have h2 := Hdee.out
      rw [if_neg (by simp), if_neg h0] at h1 h2
      have Hdef1 := Lib.hid h1
      have Hdee1 := Lib.hid h2
      have t0 : ((l.length : Int) == 0) = false := by rw [beq_eq_false_iff_ne]; omega
      have hlp : 0 < l.length := by omega
      have hok := Lib.hid (boxTo_ok Hr.out hlp)
      obtain ⟨r0, b0, o0, hr0, rfl, hc0⟩ := Hr3.out.get 0 hlp
      have hrr := right_at Hr.out hlp
      have hst : Hid (boxTo l 0 = boxOf r0) := Lib.hid (by unfold boxTo; rw [hr0.out]; rfl)
      rw [hr0.out] at hrr
      have hbd := right_iff.1 hrr
      obtain ⟨x, y, u, v0⟩ := r0
      dsimp only at hbd
      have C26 := Lib.hid (fun W => c26 ⟨x, y, u, v0⟩ W (IntWalk.i64_in _ (by dsimp only; omega)) (IntWalk.i64_in _ (by dsimp only; omega)))
      obtain ⟨q0, q1, q2, q3⟩ := hc0
      rw [Nat.zero_mul, Nat.add_zero] at q0 q1 q2 q3
      unfold Rect.arr at C26
      dsimp only at C26 q0 q1 q2 q3
      clear Hdef Hdee h0 h1 h2 hr0 hrr hbd
      go_wp2_with (fail)
      refine (C26.out _).mono ?_
      rintro e w4 ⟨rfl, hb4⟩
      clear C26 q0 q1 q2 q3
      have HR4 := Lib.hid (HR3.out.turn hb4)
      have HB4 := Lib.hid (HB3.out.trans (hb4.mono HB3.out.size))
      have Hr4 := Lib.hid (Hr3.out.below hb4)
      have hr4 := HR4.out.lt
      have hw4 := two_rows w4 (.int .i64 x) (.int .i64 (x + u)) (.int .i64 y) (.int .i64 (y + v0))
      have P0 := Lib.hid hw4.1
      have P1 := Lib.hid hw4.2.1
      have HB5 := Lib.hid hw4.2.2
      clear hb4 hw4 HR3 HB3 Hr3
      go_wp2_with (fail)
      generalize ((w4.alloc (.cells #[.int .i64 x, .int .i64 (x + u)] 49)).alloc (.cells #[.int .i64 y, .int .i64 (y + v0)] 49)) = w5 at *
      go_loopw [31] (fun i wr => ∃ k : Nat, k ≤ l.length ∧ i = .int .i64 k ∧ Hid (Below w4.heap.size w4 wr) ∧ Hid (wr.heap[w4.heap.size]? = some (.cells #[.int .i64 (boxTo l k).x, .int .i64 (boxTo l k).X] 49 (0, 0))) ∧ Hid (wr.heap[w4.heap.size + 1]? = some (.cells #[.int .i64 (boxTo l k).y, .int .i64 (boxTo l k).Y] 49 (0, 0)))) (fun i _ => l.length - (intOf i).toNat)
      case atStart => exact ⟨0, Nat.zero_le _, rfl, HB5, by rw [hst.out]; exact P0, by rw [hst.out]; exact P1⟩
      case round =>
        obtain ⟨k, hk, rfl, HB, HP, HQ⟩ := hrel
        by_cases hlt : k < l.length
        · obtain ⟨r, b, off, hrk, hA, hc⟩ := (Hr4.out.below HB.out).get k hlt
          cases hA
          have hrr := right_at Hr.out hlt
          have Hnext : Hid (boxTo l (k + 1) = (boxTo l k).cov r) := Lib.hid (by rw [boxTo_succ l hlt, hrk.out])
          rw [hrk.out] at hrr
          have hbd := right_iff.1 hrr
          generalize boxTo l k = bx at *
          obtain ⟨bx0, bx1, bx2, bx3⟩ := bx
          obtain ⟨x', y', u', v'⟩ := r
          dsimp only at hbd HP HQ
          unfold Box.cov at Hnext
          dsimp only at Hnext
          have C26 := Lib.hid (fun W => c26 ⟨x', y', u', v'⟩ W (IntWalk.i64_in _ (by dsimp only; omega)) (IntWalk.i64_in _ (by dsimp only; omega)))
          obtain ⟨q0, q1, q2, q3⟩ := hc
          unfold Rect.arr at C26
          dsimp only at C26 q0 q1 q2 q3
          have hlb := HB.out.size
          have hlq := (Array.getElem?_eq_some_iff.1 HQ.out).1
          have bx5 := (Below.refl wr.heap.size wr).alloc (Nat.le_refl _) (.cells #[.int .i64 x', .int .i64 y', .int .i64 u', .int .i64 v'] 23)
          have HBx := Lib.hid bx5
          clear hbd hrr hrk bx5
          go_wp2_with (fail)
          refine (C26.out _).mono ?_
          rintro e w6 ⟨rfl, hb6⟩
          have hb7 := HBx.out.trans (hb6.mono HBx.out.size)
          have hw6 := two_rows w6 (.int .i64 x') (.int .i64 (x' + u')) (.int .i64 y') (.int .i64 (y' + v'))
          have hb8 := hb7.trans (hw6.2.2.mono hb7.size)
          have B4' := Lib.hid ((hb8.block _ (by omega)).trans HP.out)
          have B5' := Lib.hid ((hb8.block _ hlq).trans HQ.out)
          have B8 := Lib.hid hw6.1
          have B9 := Lib.hid hw6.2.1
          have HBy := Lib.hid (HB.out.trans (hb8.mono hlb))
          clear hb6 hb7 hw6 hb8 q0 q1 q2 q3 C26 HBx HB HP HQ
          go_wp2_with (fail)
          generalize ((w6.alloc (.cells #[.int .i64 x', .int .i64 (x' + u')] 49)).alloc (.cells #[.int .i64 y', .int .i64 (y' + v')] 49)) = w7 at *
          generalize w6.heap.size = b6 at *
          have ZA0 : Hid (w7.cell? ⟨w4.heap.size, 0, none⟩ = some (.int .i64 bx0)) := Lib.hid (by unfold World.cell?; rw [B4'.out]; rfl)
          have ZA1 : Hid (w7.cell? ⟨w4.heap.size, 1, none⟩ = some (.int .i64 bx1)) := Lib.hid (by unfold World.cell?; rw [B4'.out]; rfl)
          have ZB0 : Hid (w7.cell? ⟨w4.heap.size + 1, 0, none⟩ = some (.int .i64 bx2)) := Lib.hid (by unfold World.cell?; rw [B5'.out]; rfl)
          have ZB1 : Hid (w7.cell? ⟨w4.heap.size + 1, 1, none⟩ = some (.int .i64 bx3)) := Lib.hid (by unfold World.cell?; rw [B5'.out]; rfl)
          have ZC0 : Hid (w7.cell? ⟨b6, 0, none⟩ = some (.int .i64 x')) := Lib.hid (by unfold World.cell?; rw [B8.out]; rfl)
          have ZC1 : Hid (w7.cell? ⟨b6, 1, none⟩ = some (.int .i64 (x' + u'))) := Lib.hid (by unfold World.cell?; rw [B8.out]; rfl)
          have ZD0 : Hid (w7.cell? ⟨b6 + 1, 0, none⟩ = some (.int .i64 y')) := Lib.hid (by unfold World.cell?; rw [B9.out]; rfl)
          have ZD1 : Hid (w7.cell? ⟨b6 + 1, 1, none⟩ = some (.int .i64 (y' + v'))) := Lib.hid (by unfold World.cell?; rw [B9.out]; rfl)
          refine wp_region_ord 6 [(0, true), (1, true), (2, true), (3, true), (4, true), (5, true), (6, false), (7, false)] (by kernel_rfl) (by kernel_rfl) ?_
          intro Wc hWc
          apply OrdAt.op (fun _ _ _ h => h) rfl rfl rfl
          · intro X hB
            have s0 := rd (hWc.tr hB) ZA0.out
            have s1 := rd (hWc.tr hB) ZA1.out
            go_simp
            try rfl
          · dsimp only [List.set_cons_zero, List.set_cons_succ]
          apply OrdAt.op (fun _ _ _ h => h) rfl rfl rfl
          · intro X hB
            have s0 := rd (hWc.tr hB) ZC0.out
            have s1 := rd (hWc.tr hB) ZC1.out
            go_simp
            try rfl
          · dsimp only [List.set_cons_zero, List.set_cons_succ]
          apply OrdAt.call (fun _ _ _ h => h) rfl rfl rfl
          · intro X hB
            go_simp
            first | exact ⟨rfl, rfl⟩ | rfl
          · intro X hB
            refine (c34 bx0 bx1 x' (x' + u') _).mono ?_; rintro e W1 ⟨rfl, hb⟩; exact ⟨rfl, hb⟩
          · dsimp only [List.set_cons_zero, List.set_cons_succ]
          apply OrdAt.op (fun _ _ _ h => h) rfl rfl rfl
          · intro X hB
            have s0 := rd (hWc.tr hB) ZB0.out
            have s1 := rd (hWc.tr hB) ZB1.out
            go_simp
            try rfl
          · dsimp only [List.set_cons_zero, List.set_cons_succ]
          apply OrdAt.op (fun _ _ _ h => h) rfl rfl rfl
          · intro X hB
            have s0 := rd (hWc.tr hB) ZD0.out
            have s1 := rd (hWc.tr hB) ZD1.out
            go_simp
            try rfl
          · dsimp only [List.set_cons_zero, List.set_cons_succ]
          apply OrdAt.call (fun _ _ _ h => h) rfl rfl rfl
          · intro X hB
            go_simp
            first | exact ⟨rfl, rfl⟩ | rfl
          · intro X hB
            refine (c34 bx2 bx3 y' (y' + v') _).mono ?_; rintro e W1 ⟨rfl, hb⟩; exact ⟨rfl, hb⟩
          · dsimp only [List.set_cons_zero, List.set_cons_succ]
          refine OrdAt.seq rfl rfl ?_
          intro X hB
          have hW4 := hWc.tr hB
          have e1 := (hW4.block _ (Array.getElem?_eq_some_iff.1 B4'.out).1).trans B4'.out
          have e2 := (hW4.block _ (Array.getElem?_eq_some_iff.1 B5'.out).1).trans B5'.out
          have z0 : X.cell? ⟨w4.heap.size, 0, none⟩ = some (.int .i64 bx0) := by unfold World.cell?; rw [e1]; rfl
          have z1 : X.cell? ⟨w4.heap.size, 1, none⟩ = some (.int .i64 bx1) := by unfold World.cell?; rw [e1]; rfl
          have f1 : ∀ i, X.frozen? ⟨w4.heap.size, i, none⟩ = false := fun i => by simp [World.frozen?, e1]
          have HX := Lib.hid (HBy.out.trans (hW4.mono HBy.out.size))
          have E1 := Lib.hid e1
          have E2 := Lib.hid e2
          clear hW4 hB e1 e2
          go_wp2_with (fail)
          refine ⟨.inl (by decide), ?_⟩
          obtain ⟨X0, hX0⟩ : ∃ X0, X0 = X := ⟨_, rfl⟩
          subst hX0
          refine OrdAt.seq rfl rfl ?_
          intro X hB
          have g1 := two_in (a := .int .i64 (min bx0 x')) (c := .int .i64 (max bx1 (x' + u'))) E1.out
          have g2 := (two_out (X := X0) (b := w4.heap.size) (a := .int .i64 (min bx0 x')) (c := .int .i64 (max bx1 (x' + u'))) (k := w4.heap.size + 1) (by omega)).trans E2.out
          have e1 := (hB.block _ (Array.getElem?_eq_some_iff.1 g1).1).trans g1
          have e2 := (hB.block _ (Array.getElem?_eq_some_iff.1 g2).1).trans g2
          clear z0 z1 f1
          have z0 : X.cell? ⟨w4.heap.size + 1, 0, none⟩ = some (.int .i64 bx2) := by unfold World.cell?; rw [e2]; rfl
          have z1 : X.cell? ⟨w4.heap.size + 1, 1, none⟩ = some (.int .i64 bx3) := by unfold World.cell?; rw [e2]; rfl
          have f1 : ∀ i, X.frozen? ⟨w4.heap.size + 1, i, none⟩ = false := fun i => by simp [World.frozen?, e2]
          have HX2 := Lib.hid (((HX.out.setCell (p := ⟨w4.heap.size, 0, none⟩) (Nat.le_refl _) (.int .i64 (min bx0 x'))).setCell (p := ⟨w4.heap.size, 1, none⟩) (Nat.le_refl _) (.int .i64 (max bx1 (x' + u')))).trans (hB.mono (by simp only [World.setCell, Array.size_modify]; exact HX.out.size)))
          have F1 := Lib.hid e1
          have F2 := Lib.hid e2
          clear hB e1 e2 g1 g2 E1 E2
          go_wp2_with (fail)
          refine ⟨.inl (by decide), OrdAt.done ?_⟩
          intro W hW
          have g2 := two_in (a := .int .i64 (min bx2 y')) (c := .int .i64 (max bx3 (y' + v'))) F2.out
          have g1 := (two_out (X := X) (b := w4.heap.size + 1) (a := .int .i64 (min bx2 y')) (c := .int .i64 (max bx3 (y' + v'))) (k := w4.heap.size) (by omega)).trans F1.out
          have e1 := Lib.hid ((hW.block _ (Array.getElem?_eq_some_iff.1 g1).1).trans g1)
          have e2 := Lib.hid ((hW.block _ (Array.getElem?_eq_some_iff.1 g2).1).trans g2)
          have HX3 := Lib.hid (((HX2.out.setCell (p := ⟨w4.heap.size + 1, 0, none⟩) (Nat.le_succ _) (.int .i64 (min bx2 y'))).setCell (p := ⟨w4.heap.size + 1, 1, none⟩) (Nat.le_succ _) (.int .i64 (max bx3 (y' + v')))).trans (hW.mono (by simp only [World.setCell, Array.size_modify]; exact HX2.out.size)))
          clear z0 z1 f1 hW g1 g2 F1 F2
          go_wp2_with (fail)
          go_roundw
          case rel => exact ⟨k + 1, by omega, by go_num, HX3, by rw [Hnext.out]; exact e1, by rw [Hnext.out]; exact e2⟩
          case measure => simp [intOf]; omega
        · obtain rfl : k = l.length := by omega
          have hbo := hok.out l.length (Nat.le_refl _)
          have hd1 := Hdef1.out
          have hd2 := Hdee1.out
          have HRw := Lib.hid (show RRow wr w.heap.size ⟨0, 0, 0, 0⟩ from ⟨(HB.out.block _ hr4).trans HR4.out.at_⟩)
          have HBw := Lib.hid (HB4.out.trans (HB.out.mono HB4.out.size))
          clear hok Hdef1 Hdee1 HB HR4 HB4 HB5 P0 P1 hst
          generalize boxTo l l.length = bx at *
          obtain ⟨bx0, bx1, bx2, bx3⟩ := bx
          unfold Box.ok at hbo
          unfold Box.rect at hd1 hd2
          dsimp only at hbo hd1 hd2 HP HQ
          have m0 : wr.cell? ⟨w4.heap.size, 0, none⟩ = some (.int .i64 bx0) := by unfold World.cell?; rw [HP.out]; rfl
          have m1 : wr.cell? ⟨w4.heap.size, 1, none⟩ = some (.int .i64 bx1) := by unfold World.cell?; rw [HP.out]; rfl
          have m2 : wr.cell? ⟨w4.heap.size + 1, 0, none⟩ = some (.int .i64 bx2) := by unfold World.cell?; rw [HQ.out]; rfl
          have m3 : wr.cell? ⟨w4.heap.size + 1, 1, none⟩ = some (.int .i64 bx3) := by unfold World.cell?; rw [HQ.out]; rfl
          have C28 := Lib.hid (fun W => c28 bx0 bx1 bx2 bx3 W (IntWalk.i64_in _ (by omega)) (IntWalk.i64_in _ (by omega)))
          have C14 := Lib.hid (fun W => c14 ⟨bx0, bx2, bx1 - bx0, bx3 - bx2⟩ W)
          have Hd1 := Lib.hid hd1
          have Hd2 := Lib.hid hd2
          clear hd1 hd2 hbo HP HQ
          generalize right ⟨bx0, bx2, bx1 - bx0, bx3 - bx2⟩ = rt at *
          unfold Rect.arr at C28 C14
          dsimp only at C28 C14
          go_wp2_with (fail)
          refine (C28.out _).mono ?_
          rintro e w8 ⟨rfl, hb8⟩
          have HR8 := Lib.hid (HRw.out.turn hb8)
          have HB8 := Lib.hid (HBw.out.trans (hb8.mono HBw.out.size))
          have hx8 := (Below.refl w8.heap.size w8).alloc (Nat.le_refl _) (.cells #[.int .i64 bx0, .int .i64 bx2, .int .i64 (bx1 - bx0), .int .i64 (bx3 - bx2)] 23)
          have HX8 := Lib.hid hx8
          have HN8 := Lib.hid (show RRow (w8.alloc (.cells #[.int .i64 bx0, .int .i64 bx2, .int .i64 (bx1 - bx0), .int .i64 (bx3 - bx2)] 23)) w8.heap.size ⟨bx0, bx2, bx1 - bx0, bx3 - bx2⟩ from RRow.new w8 ⟨bx0, bx2, bx1 - bx0, bx3 - bx2⟩)
          clear hb8 hx8 m0 m1 m2 m3 HRw HBw C28
          go_wp2_with (fail)
          refine (C14.out _).mono ?_
          rintro e w9 ⟨rfl, hb9⟩
          have hbb := HX8.out.trans (hb9.mono HX8.out.size)
          have HR9 := Lib.hid (HR8.out.turn hbb)
          have HB9 := Lib.hid (HB8.out.trans (hbb.mono HB8.out.size))
          have HN9 := Lib.hid (HN8.out.turn hb9)
          have z0 : w9.cell? ⟨w.heap.size, 0, none⟩ = some (.int .i64 0) := HR9.out.cells.1
          have z1 : w9.cell? ⟨w.heap.size, 1, none⟩ = some (.int .i64 0) := HR9.out.cells.2.1
          have z2 : w9.cell? ⟨w.heap.size, 2, none⟩ = some (.int .i64 0) := HR9.out.cells.2.2.1
          have z3 : w9.cell? ⟨w.heap.size, 3, none⟩ = some (.int .i64 0) := HR9.out.cells.2.2.2
          have f1 := HR9.out.frozen
          have m0 : w9.cell? ⟨w8.heap.size, 0, none⟩ = some (.int .i64 bx0) := HN9.out.cells.1
          have m1 : w9.cell? ⟨w8.heap.size, 1, none⟩ = some (.int .i64 bx2) := HN9.out.cells.2.1
          have m2 : w9.cell? ⟨w8.heap.size, 2, none⟩ = some (.int .i64 (bx1 - bx0)) := HN9.out.cells.2.2.1
          have m3 : w9.cell? ⟨w8.heap.size, 3, none⟩ = some (.int .i64 (bx3 - bx2)) := HN9.out.cells.2.2.2
          clear hb9 hbb HR8 HB8 HX8 HN8 C14
          cases rt with
          | true =>
            have h1 := Hd1.out
            have h2 := Hd2.out
            rw [if_pos rfl] at h1 h2
            subst h1
            subst h2
            go_wp2_with (fail)
            exact ⟨rfl, .tuple #[.agg #[.int .i64 bx0, .int .i64 bx2, .int .i64 (bx1 - bx0), .int .i64 (bx3 - bx2)], .int .i64 0], by simp [results, Try.results16, go_sem, *], rfl, (((HB9.out.setCell (Nat.le_refl _) _).setCell (Nat.le_refl _) _).setCell (Nat.le_refl _) _).setCell (Nat.le_refl _) _⟩
          | false =>
            have h1 := Hd1.out
            have h2 := Hd2.out
            rw [if_neg (by simp)] at h1 h2
            subst h1
            subst h2
            go_wp2_with (fail)
            exact ⟨rfl, .tuple #[.agg #[.int .i64 0, .int .i64 0, .int .i64 0, .int .i64 0], .int .i64 20], by simp [results, Try.results16, go_sem, *], rfl, (((HB9.out.setCell (Nat.le_refl _) _).setCell (Nat.le_refl _) _).setCell (Nat.le_refl _) _).setCell (Nat.le_refl _) _⟩

end Go.Proofs.Ytnlojbkjhlhogaa
