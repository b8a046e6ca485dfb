/- The walk of the law RectOrders: meeting, and what is around, hang not on the order; what is around has what each has. -/
import Derived.Test.YtnlojbkjhlhogaaU
namespace Go.Proofs.Ytnlojbkjhlhogaa
open Go Go.RowKit IV
set_option linter.unusedVariables false

theorem meet_comm (a b : Rect) : meet a b = meet b a := by
  unfold meet
  rw [Int.max_comm b.x, Int.max_comm b.y, Int.min_comm (b.x + b.w), Int.min_comm (b.y + b.h)]
  by_cases h : right a = true ∧ right b = true ∧ max a.x b.x < min (a.x + a.w) (b.x + b.w) ∧ max a.y b.y < min (a.y + a.h) (b.y + b.h)
  · rw [if_pos h, if_pos ⟨h.2.1, h.1, h.2.2⟩]
  · rw [if_neg h, if_neg fun q => h ⟨q.2.1, q.1, q.2.2⟩]
theorem erM_comm (a b : Rect) : erM a b = erM b a := by
  unfold erM
  by_cases h : right a = true ∧ right b = true
  · rw [if_pos h, if_pos ⟨h.2, h.1⟩]
  · rw [if_neg h, if_neg fun q => h ⟨q.2, q.1⟩]
theorem wrongs_comm (a b : Rect) : wrongs [a, b] = wrongs [b, a] := by
  unfold wrongs
  simp only [List.any_cons, List.any_nil]
  cases right a <;> cases right b <;> rfl
theorem boxTo_two (a b : Rect) : boxTo [a, b] 2 = ((boxOf a).cov a).cov b := rfl
theorem boxTo_one (a : Rect) : boxTo [a] 1 = (boxOf a).cov a := rfl
theorem box_self (a : Rect) : (boxOf a).cov a = boxOf a := by
  unfold boxOf Box.cov
  simp only [Int.min_self, Int.max_self]
theorem box_comm (a b : Rect) : boxTo [a, b] 2 = boxTo [b, a] 2 := by
  rw [boxTo_two, boxTo_two, box_self, box_self]
  unfold boxOf Box.cov
  dsimp only
  rw [Int.min_comm a.x, Int.min_comm a.y, Int.max_comm (a.x + a.w), Int.max_comm (a.y + a.h)]
theorem two_comm (a b : Rect) : ([a, b].filter pts).length = ([b, a].filter pts).length ∧ boxTo ([a, b].filter pts) ([a, b].filter pts).length = boxTo ([b, a].filter pts) ([b, a].filter pts).length := by
  cases ha : pts a <;> cases hb : pts b <;> simp only [List.filter_cons, List.filter_nil, ha, hb, if_true, if_false, Bool.false_eq_true, List.length_cons, List.length_nil, and_self]
  exact ⟨True.intro, box_comm a b⟩
theorem around_comm (a b : Rect) : around [a, b] = around [b, a] := by
  unfold around
  rw [wrongs_comm, (two_comm a b).2, (two_comm a b).1]
theorem erA_comm (a b : Rect) : erA [a, b] = erA [b, a] := by
  unfold erA
  rw [wrongs_comm, (two_comm a b).2, (two_comm a b).1]
theorem erA_cases (xs : List Rect) : erA xs = 0 ∨ erA xs = 20 := by
  unfold erA
  split
  · exact .inr rfl
  · split
    · exact .inl rfl
    · split
      · exact .inl rfl
      · exact .inr rfl
theorem around_right {xs : List Rect} (h : erA xs = 0) : right (around xs) = true := by
  unfold erA at h
  unfold around
  split
  · next q => rw [if_pos q] at h; cases h
  · next q =>
    rw [if_neg q] at h
    split
    · decide
    · next q2 =>
      rw [if_neg q2] at h
      split
      · next q3 => exact q3
      · next q3 => rw [if_neg q3] at h; cases h
theorem two_right {a b : Rect} (h : erA [a, b] = 0) : right a = true ∧ right b = true := by
  unfold erA at h
  have hw : wrongs [a, b] = false := by
    cases q : wrongs [a, b] with
    | false => rfl
    | true => rw [if_pos q] at h; cases h
  exact ⟨wrongs_iff.1 hw a (by simp), wrongs_iff.1 hw b (by simp)⟩
theorem around_has {a b : Rect} (h : erA [a, b] = 0) (hp : pts a = true) : meet (around [a, b]) a = a := by
  have hu := around_right h
  obtain ⟨ha, hb⟩ := two_right h
  have key : (around [a, b]).x ≤ a.x ∧ a.x + a.w ≤ (around [a, b]).x + (around [a, b]).w ∧ (around [a, b]).y ≤ a.y ∧ a.y + a.h ≤ (around [a, b]).y + (around [a, b]).h := by
    have e : around [a, b] = (boxTo ([a, b].filter pts) ([a, b].filter pts).length).rect := by
      unfold erA at h
      unfold around
      split
      · next q => rw [if_pos q] at h; cases h
      · next q =>
        rw [if_neg q] at h
        have n0 : ¬ ([a, b].filter pts).length = 0 := by rw [List.filter_cons_of_pos hp]; simp
        rw [if_neg n0] at h
        rw [if_neg n0]
        split
        · rfl
        · next q3 => rw [if_neg q3] at h; cases h
    rw [e, List.filter_cons_of_pos hp]
    cases hpb : pts b with
    | false =>
      rw [List.filter_cons_of_neg (by rw [hpb]; simp), List.filter_nil]
      show (boxTo [a] 1).rect.x ≤ _ ∧ _ ≤ (boxTo [a] 1).rect.x + (boxTo [a] 1).rect.w ∧ (boxTo [a] 1).rect.y ≤ _ ∧ _ ≤ (boxTo [a] 1).rect.y + (boxTo [a] 1).rect.h
      rw [boxTo_one, box_self]
      unfold Box.rect boxOf
      dsimp only
      omega
    | true =>
      rw [List.filter_cons_of_pos hpb, List.filter_nil]
      show (boxTo [a, b] 2).rect.x ≤ _ ∧ _ ≤ (boxTo [a, b] 2).rect.x + (boxTo [a, b] 2).rect.w ∧ (boxTo [a, b] 2).rect.y ≤ _ ∧ _ ≤ (boxTo [a, b] 2).rect.y + (boxTo [a, b] 2).rect.h
      rw [boxTo_two, box_self]
      unfold Box.rect boxOf Box.cov
      dsimp only
      omega
  unfold pts at hp
  simp only [Bool.and_eq_true, decide_eq_true_eq] at hp
  generalize around [a, b] = u at *
  have m1 : max u.x a.x = a.x := by omega
  have m2 : max u.y a.y = a.y := by omega
  have m3 : min (u.x + u.w) (a.x + a.w) = a.x + a.w := by omega
  have m4 : min (u.y + u.h) (a.y + a.h) = a.y + a.h := by omega
  unfold meet
  rw [m1, m2, m3, m4, if_pos ⟨hu, ha, by omega, by omega⟩]
  obtain ⟨x, y, c, d⟩ := a
  simp only [Rect.mk.injEq, true_and]
  exact ⟨by omega, by omega⟩
theorem k16_two (a b : Rect) (w W : World) (h : Nat) (hh : w.heap.size = h) (hW : W = w.alloc (.cells #[.int .i64 a.x, .int .i64 a.y, .int .i64 a.w, .int .i64 a.h, .int .i64 b.x, .int .i64 b.y, .int .i64 b.w, .int .i64 b.h] 23)) :
    Calls Try.prog 16 #[.slice (some ⟨h, 0, none⟩) 2 2] W fun e w' => e = .returned (.tuple #[.agg (around [a, b]).arr, .int .i64 (erA [a, b])]) ∧ Below W.heap.size W w' := by
  subst hW
  subst hh
  exact c16 (some ⟨w.heap.size, 0, none⟩) [a, b] 2 _ (rects_two w a b 23) (by simp)
theorem orders_plain (a b : Rect) (h : erA [a, b] = 0) : erM (around [a, b]) a = 0 ∧ (a.w = 0 ∨ a.h = 0 ∨ meet (around [a, b]) a = a) := by
  have ha := (two_right h).1
  refine ⟨by unfold erM; rw [if_pos ⟨around_right h, ha⟩], ?_⟩
  by_cases h1 : a.w = 0
  · exact .inl h1
  · by_cases h2 : a.h = 0
    · exact .inr (.inl h2)
    · have := right_iff.1 ha
      exact .inr (.inr (around_has h (by unfold pts; rw [decide_eq_true (show 0 < a.w by omega), decide_eq_true (show 0 < a.h by omega)]; rfl)))

set_option maxRecDepth 100000 in
set_option maxHeartbeats 4000000 in
theorem orders_walk (a b : Rect) (w : World) : Calls Try.prog 7 #[.agg a.arr, .agg b.arr] w fun e w' => e = .returned (.bool true) ∧ Below w.heap.size w w' := by
  obtain ⟨q0, q1, hB⟩ := two_new w a b
  have HB0 := Lib.hid hB
  have R0_0 := Lib.hid q0
  have R1_0 := Lib.hid q1
  have C1 := Lib.hid (fun W => c12 a b W)
  have C2 : Hid (∀ W, Calls Try.prog 12 #[.agg b.arr, .agg a.arr] W fun e w' => e = .returned (.tuple #[.agg (meet a b).arr, .int .i64 (erM a b)]) ∧ Below W.heap.size W w') := Lib.hid (fun W => by rw [meet_comm, erM_comm]; exact c12 b a W)
  have C3 := Lib.hid (fun w W h h1 h2 => k16_two a b w W h h1 h2)
  have C4 := Lib.hid (fun w W h h1 h2 => k16_two b a w W h h1 h2)
  rw [← around_comm a b, ← erA_comm a b] at C4
  have C5 := Lib.hid (fun W => c12 (around [a, b]) a W)
  have F := Lib.hid (orders_plain a b)
  have FE := Lib.hid (erA_cases [a, b])
  clear q0 q1 hB
  generalize meet (around [a, b]) a = m2 at *
  generalize erM (around [a, b]) a = er2 at *
  generalize meet a b = m at *
  generalize erM a b = er at *
  generalize around [a, b] = q at *
  generalize erA [a, b] = ea at *
  obtain ⟨x, y, u, v⟩ := a
  obtain ⟨x', y', u', v'⟩ := b
  obtain ⟨i, j, k, l⟩ := m
  obtain ⟨i', j', k', l'⟩ := q
  obtain ⟨i2, j2, k2, l2⟩ := m2
  unfold Rect.arr at *
  dsimp only at *
  go_enter Try.func7, Try.ntmps7
  go_wp2_with (fail)
  generalize ((w.alloc (.cells #[.int .i64 x, .int .i64 y, .int .i64 u, .int .i64 v] 23)).alloc (.cells #[.int .i64 x', .int .i64 y', .int .i64 u', .int .i64 v'] 23)) = w0 at *
  refine (shown w0).mono ?_
  rintro e w1 ⟨rfl, hb⟩
  have R0_1 := Lib.hid (R0_0.out.turn hb)
  have R1_1 := Lib.hid (R1_0.out.turn hb)
  have HB1 := Lib.hid (HB0.out.trans (hb.mono HB0.out.size))
  try unfold Rect.arr at R0_1 R1_1 HB1
  try dsimp only at R0_1 R1_1 HB1
  clear R0_0 R1_0 HB0
  clear hb
  have p0_0 : w1.cell? ⟨w.heap.size, 0, none⟩ = some (.int .i64 x) := R0_1.out.cells.1
  have p0_1 : w1.cell? ⟨w.heap.size, 1, none⟩ = some (.int .i64 y) := R0_1.out.cells.2.1
  have p0_2 : w1.cell? ⟨w.heap.size, 2, none⟩ = some (.int .i64 u) := R0_1.out.cells.2.2.1
  have p0_3 : w1.cell? ⟨w.heap.size, 3, none⟩ = some (.int .i64 v) := R0_1.out.cells.2.2.2
  have p1_0 : w1.cell? ⟨w.heap.size + 1, 0, none⟩ = some (.int .i64 x') := R1_1.out.cells.1
  have p1_1 : w1.cell? ⟨w.heap.size + 1, 1, none⟩ = some (.int .i64 y') := R1_1.out.cells.2.1
  have p1_2 : w1.cell? ⟨w.heap.size + 1, 2, none⟩ = some (.int .i64 u') := R1_1.out.cells.2.2.1
  have p1_3 : w1.cell? ⟨w.heap.size + 1, 3, none⟩ = some (.int .i64 v') := R1_1.out.cells.2.2.2
  go_wp2_with (fail)
  clear p0_0 p0_1 p0_2 p0_3 p1_0 p1_1 p1_2 p1_3
  refine (C1.out _).mono ?_
  rintro e w2 ⟨rfl, hb⟩
  have hbb := hb.trans (((Below.refl _ w2).alloc (Nat.le_refl _) (.cells #[.int .i64 i, .int .i64 j, .int .i64 k, .int .i64 l] 23)).mono hb.size)
  have R0_2 := Lib.hid (R0_1.out.turn hbb)
  have R1_2 := Lib.hid (R1_1.out.turn hbb)
  have R2_2 := Lib.hid (RRow.new w2 ⟨i, j, k, l⟩)
  have HB2 := Lib.hid (HB1.out.trans (hbb.mono HB1.out.size))
  try unfold Rect.arr at R0_2 R1_2 R2_2 HB2
  try dsimp only at R0_2 R1_2 R2_2 HB2
  clear R0_1 R1_1 HB1
  clear hb hbb
  have p0_0 : (w2.alloc (.cells #[.int .i64 i, .int .i64 j, .int .i64 k, .int .i64 l] 23)).cell? ⟨w.heap.size, 0, none⟩ = some (.int .i64 x) := R0_2.out.cells.1
  have p0_1 : (w2.alloc (.cells #[.int .i64 i, .int .i64 j, .int .i64 k, .int .i64 l] 23)).cell? ⟨w.heap.size, 1, none⟩ = some (.int .i64 y) := R0_2.out.cells.2.1
  have p0_2 : (w2.alloc (.cells #[.int .i64 i, .int .i64 j, .int .i64 k, .int .i64 l] 23)).cell? ⟨w.heap.size, 2, none⟩ = some (.int .i64 u) := R0_2.out.cells.2.2.1
  have p0_3 : (w2.alloc (.cells #[.int .i64 i, .int .i64 j, .int .i64 k, .int .i64 l] 23)).cell? ⟨w.heap.size, 3, none⟩ = some (.int .i64 v) := R0_2.out.cells.2.2.2
  have p1_0 : (w2.alloc (.cells #[.int .i64 i, .int .i64 j, .int .i64 k, .int .i64 l] 23)).cell? ⟨w.heap.size + 1, 0, none⟩ = some (.int .i64 x') := R1_2.out.cells.1
  have p1_1 : (w2.alloc (.cells #[.int .i64 i, .int .i64 j, .int .i64 k, .int .i64 l] 23)).cell? ⟨w.heap.size + 1, 1, none⟩ = some (.int .i64 y') := R1_2.out.cells.2.1
  have p1_2 : (w2.alloc (.cells #[.int .i64 i, .int .i64 j, .int .i64 k, .int .i64 l] 23)).cell? ⟨w.heap.size + 1, 2, none⟩ = some (.int .i64 u') := R1_2.out.cells.2.2.1
  have p1_3 : (w2.alloc (.cells #[.int .i64 i, .int .i64 j, .int .i64 k, .int .i64 l] 23)).cell? ⟨w.heap.size + 1, 3, none⟩ = some (.int .i64 v') := R1_2.out.cells.2.2.2
  go_wp2_with (fail)
  clear p0_0 p0_1 p0_2 p0_3 p1_0 p1_1 p1_2 p1_3
  have hsz : (w2.alloc (.cells #[.int .i64 i, .int .i64 j, .int .i64 k, .int .i64 l] 23)).heap.size = w2.heap.size + 1 := by simp
  generalize hq : w2.alloc (.cells #[.int .i64 i, .int .i64 j, .int .i64 k, .int .i64 l] 23) = w2' at *
  clear hq
  generalize w2.heap.size = bw2 at *
  refine (C2.out _).mono ?_
  rintro e w3 ⟨rfl, hb⟩
  clear hsz
  have hbb := hb.trans (((Below.refl _ w3).alloc (Nat.le_refl _) (.cells #[.int .i64 i, .int .i64 j, .int .i64 k, .int .i64 l] 23)).mono hb.size)
  have R0_3 := Lib.hid (R0_2.out.turn hbb)
  have R1_3 := Lib.hid (R1_2.out.turn hbb)
  have R2_3 := Lib.hid (R2_2.out.turn hbb)
  have R3_3 := Lib.hid (RRow.new w3 ⟨i, j, k, l⟩)
  have HB3 := Lib.hid (HB2.out.trans (hbb.mono HB2.out.size))
  try unfold Rect.arr at R0_3 R1_3 R2_3 R3_3 HB3
  try dsimp only at R0_3 R1_3 R2_3 R3_3 HB3
  clear R0_2 R1_2 R2_2 HB2
  clear hb hbb
  have p0_0 : (w3.alloc (.cells #[.int .i64 i, .int .i64 j, .int .i64 k, .int .i64 l] 23)).cell? ⟨w.heap.size, 0, none⟩ = some (.int .i64 x) := R0_3.out.cells.1
  have p0_1 : (w3.alloc (.cells #[.int .i64 i, .int .i64 j, .int .i64 k, .int .i64 l] 23)).cell? ⟨w.heap.size, 1, none⟩ = some (.int .i64 y) := R0_3.out.cells.2.1
  have p0_2 : (w3.alloc (.cells #[.int .i64 i, .int .i64 j, .int .i64 k, .int .i64 l] 23)).cell? ⟨w.heap.size, 2, none⟩ = some (.int .i64 u) := R0_3.out.cells.2.2.1
  have p0_3 : (w3.alloc (.cells #[.int .i64 i, .int .i64 j, .int .i64 k, .int .i64 l] 23)).cell? ⟨w.heap.size, 3, none⟩ = some (.int .i64 v) := R0_3.out.cells.2.2.2
  have p1_0 : (w3.alloc (.cells #[.int .i64 i, .int .i64 j, .int .i64 k, .int .i64 l] 23)).cell? ⟨w.heap.size + 1, 0, none⟩ = some (.int .i64 x') := R1_3.out.cells.1
  have p1_1 : (w3.alloc (.cells #[.int .i64 i, .int .i64 j, .int .i64 k, .int .i64 l] 23)).cell? ⟨w.heap.size + 1, 1, none⟩ = some (.int .i64 y') := R1_3.out.cells.2.1
  have p1_2 : (w3.alloc (.cells #[.int .i64 i, .int .i64 j, .int .i64 k, .int .i64 l] 23)).cell? ⟨w.heap.size + 1, 2, none⟩ = some (.int .i64 u') := R1_3.out.cells.2.2.1
  have p1_3 : (w3.alloc (.cells #[.int .i64 i, .int .i64 j, .int .i64 k, .int .i64 l] 23)).cell? ⟨w.heap.size + 1, 3, none⟩ = some (.int .i64 v') := R1_3.out.cells.2.2.2
  go_wp2_with (fail)
  clear p0_0 p0_1 p0_2 p0_3 p1_0 p1_1 p1_2 p1_3
  have hsz : (w3.alloc (.cells #[.int .i64 i, .int .i64 j, .int .i64 k, .int .i64 l] 23)).heap.size = w3.heap.size + 1 := by simp
  generalize hq : w3.alloc (.cells #[.int .i64 i, .int .i64 j, .int .i64 k, .int .i64 l] 23) = w3' at *
  clear hq
  generalize w3.heap.size = bw3 at *
  refine (C3.out w3' _ _ hsz rfl).mono ?_
  rintro e w4 ⟨rfl, hb⟩
  clear hsz
  have hb := ((Below.refl _ w3').alloc (Nat.le_refl _) (.cells #[.int .i64 x, .int .i64 y, .int .i64 u, .int .i64 v, .int .i64 x', .int .i64 y', .int .i64 u', .int .i64 v'] 23)).trans (hb.mono (by simp))
  have hbb := hb.trans (((Below.refl _ w4).alloc (Nat.le_refl _) (.cells #[.int .i64 i', .int .i64 j', .int .i64 k', .int .i64 l'] 23)).mono hb.size)
  have R0_4 := Lib.hid (R0_3.out.turn hbb)
  have R1_4 := Lib.hid (R1_3.out.turn hbb)
  have R2_4 := Lib.hid (R2_3.out.turn hbb)
  have R3_4 := Lib.hid (R3_3.out.turn hbb)
  have R4_4 := Lib.hid (RRow.new w4 ⟨i', j', k', l'⟩)
  have HB4 := Lib.hid (HB3.out.trans (hbb.mono HB3.out.size))
  try unfold Rect.arr at R0_4 R1_4 R2_4 R3_4 R4_4 HB4
  try dsimp only at R0_4 R1_4 R2_4 R3_4 R4_4 HB4
  clear R0_3 R1_3 R2_3 R3_3 HB3
  clear hb hbb
  have p0_0 : (w4.alloc (.cells #[.int .i64 i', .int .i64 j', .int .i64 k', .int .i64 l'] 23)).cell? ⟨w.heap.size, 0, none⟩ = some (.int .i64 x) := R0_4.out.cells.1
  have p0_1 : (w4.alloc (.cells #[.int .i64 i', .int .i64 j', .int .i64 k', .int .i64 l'] 23)).cell? ⟨w.heap.size, 1, none⟩ = some (.int .i64 y) := R0_4.out.cells.2.1
  have p0_2 : (w4.alloc (.cells #[.int .i64 i', .int .i64 j', .int .i64 k', .int .i64 l'] 23)).cell? ⟨w.heap.size, 2, none⟩ = some (.int .i64 u) := R0_4.out.cells.2.2.1
  have p0_3 : (w4.alloc (.cells #[.int .i64 i', .int .i64 j', .int .i64 k', .int .i64 l'] 23)).cell? ⟨w.heap.size, 3, none⟩ = some (.int .i64 v) := R0_4.out.cells.2.2.2
  have p1_0 : (w4.alloc (.cells #[.int .i64 i', .int .i64 j', .int .i64 k', .int .i64 l'] 23)).cell? ⟨w.heap.size + 1, 0, none⟩ = some (.int .i64 x') := R1_4.out.cells.1
  have p1_1 : (w4.alloc (.cells #[.int .i64 i', .int .i64 j', .int .i64 k', .int .i64 l'] 23)).cell? ⟨w.heap.size + 1, 1, none⟩ = some (.int .i64 y') := R1_4.out.cells.2.1
  have p1_2 : (w4.alloc (.cells #[.int .i64 i', .int .i64 j', .int .i64 k', .int .i64 l'] 23)).cell? ⟨w.heap.size + 1, 2, none⟩ = some (.int .i64 u') := R1_4.out.cells.2.2.1
  have p1_3 : (w4.alloc (.cells #[.int .i64 i', .int .i64 j', .int .i64 k', .int .i64 l'] 23)).cell? ⟨w.heap.size + 1, 3, none⟩ = some (.int .i64 v') := R1_4.out.cells.2.2.2
  go_wp2_with (fail)
  clear p0_0 p0_1 p0_2 p0_3 p1_0 p1_1 p1_2 p1_3
  have hsz : (w4.alloc (.cells #[.int .i64 i', .int .i64 j', .int .i64 k', .int .i64 l'] 23)).heap.size = w4.heap.size + 1 := by simp
  generalize hq : w4.alloc (.cells #[.int .i64 i', .int .i64 j', .int .i64 k', .int .i64 l'] 23) = w4' at *
  clear hq
  generalize w4.heap.size = bw4 at *
  refine (C4.out w4' _ _ hsz rfl).mono ?_
  rintro e w5 ⟨rfl, hb⟩
  clear hsz
  have hb := ((Below.refl _ w4').alloc (Nat.le_refl _) (.cells #[.int .i64 x', .int .i64 y', .int .i64 u', .int .i64 v', .int .i64 x, .int .i64 y, .int .i64 u, .int .i64 v] 23)).trans (hb.mono (by simp))
  have hbb := hb.trans (((Below.refl _ w5).alloc (Nat.le_refl _) (.cells #[.int .i64 i', .int .i64 j', .int .i64 k', .int .i64 l'] 23)).mono hb.size)
  have R0_5 := Lib.hid (R0_4.out.turn hbb)
  have R1_5 := Lib.hid (R1_4.out.turn hbb)
  have R2_5 := Lib.hid (R2_4.out.turn hbb)
  have R3_5 := Lib.hid (R3_4.out.turn hbb)
  have R4_5 := Lib.hid (R4_4.out.turn hbb)
  have R5_5 := Lib.hid (RRow.new w5 ⟨i', j', k', l'⟩)
  have HB5 := Lib.hid (HB4.out.trans (hbb.mono HB4.out.size))
  try unfold Rect.arr at R0_5 R1_5 R2_5 R3_5 R4_5 R5_5 HB5
  try dsimp only at R0_5 R1_5 R2_5 R3_5 R4_5 R5_5 HB5
  clear R0_4 R1_4 R2_4 R3_4 R4_4 HB4
  clear hb hbb
  have p0_0 : (w5.alloc (.cells #[.int .i64 i', .int .i64 j', .int .i64 k', .int .i64 l'] 23)).cell? ⟨w.heap.size, 0, none⟩ = some (.int .i64 x) := R0_5.out.cells.1
  have p0_1 : (w5.alloc (.cells #[.int .i64 i', .int .i64 j', .int .i64 k', .int .i64 l'] 23)).cell? ⟨w.heap.size, 1, none⟩ = some (.int .i64 y) := R0_5.out.cells.2.1
  have p0_2 : (w5.alloc (.cells #[.int .i64 i', .int .i64 j', .int .i64 k', .int .i64 l'] 23)).cell? ⟨w.heap.size, 2, none⟩ = some (.int .i64 u) := R0_5.out.cells.2.2.1
  have p0_3 : (w5.alloc (.cells #[.int .i64 i', .int .i64 j', .int .i64 k', .int .i64 l'] 23)).cell? ⟨w.heap.size, 3, none⟩ = some (.int .i64 v) := R0_5.out.cells.2.2.2
  have p1_0 : (w5.alloc (.cells #[.int .i64 i', .int .i64 j', .int .i64 k', .int .i64 l'] 23)).cell? ⟨w.heap.size + 1, 0, none⟩ = some (.int .i64 x') := R1_5.out.cells.1
  have p1_1 : (w5.alloc (.cells #[.int .i64 i', .int .i64 j', .int .i64 k', .int .i64 l'] 23)).cell? ⟨w.heap.size + 1, 1, none⟩ = some (.int .i64 y') := R1_5.out.cells.2.1
  have p1_2 : (w5.alloc (.cells #[.int .i64 i', .int .i64 j', .int .i64 k', .int .i64 l'] 23)).cell? ⟨w.heap.size + 1, 2, none⟩ = some (.int .i64 u') := R1_5.out.cells.2.2.1
  have p1_3 : (w5.alloc (.cells #[.int .i64 i', .int .i64 j', .int .i64 k', .int .i64 l'] 23)).cell? ⟨w.heap.size + 1, 3, none⟩ = some (.int .i64 v') := R1_5.out.cells.2.2.2
  have p2_0 : (w5.alloc (.cells #[.int .i64 i', .int .i64 j', .int .i64 k', .int .i64 l'] 23)).cell? ⟨bw2, 0, none⟩ = some (.int .i64 i) := R2_5.out.cells.1
  have p2_1 : (w5.alloc (.cells #[.int .i64 i', .int .i64 j', .int .i64 k', .int .i64 l'] 23)).cell? ⟨bw2, 1, none⟩ = some (.int .i64 j) := R2_5.out.cells.2.1
  have p2_2 : (w5.alloc (.cells #[.int .i64 i', .int .i64 j', .int .i64 k', .int .i64 l'] 23)).cell? ⟨bw2, 2, none⟩ = some (.int .i64 k) := R2_5.out.cells.2.2.1
  have p2_3 : (w5.alloc (.cells #[.int .i64 i', .int .i64 j', .int .i64 k', .int .i64 l'] 23)).cell? ⟨bw2, 3, none⟩ = some (.int .i64 l) := R2_5.out.cells.2.2.2
  have p3_0 : (w5.alloc (.cells #[.int .i64 i', .int .i64 j', .int .i64 k', .int .i64 l'] 23)).cell? ⟨bw3, 0, none⟩ = some (.int .i64 i) := R3_5.out.cells.1
  have p3_1 : (w5.alloc (.cells #[.int .i64 i', .int .i64 j', .int .i64 k', .int .i64 l'] 23)).cell? ⟨bw3, 1, none⟩ = some (.int .i64 j) := R3_5.out.cells.2.1
  have p3_2 : (w5.alloc (.cells #[.int .i64 i', .int .i64 j', .int .i64 k', .int .i64 l'] 23)).cell? ⟨bw3, 2, none⟩ = some (.int .i64 k) := R3_5.out.cells.2.2.1
  have p3_3 : (w5.alloc (.cells #[.int .i64 i', .int .i64 j', .int .i64 k', .int .i64 l'] 23)).cell? ⟨bw3, 3, none⟩ = some (.int .i64 l) := R3_5.out.cells.2.2.2
  have p4_0 : (w5.alloc (.cells #[.int .i64 i', .int .i64 j', .int .i64 k', .int .i64 l'] 23)).cell? ⟨bw4, 0, none⟩ = some (.int .i64 i') := R4_5.out.cells.1
  have p4_1 : (w5.alloc (.cells #[.int .i64 i', .int .i64 j', .int .i64 k', .int .i64 l'] 23)).cell? ⟨bw4, 1, none⟩ = some (.int .i64 j') := R4_5.out.cells.2.1
  have p4_2 : (w5.alloc (.cells #[.int .i64 i', .int .i64 j', .int .i64 k', .int .i64 l'] 23)).cell? ⟨bw4, 2, none⟩ = some (.int .i64 k') := R4_5.out.cells.2.2.1
  have p4_3 : (w5.alloc (.cells #[.int .i64 i', .int .i64 j', .int .i64 k', .int .i64 l'] 23)).cell? ⟨bw4, 3, none⟩ = some (.int .i64 l') := R4_5.out.cells.2.2.2
  have p5_0 : (w5.alloc (.cells #[.int .i64 i', .int .i64 j', .int .i64 k', .int .i64 l'] 23)).cell? ⟨w5.heap.size, 0, none⟩ = some (.int .i64 i') := R5_5.out.cells.1
  have p5_1 : (w5.alloc (.cells #[.int .i64 i', .int .i64 j', .int .i64 k', .int .i64 l'] 23)).cell? ⟨w5.heap.size, 1, none⟩ = some (.int .i64 j') := R5_5.out.cells.2.1
  have p5_2 : (w5.alloc (.cells #[.int .i64 i', .int .i64 j', .int .i64 k', .int .i64 l'] 23)).cell? ⟨w5.heap.size, 2, none⟩ = some (.int .i64 k') := R5_5.out.cells.2.2.1
  have p5_3 : (w5.alloc (.cells #[.int .i64 i', .int .i64 j', .int .i64 k', .int .i64 l'] 23)).cell? ⟨w5.heap.size, 3, none⟩ = some (.int .i64 l') := R5_5.out.cells.2.2.2
  clear C1 C2 C3 C4
  rcases FE.out.symm with rfl | rfl
  · clear F C5
    go_wp2_with (fail)
    go_ret
    exact ⟨rfl, HB5.out⟩
  go_wp2_with (fail)
  clear p0_0 p0_1 p0_2 p0_3 p1_0 p1_1 p1_2 p1_3 p2_0 p2_1 p2_2 p2_3 p3_0 p3_1 p3_2 p3_3 p4_0 p4_1 p4_2 p4_3 p5_0 p5_1 p5_2 p5_3
  have hsz : (w5.alloc (.cells #[.int .i64 i', .int .i64 j', .int .i64 k', .int .i64 l'] 23)).heap.size = w5.heap.size + 1 := by simp
  generalize hq : w5.alloc (.cells #[.int .i64 i', .int .i64 j', .int .i64 k', .int .i64 l'] 23) = w5' at *
  clear hq
  generalize w5.heap.size = bw5 at *
  clear hsz
  refine (C5.out _).mono ?_
  rintro e w6 ⟨rfl, hb⟩
  have hbb := hb.trans (((Below.refl _ w6).alloc (Nat.le_refl _) (.cells #[.int .i64 i2, .int .i64 j2, .int .i64 k2, .int .i64 l2] 23)).mono hb.size)
  have R0_6 := Lib.hid (R0_5.out.turn hbb)
  have R1_6 := Lib.hid (R1_5.out.turn hbb)
  have R2_6 := Lib.hid (R2_5.out.turn hbb)
  have R3_6 := Lib.hid (R3_5.out.turn hbb)
  have R4_6 := Lib.hid (R4_5.out.turn hbb)
  have R5_6 := Lib.hid (R5_5.out.turn hbb)
  have R6_6 := Lib.hid (RRow.new w6 ⟨i2, j2, k2, l2⟩)
  have HB6 := Lib.hid (HB5.out.trans (hbb.mono HB5.out.size))
  try unfold Rect.arr at R0_6 R1_6 R2_6 R3_6 R4_6 R5_6 R6_6 HB6
  try dsimp only at R0_6 R1_6 R2_6 R3_6 R4_6 R5_6 R6_6 HB6
  clear R0_5 R1_5 R2_5 R3_5 R4_5 R5_5 HB5
  clear hb hbb C5
  have p0_0 : (w6.alloc (.cells #[.int .i64 i2, .int .i64 j2, .int .i64 k2, .int .i64 l2] 23)).cell? ⟨w.heap.size, 0, none⟩ = some (.int .i64 x) := R0_6.out.cells.1
  have p0_1 : (w6.alloc (.cells #[.int .i64 i2, .int .i64 j2, .int .i64 k2, .int .i64 l2] 23)).cell? ⟨w.heap.size, 1, none⟩ = some (.int .i64 y) := R0_6.out.cells.2.1
  have p0_2 : (w6.alloc (.cells #[.int .i64 i2, .int .i64 j2, .int .i64 k2, .int .i64 l2] 23)).cell? ⟨w.heap.size, 2, none⟩ = some (.int .i64 u) := R0_6.out.cells.2.2.1
  have p0_3 : (w6.alloc (.cells #[.int .i64 i2, .int .i64 j2, .int .i64 k2, .int .i64 l2] 23)).cell? ⟨w.heap.size, 3, none⟩ = some (.int .i64 v) := R0_6.out.cells.2.2.2
  have p6_0 : (w6.alloc (.cells #[.int .i64 i2, .int .i64 j2, .int .i64 k2, .int .i64 l2] 23)).cell? ⟨w6.heap.size, 0, none⟩ = some (.int .i64 i2) := R6_6.out.cells.1
  have p6_1 : (w6.alloc (.cells #[.int .i64 i2, .int .i64 j2, .int .i64 k2, .int .i64 l2] 23)).cell? ⟨w6.heap.size, 1, none⟩ = some (.int .i64 j2) := R6_6.out.cells.2.1
  have p6_2 : (w6.alloc (.cells #[.int .i64 i2, .int .i64 j2, .int .i64 k2, .int .i64 l2] 23)).cell? ⟨w6.heap.size, 2, none⟩ = some (.int .i64 k2) := R6_6.out.cells.2.2.1
  have p6_3 : (w6.alloc (.cells #[.int .i64 i2, .int .i64 j2, .int .i64 k2, .int .i64 l2] 23)).cell? ⟨w6.heap.size, 3, none⟩ = some (.int .i64 l2) := R6_6.out.cells.2.2.2
  have F2 := F.out
  simp only [true_implies] at F2
  obtain ⟨rfl, hor⟩ := F2
  by_cases h1 : u = 0
  · clear hor F
    subst h1
    go_wp2_with (fail)
    go_ret
    exact ⟨rfl, HB6.out⟩
  · by_cases h2 : v = 0
    · clear hor F
      have h1 : (u == 0) = false := by simpa using h1
      subst h2
      go_wp2_with (fail)
      go_ret
      exact ⟨rfl, HB6.out⟩
    · have hm : Hid (i2 = x ∧ j2 = y ∧ k2 = u ∧ l2 = v) := Lib.hid (by
        rcases hor with h | h | h
        · exact absurd h h1
        · exact absurd h h2
        · simpa using h)
      have h1 : (u == 0) = false := by simpa using h1
      have h2 : (v == 0) = false := by simpa using h2
      clear hor F
      obtain ⟨rfl, rfl, rfl, rfl⟩ := hm.out
      clear hm
      go_wp2_with (fail)
      go_ret
      exact ⟨rfl, HB6.out⟩
end Go.Proofs.Ytnlojbkjhlhogaa
