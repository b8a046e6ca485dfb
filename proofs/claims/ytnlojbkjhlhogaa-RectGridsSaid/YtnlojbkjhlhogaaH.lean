/- Contract of slices.DeleteFunc at rectangles: those without points go. -/
import Derived.Test.YtnlojbkjhlhogaaG
namespace Go.Proofs.Ytnlojbkjhlhogaa
open Go Go.RowKit IV
set_option linter.unusedVariables false

theorem run_clear_rects (w : World) (ty : TypeId) (b o n c : Nat) (hn : 0 < n) (hc : ∀ j, j < n * 4 → (w.cell? ⟨b, o + j, none⟩).isSome = true) (hf : ∀ j, w.frozen? ⟨b, j, none⟩ = false) :
    (Builtin.clear_ #[30] ty #[.slice (some ⟨b, o, none⟩) n c]).run Try.prog w = .ok (.tuple #[]) (w.setCells b o (Builtin.zeroCells #[.int .i64 0, .int .i64 0, .int .i64 0, .int .i64 0] n).toList) ∧ (Builtin.zeroCells #[.int .i64 0, .int .i64 0, .int .i64 0, .int .i64 0] n).toList.length = n * 4 := by
  have hl : (Builtin.zeroCells #[.int .i64 0, .int .i64 0, .int .i64 0, .int .i64 0] n).toList.length = n * 4 := by simp [Builtin.zeroCells]
  have hall : ∀ v ∈ (Builtin.zeroCells #[.int .i64 0, .int .i64 0, .int .i64 0, .int .i64 0] n).toList, v.oneCell' = true := by
    intro v hv
    simp only [Builtin.zeroCells, Array.toList_map, List.mem_map] at hv
    obtain ⟨i, _, rfl⟩ := hv
    have h4 : i % 4 = 0 ∨ i % 4 = 1 ∨ i % 4 = 2 ∨ i % 4 = 3 := by omega
    rcases h4 with h | h | h | h <;> simp [h] <;> rfl
  refine ⟨?_, hl⟩
  have hst := run_storeCells_cells (P := Try.prog) b o (Builtin.zeroCells #[.int .i64 0, .int .i64 0, .int .i64 0, .int .i64 0] n).toList 0 w (by rw [hl]; simpa using hc) (fun j _ => hf _) hall
  simp only [Nat.add_zero] at hst
  obtain ⟨m, rfl⟩ : ∃ m, n = m + 1 := ⟨n - 1, by omega⟩
  have hz : ∀ w, (zeroValue 23).run Try.prog w = .ok (.agg #[.int .i64 0, .int .i64 0, .int .i64 0, .int .i64 0]) w := fun w => Try.zeroValue23 w
  simp [Builtin.clear_, run_underlying Try.underlying30, hz, hst, Value.cells]

theorem c_oth {W : World} {g a b : Nat} {v : Value} (h : a ≠ b) : (W.setCell ⟨g, a, none⟩ v).cell? ⟨g, b, none⟩ = W.cell? ⟨g, b, none⟩ := by
  apply World.cell?_setCell_other
  intro e
  exact h (by cases e; rfl)
theorem four_same {W : World} {g o : Nat} {x y u v : Value} (h0 : (W.cell? ⟨g, o, none⟩).isSome = true) (h1 : (W.cell? ⟨g, o + 1, none⟩).isSome = true) (h2 : (W.cell? ⟨g, o + 2, none⟩).isSome = true) (h3 : (W.cell? ⟨g, o + 3, none⟩).isSome = true) :
    ((((W.setCell ⟨g, o, none⟩ x).setCell ⟨g, o + 1, none⟩ y).setCell ⟨g, o + 2, none⟩ u).setCell ⟨g, o + 3, none⟩ v).cell? ⟨g, o, none⟩ = some x ∧ ((((W.setCell ⟨g, o, none⟩ x).setCell ⟨g, o + 1, none⟩ y).setCell ⟨g, o + 2, none⟩ u).setCell ⟨g, o + 3, none⟩ v).cell? ⟨g, o + 1, none⟩ = some y ∧
    ((((W.setCell ⟨g, o, none⟩ x).setCell ⟨g, o + 1, none⟩ y).setCell ⟨g, o + 2, none⟩ u).setCell ⟨g, o + 3, none⟩ v).cell? ⟨g, o + 2, none⟩ = some u ∧ ((((W.setCell ⟨g, o, none⟩ x).setCell ⟨g, o + 1, none⟩ y).setCell ⟨g, o + 2, none⟩ u).setCell ⟨g, o + 3, none⟩ v).cell? ⟨g, o + 3, none⟩ = some v := by
  refine ⟨?_, ?_, ?_, ?_⟩
  · rw [c_oth (by omega), c_oth (by omega), c_oth (by omega), World.cell?_setCell_same' _ _ _ h0]
  · rw [c_oth (by omega), c_oth (by omega), World.cell?_setCell_same' _ _ _ (by rw [c_oth (by omega)]; exact h1)]
  · rw [c_oth (by omega), World.cell?_setCell_same' _ _ _ (by rw [c_oth (by omega), c_oth (by omega)]; exact h2)]
  · rw [World.cell?_setCell_same' _ _ _ (by rw [c_oth (by omega), c_oth (by omega), c_oth (by omega)]; exact h3)]
theorem four_other {W : World} {g o k : Nat} {x y u v : Value} (h : k < o ∨ o + 4 ≤ k) : ((((W.setCell ⟨g, o, none⟩ x).setCell ⟨g, o + 1, none⟩ y).setCell ⟨g, o + 2, none⟩ u).setCell ⟨g, o + 3, none⟩ v).cell? ⟨g, k, none⟩ = W.cell? ⟨g, k, none⟩ := by
  rw [c_oth (by omega), c_oth (by omega), c_oth (by omega), c_oth (by omega)]
theorem rects_set {W : World} {g i : Nat} {cur : List Rect} (h : Rects W (some ⟨g, 0, none⟩) cur) (hi : i < cur.length) (r : Rect) :
    Rects ((((W.setCell ⟨g, i * 4, none⟩ (.int .i64 r.x)).setCell ⟨g, i * 4 + 1, none⟩ (.int .i64 r.y)).setCell ⟨g, i * 4 + 2, none⟩ (.int .i64 r.w)).setCell ⟨g, i * 4 + 3, none⟩ (.int .i64 r.h)) (some ⟨g, 0, none⟩) (cur.set i r) := fun j hj => by
  rw [List.length_set] at hj
  refine ⟨g, 0, rfl, ?_⟩
  obtain ⟨b, off, e, h0, h1, h2, h3⟩ := h j hj
  cases e
  rw [Nat.zero_add] at h0 h1 h2 h3 ⊢
  by_cases e : i = j
  · subst e
    have hs := four_same (W := W) (g := g) (o := i * 4) (x := .int .i64 r.x) (y := .int .i64 r.y) (u := .int .i64 r.w) (v := .int .i64 r.h) (by rw [h0]; rfl) (by rw [h1]; rfl) (by rw [h2]; rfl) (by rw [h3]; rfl)
    rw [List.getElem?_set_self hi]
    exact hs
  · rw [List.getElem?_set_ne e]
    exact ⟨(four_other (by omega)).trans h0, (four_other (by omega)).trans h1, (four_other (by omega)).trans h2, (four_other (by omega)).trans h3⟩
theorem rects_cut {W : World} {g i : Nat} {cur : List Rect} (h : Rects W (some ⟨g, 0, none⟩) cur) (vs : List Value) : Rects (W.setCells g (i * 4) vs) (some ⟨g, 0, none⟩) (cur.take i) := fun j hj => by
  rw [List.length_take] at hj
  refine ⟨g, 0, rfl, ?_⟩
  obtain ⟨b, off, e, h0, h1, h2, h3⟩ := h j (by omega)
  cases e
  rw [Nat.zero_add] at h0 h1 h2 h3 ⊢
  rw [List.getElem?_take, if_pos (by omega)]
  have k : ∀ q, q < i * 4 → (W.setCells g (i * 4) vs).cell? ⟨g, q, none⟩ = W.cell? ⟨g, q, none⟩ := fun q hq => World.cell?_setCells_out g vs (i * 4) W ⟨g, q, none⟩ (fun _ _ => Or.inl hq)
  exact ⟨(k _ (by omega)).trans h0, (k _ (by omega)).trans h1, (k _ (by omega)).trans h2, (k _ (by omega)).trans h3⟩
theorem below_setCells {B : Nat} {a W : World} {g o : Nat} {vs : List Value} (h : Below B a W) (hB : B ≤ g) : Below B a (W.setCells g o vs) := by
  induction vs generalizing o W with
  | nil => exact h
  | cons v vs ih => exact ih (h.setCell hB v)

/-- how far DeleteFunc has come -/
structure Del (xs : List Rect) (g i j : Nat) (cur : List Rect) (W : World) : Prop where
  le : i < j ∧ j ≤ xs.length
  len : cur.length = xs.length
  rects : Rects W (some ⟨g, 0, none⟩) cur
  done : cur.take i = (xs.take j).filter pts
  rest : ∀ k, j ≤ k → k < xs.length → cur[k]? = xs[k]?
  froz : ∀ k, W.frozen? ⟨g, k, none⟩ = false
theorem Del.turn {xs : List Rect} {g i j : Nat} {cur : List Rect} {W W' : World} (h : Del xs g i j cur W) (hb : Below W.heap.size W W') (hg : g < W.heap.size) : Del xs g i j cur W' :=
  ⟨h.le, h.len, h.rects.below hb, h.done, h.rest, fun k => (hb.frozen (p := ⟨g, k, none⟩) hg).trans (h.froz k)⟩
theorem take_next {xs : List Rect} {j : Nat} (h : j < xs.length) : xs.take (j + 1) = xs.take j ++ [xs[j]?.getD default] := by
  rw [List.take_add_one, List.getElem?_eq_getElem h]; rfl
theorem Del.keep {xs : List Rect} {g i j : Nat} {cur : List Rect} {W : World} (h : Del xs g i j cur W) (hj : j < xs.length) (hp : pts (xs[j]?.getD default) = true) :
    Del xs g (i + 1) (j + 1) (cur.set i (xs[j]?.getD default)) ((((W.setCell ⟨g, i * 4, none⟩ (.int .i64 (xs[j]?.getD default).x)).setCell ⟨g, i * 4 + 1, none⟩ (.int .i64 (xs[j]?.getD default).y)).setCell ⟨g, i * 4 + 2, none⟩ (.int .i64 (xs[j]?.getD default).w)).setCell ⟨g, i * 4 + 3, none⟩ (.int .i64 (xs[j]?.getD default).h)) := by
  have hle := h.le
  have hlen := h.len
  refine ⟨by omega, by rw [List.length_set, hlen], rects_set h.rects (by omega) _, ?_, fun k h1 h2 => ?_, fun k => ?_⟩
  · rw [take_next hj, List.filter_append, ← h.done, List.filter_cons, if_pos hp, List.filter_nil]
    rw [List.take_add_one, List.getElem?_set_self (by omega), List.take_set_of_le (Nat.le_refl _)]
    rfl
  · rw [List.getElem?_set_ne (by omega)]; exact h.rest k (by omega) h2
  · simp only [World.frozen?_setCell]; exact h.froz k
theorem Del.drop {xs : List Rect} {g i j : Nat} {cur : List Rect} {W : World} (h : Del xs g i j cur W) (hj : j < xs.length) (hp : pts (xs[j]?.getD default) = false) : Del xs g i (j + 1) cur W := by
  have hle := h.le
  refine ⟨by omega, h.len, h.rects, ?_, fun k h1 h2 => h.rest k (by omega) h2, h.froz⟩
  rw [take_next hj, List.filter_append, ← h.done, List.filter_cons, if_neg (by rw [hp]; simp), List.filter_nil, List.append_nil]
theorem Del.start {xs : List Rect} {g k : Nat} {W : World} (h : Rects W (some ⟨g, 0, none⟩) xs) (hf : ∀ k, W.frozen? ⟨g, k, none⟩ = false) (hk : k < xs.length) (h1 : pts (xs[k]?.getD default) = false) (h2 : ∀ j, j < k → pts (xs[j]?.getD default) = true) : Del xs g k (k + 1) xs W := by
  refine ⟨by omega, rfl, h, ?_, fun _ _ _ => rfl, hf⟩
  rw [take_next hk, List.filter_append, List.filter_cons, if_neg (by rw [h1]; simp), List.filter_nil, List.append_nil, List.filter_eq_self.2]
  intro x hx
  obtain ⟨j, hj, rfl⟩ := List.getElem_of_mem hx
  rw [List.length_take] at hj
  have := h2 j (by omega)
  rw [List.getElem?_eq_getElem (by omega)] at this
  simpa using this
theorem filter_all {xs : List Rect} (h : ∀ j, j < xs.length → pts (xs[j]?.getD default) = true) : xs.filter pts = xs := by
  rw [List.filter_eq_self]
  intro x hx
  obtain ⟨j, hj, rfl⟩ := List.getElem_of_mem hx
  have := h j hj
  rw [List.getElem?_eq_getElem hj] at this
  simpa using this

set_option maxRecDepth 100000 in
set_option maxHeartbeats 2000000 in
theorem c30_32 (v : Value) (xs : List Rect) (base : Nat) (w : World) (hx : w.ownsRow base 23 4 v xs.length (flat xs)) (hl : xs.length ≤ 1000000) (hbase : base ≤ w.heap.size) :
    Calls Try.prog 30 #[v, .func (.func 32) #[] #[]] w fun e w' => ∃ A c, e = .returned (.slice A (xs.filter pts).length c) ∧ Rects w' A (xs.filter pts) ∧ Below base w w' ∧ (xs.filter pts).length ≤ c := by
  obtain ⟨A, c, hv, hr⟩ := own_rects hx rfl
  have hgg : ∀ g, v = .slice (some ⟨g, 0, none⟩) xs.length c → base ≤ g ∧ g < w.heap.size ∧ ∀ k, w.frozen? ⟨g, k, none⟩ = false := fun g e => by
    rcases hx.2 with ⟨h, _⟩ | ⟨g', cap, cur, h1, h2, h3, _⟩
    · rw [h] at e; cases e
    · rw [h1] at e; cases e; exact ⟨h2, (Array.getElem?_eq_some_iff.1 h3).1, fun k => by simp [World.frozen?, h3]⟩
  have hA : ∀ ad, A = some ad → ∃ g, ad = ⟨g, 0, none⟩ := fun ad e => by
    rcases hx.2 with ⟨h, _⟩ | ⟨g', cap, cur, h1, _⟩
    · rw [hv, e] at h; cases h
    · rw [hv, e] at h1; cases h1; exact ⟨_, rfl⟩
  have hcap : xs.length ≤ c := by
    rcases hx.2 with ⟨h, h0⟩ | ⟨g', cap, cur, h1, _, _, h4, _⟩
    · omega
    · rw [hv] at h1; cases h1; exact h4
  subst hv
  have C43 := Lib.hid (c43_32 A xs c w hr (by omega))
  have Hr := Lib.hid hr
  have Hgg := Lib.hid hgg
  have HA := Lib.hid hA
  clear hx hr hgg hA
  go_enter Try.func30, Try.ntmps30
  go_wp2_with (fail)
  refine C43.out.mono ?_
  rintro e w1 ⟨i, rfl, hi, hb1⟩
  have HI := Lib.hid hi
  have HB1 := Lib.hid hb1
  clear hi hb1 C43
  rcases HI.out with ⟨rfl, hall⟩ | ⟨k, hk, rfl, h1, h2⟩
  · have Hall := Lib.hid (filter_all hall)
    clear hall HI
    go_wp2_with (fail)
    go_ret
    rw [Hall.out]
    exact ⟨A, c, rfl, Hr.out.below HB1.out, HB1.out.mono hbase, hcap⟩
  · obtain ⟨g, off0, rfl, -⟩ := Hr.out k hk
    obtain ⟨g', hg⟩ := HA.out _ rfl
    obtain ⟨rfl, rfl⟩ : g = g' ∧ off0 = 0 := by cases hg; exact ⟨rfl, rfl⟩
    obtain ⟨hbg, hgw, hfz⟩ := Hgg.out _ rfl
    have hg1 : g < w1.heap.size := Nat.lt_of_lt_of_le hgw HB1.out.size
    have HD0 := Lib.hid (Del.start (Hr.out.below HB1.out) (fun q => (HB1.out.frozen (p := ⟨g, q, none⟩) hgw).trans (hfz q)) hk h1 h2)
    have HBb : Hid (Below base w w1) := Lib.hid (HB1.out.mono (by omega))
    have tne : ((k : Int) == -1) = false := by rw [beq_eq_false_iff_ne]; omega
    clear HI h1 h2 hfz Hr Hgg HA HB1
    go_wp2_with (fail)
    go_loopw [5, 6] (fun a b wr => ∃ (i j : Nat) (cur : List Rect), a = .int .i64 i ∧ b = .int .i64 j ∧ Hid (Del xs g i j cur wr) ∧ Hid (Below base w wr) ∧ g < wr.heap.size) (fun _ b _ => xs.length - (intOf b).toNat)
    case atStart => exact ⟨k, k + 1, xs, rfl, by go_num, HD0, HBb, hg1⟩
    case round =>
      obtain ⟨i, j, cur, rfl, rfl, HD, HB, hgr⟩ := hrel
      have hle := HD.out.le
      have hlen := HD.out.len
      by_cases hlt : j < xs.length
      · obtain ⟨bb, oo, e0, hc0⟩ := HD.out.rects j (by omega)
        cases e0
        rw [HD.out.rest j (Nat.le_refl _) hlt] at hc0
        have Hx : Hid (∃ r, r = xs[j]?.getD default) := Lib.hid ⟨_, rfl⟩
        have hkp := Lib.hid (fun W (h : Del xs g i j cur W) => h.keep hlt)
        have hdp := Lib.hid (fun W (h : Del xs g i j cur W) => h.drop hlt)
        generalize xs[j]?.getD default = r at *
        clear Hx
        obtain ⟨x, y, u, vv⟩ := r
        rw [Nat.zero_add] at hc0
        obtain ⟨q0, q1, q2, q3⟩ := hc0
        have hb0 : Below wr.heap.size wr (wr.alloc (.cells (Rect.arr ⟨x, y, u, vv⟩) 23)) := (Below.refl _ wr).alloc (Nat.le_refl _) _
        have hr0 := RRow.new wr ⟨x, y, u, vv⟩
        cases hp : pts ⟨x, y, u, vv⟩ with
        | true =>
          have CP := Lib.hid (fun W => c32 ⟨x, y, u, vv⟩ W)
          rw [hp] at CP
          have HK := Lib.hid (fun W (h : Del xs g i j cur W) => hkp.out W h hp)
          have HB0 := Lib.hid hb0
          have HR0 := Lib.hid hr0
          unfold Rect.arr at CP HB0 HR0
          dsimp only at CP q0 q1 q2 q3 HK HB0 HR0
          clear hkp hdp hp hb0 hr0
          go_wp2_with (fail)
          refine (CP.out _).mono ?_
          rintro e w2 ⟨rfl, hb2⟩
          have hbb := HB0.out.trans (hb2.mono HB0.out.size)
          have HR2 := Lib.hid (HR0.out.turn hb2)
          have HD2 := Lib.hid (HD.out.turn hbb hgr)
          have HB2 := Lib.hid (HB.out.trans (hbb.mono (by have := HB.out.size; omega)))
          have hgr2 : g < w2.heap.size := Nat.lt_of_lt_of_le hgr hbb.size
          have hg2 := Lib.hid hgr2
          obtain ⟨b9, o9, e9, n0, n1, n2, n3⟩ := HD2.out.rects i (by omega)
          cases e9
          rw [Nat.zero_add] at n0 n1 n2 n3
          have f1 := HD2.out.froz
          have m0 : w2.cell? ⟨wr.heap.size, 0, none⟩ = some (.int .i64 x) := HR2.out.cells.1
          have m1 : w2.cell? ⟨wr.heap.size, 1, none⟩ = some (.int .i64 y) := HR2.out.cells.2.1
          have m2 : w2.cell? ⟨wr.heap.size, 2, none⟩ = some (.int .i64 u) := HR2.out.cells.2.2.1
          have m3 : w2.cell? ⟨wr.heap.size, 3, none⟩ = some (.int .i64 vv) := HR2.out.cells.2.2.2
          clear q0 q1 q2 q3 CP HB0 HR0 HD hb2 hbb HB HR2 hgr hgr2
          go_wp2_with (fail)
          go_roundw
          case rel => exact ⟨i + 1, j + 1, _, by go_num, by go_num, Lib.hid (HK.out _ HD2.out), Lib.hid ((((HB2.out.setCell hbg _).setCell hbg _).setCell hbg _).setCell hbg _), by simp only [World.setCell, Array.size_modify]; exact hg2.out⟩
          case measure => simp [intOf]; omega
        | false =>
          have CP := Lib.hid (fun W => c32 ⟨x, y, u, vv⟩ W)
          rw [hp] at CP
          have HK := Lib.hid (fun W (h : Del xs g i j cur W) => hdp.out W h hp)
          have HB0 := Lib.hid hb0
          unfold Rect.arr at CP HB0
          dsimp only at CP q0 q1 q2 q3 HK HB0
          clear hkp hdp hp hb0 hr0
          go_wp2_with (fail)
          refine (CP.out _).mono ?_
          rintro e w2 ⟨rfl, hb2⟩
          have hbb := HB0.out.trans (hb2.mono HB0.out.size)
          have HD2 := Lib.hid (HK.out _ (HD.out.turn hbb hgr))
          have HB2 := Lib.hid (HB.out.trans (hbb.mono (by have := HB.out.size; omega)))
          have hgr2 : g < w2.heap.size := Nat.lt_of_lt_of_le hgr hbb.size
          have hg2 := Lib.hid hgr2
          clear q0 q1 q2 q3 CP HB0 HD hb2 hbb HB hgr hgr2
          go_wp2_with (fail)
          go_roundw
          case rel => exact ⟨i, j + 1, cur, rfl, by go_num, HD2, HB2, hg2.out⟩
          case measure => simp [intOf]; omega
      · obtain rfl : j = xs.length := by omega
        have hdone := HD.out.done
        rw [List.take_length] at hdone
        have hlf : (xs.filter pts).length = i := by rw [← hdone, List.length_take]; omega
        have hcl := fun ty => run_clear_rects wr ty g (i * 4) (xs.length - i) (c - i) (by omega) (fun q hq => by
          obtain ⟨b9, o9, e9, n0, n1, n2, n3⟩ := HD.out.rects (i + q / 4) (by omega)
          cases e9
          have hm : q % 4 = 0 ∨ q % 4 = 1 ∨ q % 4 = 2 ∨ q % 4 = 3 := by omega
          rcases hm with hm | hm | hm | hm
          · rw [show i * 4 + q = 0 + (i + q / 4) * 4 by omega, n0]; rfl
          · rw [show i * 4 + q = 0 + (i + q / 4) * 4 + 1 by omega, n1]; rfl
          · rw [show i * 4 + q = 0 + (i + q / 4) * 4 + 2 by omega, n2]; rfl
          · rw [show i * 4 + q = 0 + (i + q / 4) * 4 + 3 by omega, n3]; rfl) HD.out.froz
        have hcl1 := fun ty => (hcl ty).1
        have HF := Lib.hid (show Rects (wr.setCells g (i * 4) (Builtin.zeroCells #[.int .i64 0, .int .i64 0, .int .i64 0, .int .i64 0] (xs.length - i)).toList) (some ⟨g, 0, none⟩) (xs.filter pts) from by rw [← hdone]; exact rects_cut HD.out.rects _)
        have HBF := Lib.hid (below_setCells (vs := (Builtin.zeroCells #[.int .i64 0, .int .i64 0, .int .i64 0, .int .i64 0] (xs.length - i)).toList) (o := i * 4) HB.out hbg)
        have Hlf := Lib.hid hlf
        have sub : ((xs.length : Int) - (i : Int)) = ((xs.length - i : Nat) : Int) := by omega
        clear hcl hdone hlf HD HB
        go_wp2_with (fail)
        go_ret
        exact ⟨some ⟨g, 0, none⟩, c, by rw [Hlf.out]; rfl, HF.out, HBF.out, Nat.le_trans (List.length_filter_le _ _) hcap⟩

set_option maxRecDepth 100000 in
set_option maxHeartbeats 2000000 in
theorem c30_36 (v : Value) (xs : List Rect) (base : Nat) (w : World) (hx : w.ownsRow base 23 4 v xs.length (flat xs)) (hl : xs.length ≤ 1000000) (hbase : base ≤ w.heap.size) :
    Calls Try.prog 30 #[v, .func (.func 36) #[] #[]] w fun e w' => ∃ A c, e = .returned (.slice A (xs.filter pts).length c) ∧ Rects w' A (xs.filter pts) ∧ Below base w w' ∧ (xs.filter pts).length ≤ c := by
  obtain ⟨A, c, hv, hr⟩ := own_rects hx rfl
  have hgg : ∀ g, v = .slice (some ⟨g, 0, none⟩) xs.length c → base ≤ g ∧ g < w.heap.size ∧ ∀ k, w.frozen? ⟨g, k, none⟩ = false := fun g e => by
    rcases hx.2 with ⟨h, _⟩ | ⟨g', cap, cur, h1, h2, h3, _⟩
    · rw [h] at e; cases e
    · rw [h1] at e; cases e; exact ⟨h2, (Array.getElem?_eq_some_iff.1 h3).1, fun k => by simp [World.frozen?, h3]⟩
  have hA : ∀ ad, A = some ad → ∃ g, ad = ⟨g, 0, none⟩ := fun ad e => by
    rcases hx.2 with ⟨h, _⟩ | ⟨g', cap, cur, h1, _⟩
    · rw [hv, e] at h; cases h
    · rw [hv, e] at h1; cases h1; exact ⟨_, rfl⟩
  have hcap : xs.length ≤ c := by
    rcases hx.2 with ⟨h, h0⟩ | ⟨g', cap, cur, h1, _, _, h4, _⟩
    · omega
    · rw [hv] at h1; cases h1; exact h4
  subst hv
  have C43 := Lib.hid (c43_36 A xs c w hr (by omega))
  have Hr := Lib.hid hr
  have Hgg := Lib.hid hgg
  have HA := Lib.hid hA
  clear hx hr hgg hA
  go_enter Try.func30, Try.ntmps30
  go_wp2_with (fail)
  refine C43.out.mono ?_
  rintro e w1 ⟨i, rfl, hi, hb1⟩
  have HI := Lib.hid hi
  have HB1 := Lib.hid hb1
  clear hi hb1 C43
  rcases HI.out with ⟨rfl, hall⟩ | ⟨k, hk, rfl, h1, h2⟩
  · have Hall := Lib.hid (filter_all hall)
    clear hall HI
    go_wp2_with (fail)
    go_ret
    rw [Hall.out]
    exact ⟨A, c, rfl, Hr.out.below HB1.out, HB1.out.mono hbase, hcap⟩
  · obtain ⟨g, off0, rfl, -⟩ := Hr.out k hk
    obtain ⟨g', hg⟩ := HA.out _ rfl
    obtain ⟨rfl, rfl⟩ : g = g' ∧ off0 = 0 := by cases hg; exact ⟨rfl, rfl⟩
    obtain ⟨hbg, hgw, hfz⟩ := Hgg.out _ rfl
    have hg1 : g < w1.heap.size := Nat.lt_of_lt_of_le hgw HB1.out.size
    have HD0 := Lib.hid (Del.start (Hr.out.below HB1.out) (fun q => (HB1.out.frozen (p := ⟨g, q, none⟩) hgw).trans (hfz q)) hk h1 h2)
    have HBb : Hid (Below base w w1) := Lib.hid (HB1.out.mono (by omega))
    have tne : ((k : Int) == -1) = false := by rw [beq_eq_false_iff_ne]; omega
    clear HI h1 h2 hfz Hr Hgg HA HB1
    go_wp2_with (fail)
    go_loopw [5, 6] (fun a b wr => ∃ (i j : Nat) (cur : List Rect), a = .int .i64 i ∧ b = .int .i64 j ∧ Hid (Del xs g i j cur wr) ∧ Hid (Below base w wr) ∧ g < wr.heap.size) (fun _ b _ => xs.length - (intOf b).toNat)
    case atStart => exact ⟨k, k + 1, xs, rfl, by go_num, HD0, HBb, hg1⟩
    case round =>
      obtain ⟨i, j, cur, rfl, rfl, HD, HB, hgr⟩ := hrel
      have hle := HD.out.le
      have hlen := HD.out.len
      by_cases hlt : j < xs.length
      · obtain ⟨bb, oo, e0, hc0⟩ := HD.out.rects j (by omega)
        cases e0
        rw [HD.out.rest j (Nat.le_refl _) hlt] at hc0
        have Hx : Hid (∃ r, r = xs[j]?.getD default) := Lib.hid ⟨_, rfl⟩
        have hkp := Lib.hid (fun W (h : Del xs g i j cur W) => h.keep hlt)
        have hdp := Lib.hid (fun W (h : Del xs g i j cur W) => h.drop hlt)
        generalize xs[j]?.getD default = r at *
        clear Hx
        obtain ⟨x, y, u, vv⟩ := r
        rw [Nat.zero_add] at hc0
        obtain ⟨q0, q1, q2, q3⟩ := hc0
        have hb0 : Below wr.heap.size wr (wr.alloc (.cells (Rect.arr ⟨x, y, u, vv⟩) 23)) := (Below.refl _ wr).alloc (Nat.le_refl _) _
        have hr0 := RRow.new wr ⟨x, y, u, vv⟩
        cases hp : pts ⟨x, y, u, vv⟩ with
        | true =>
          have CP := Lib.hid (fun W => c36 ⟨x, y, u, vv⟩ W)
          rw [hp] at CP
          have HK := Lib.hid (fun W (h : Del xs g i j cur W) => hkp.out W h hp)
          have HB0 := Lib.hid hb0
          have HR0 := Lib.hid hr0
          unfold Rect.arr at CP HB0 HR0
          dsimp only at CP q0 q1 q2 q3 HK HB0 HR0
          clear hkp hdp hp hb0 hr0
          go_wp2_with (fail)
          refine (CP.out _).mono ?_
          rintro e w2 ⟨rfl, hb2⟩
          have hbb := HB0.out.trans (hb2.mono HB0.out.size)
          have HR2 := Lib.hid (HR0.out.turn hb2)
          have HD2 := Lib.hid (HD.out.turn hbb hgr)
          have HB2 := Lib.hid (HB.out.trans (hbb.mono (by have := HB.out.size; omega)))
          have hgr2 : g < w2.heap.size := Nat.lt_of_lt_of_le hgr hbb.size
          have hg2 := Lib.hid hgr2
          obtain ⟨b9, o9, e9, n0, n1, n2, n3⟩ := HD2.out.rects i (by omega)
          cases e9
          rw [Nat.zero_add] at n0 n1 n2 n3
          have f1 := HD2.out.froz
          have m0 : w2.cell? ⟨wr.heap.size, 0, none⟩ = some (.int .i64 x) := HR2.out.cells.1
          have m1 : w2.cell? ⟨wr.heap.size, 1, none⟩ = some (.int .i64 y) := HR2.out.cells.2.1
          have m2 : w2.cell? ⟨wr.heap.size, 2, none⟩ = some (.int .i64 u) := HR2.out.cells.2.2.1
          have m3 : w2.cell? ⟨wr.heap.size, 3, none⟩ = some (.int .i64 vv) := HR2.out.cells.2.2.2
          clear q0 q1 q2 q3 CP HB0 HR0 HD hb2 hbb HB HR2 hgr hgr2
          go_wp2_with (fail)
          go_roundw
          case rel => exact ⟨i + 1, j + 1, _, by go_num, by go_num, Lib.hid (HK.out _ HD2.out), Lib.hid ((((HB2.out.setCell hbg _).setCell hbg _).setCell hbg _).setCell hbg _), by simp only [World.setCell, Array.size_modify]; exact hg2.out⟩
          case measure => simp [intOf]; omega
        | false =>
          have CP := Lib.hid (fun W => c36 ⟨x, y, u, vv⟩ W)
          rw [hp] at CP
          have HK := Lib.hid (fun W (h : Del xs g i j cur W) => hdp.out W h hp)
          have HB0 := Lib.hid hb0
          unfold Rect.arr at CP HB0
          dsimp only at CP q0 q1 q2 q3 HK HB0
          clear hkp hdp hp hb0 hr0
          go_wp2_with (fail)
          refine (CP.out _).mono ?_
          rintro e w2 ⟨rfl, hb2⟩
          have hbb := HB0.out.trans (hb2.mono HB0.out.size)
          have HD2 := Lib.hid (HK.out _ (HD.out.turn hbb hgr))
          have HB2 := Lib.hid (HB.out.trans (hbb.mono (by have := HB.out.size; omega)))
          have hgr2 : g < w2.heap.size := Nat.lt_of_lt_of_le hgr hbb.size
          have hg2 := Lib.hid hgr2
          clear q0 q1 q2 q3 CP HB0 HD hb2 hbb HB hgr hgr2
          go_wp2_with (fail)
          go_roundw
          case rel => exact ⟨i, j + 1, cur, rfl, by go_num, HD2, HB2, hg2.out⟩
          case measure => simp [intOf]; omega
      · obtain rfl : j = xs.length := by omega
        have hdone := HD.out.done
        rw [List.take_length] at hdone
        have hlf : (xs.filter pts).length = i := by rw [← hdone, List.length_take]; omega
        have hcl := fun ty => run_clear_rects wr ty g (i * 4) (xs.length - i) (c - i) (by omega) (fun q hq => by
          obtain ⟨b9, o9, e9, n0, n1, n2, n3⟩ := HD.out.rects (i + q / 4) (by omega)
          cases e9
          have hm : q % 4 = 0 ∨ q % 4 = 1 ∨ q % 4 = 2 ∨ q % 4 = 3 := by omega
          rcases hm with hm | hm | hm | hm
          · rw [show i * 4 + q = 0 + (i + q / 4) * 4 by omega, n0]; rfl
          · rw [show i * 4 + q = 0 + (i + q / 4) * 4 + 1 by omega, n1]; rfl
          · rw [show i * 4 + q = 0 + (i + q / 4) * 4 + 2 by omega, n2]; rfl
          · rw [show i * 4 + q = 0 + (i + q / 4) * 4 + 3 by omega, n3]; rfl) HD.out.froz
        have hcl1 := fun ty => (hcl ty).1
        have HF := Lib.hid (show Rects (wr.setCells g (i * 4) (Builtin.zeroCells #[.int .i64 0, .int .i64 0, .int .i64 0, .int .i64 0] (xs.length - i)).toList) (some ⟨g, 0, none⟩) (xs.filter pts) from by rw [← hdone]; exact rects_cut HD.out.rects _)
        have HBF := Lib.hid (below_setCells (vs := (Builtin.zeroCells #[.int .i64 0, .int .i64 0, .int .i64 0, .int .i64 0] (xs.length - i)).toList) (o := i * 4) HB.out hbg)
        have Hlf := Lib.hid hlf
        have sub : ((xs.length : Int) - (i : Int)) = ((xs.length - i : Nat) : Int) := by omega
        clear hcl hdone hlf HD HB
        go_wp2_with (fail)
        go_ret
        exact ⟨some ⟨g, 0, none⟩, c, by rw [Hlf.out]; rfl, HF.out, HBF.out, Nat.le_trans (List.length_filter_le _ _) hcap⟩

end Go.Proofs.Ytnlojbkjhlhogaa
