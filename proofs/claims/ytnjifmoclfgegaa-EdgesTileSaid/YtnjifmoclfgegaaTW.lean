/- The walk of the law EdgesTile: any bands, gaps. -/
import Derived.Test.YtnjifmoclfgegaaTL
import Derived.Test.YtnjifmoclfgegaaGR
import Derived.Test.YtnjifmoclfgegaaAE
namespace Go.Proofs.Ytnjifmoclfgegaa
open Go Go.RowKit Go.Shelf
set_option linter.unusedVariables false

theorem rect_one : ∀ x : Rect, ∀ u ∈ Rect.cells x, u.oneCell' = true := fun x u hu => by
  simp only [Rect.cells, List.mem_cons, List.not_mem_nil, or_false] at hu
  rcases hu with rfl | rfl | rfl | rfl <;> rfl
theorem rect_len : ∀ x : Rect, (Rect.cells x).length = 4 := fun _ => rfl
theorem place_one : ∀ x : Place, ∀ u ∈ Place.cells x, u.oneCell' = true := fun x u hu => by
  simp only [Place.cells, List.mem_cons, List.not_mem_nil, or_false] at hu
  rcases hu with rfl | rfl | rfl | rfl | rfl <;> rfl
theorem info45 : (Try.prog.info? 45).map (fun i => (i.zero, i.size, i.bytes)) = some (some (.agg #[.int .i64 0, .int .i64 0, .int .i64 0, .int .i64 0, .int .i64 0]), 5, 40) := by kernel_rfl
theorem places_many {w : World} {A : Option Addr} {xs : List Place} (h : GR.Many Place.cells 5 w A xs) : Places w A xs := fun j hj => by
  obtain ⟨b, off, hA, hat, _⟩ := h j hj
  exact ⟨b, off, hA, hat 0 _ rfl, hat 1 _ rfl, hat 2 _ rfl, hat 3 _ rfl, hat 4 _ rfl⟩
theorem many_rects {w : World} {A : Option Addr} {xs : List Rect} (h : Rects w A xs) : GR.Many Rect.cells 4 w A xs := fun j hj => by
  obtain ⟨b, off, hA, hat⟩ := h j hj
  refine ⟨b, off, hA, fun r u hu => ?_, hat.lt⟩
  obtain ⟨q0, q1, q2, q3⟩ := hat
  match r, hu with
  | 0, hu => cases hu; exact q0
  | 1, hu => cases hu; exact q1
  | 2, hu => cases hu; exact q2
  | 3, hu => cases hu; exact q3
theorem rt_rects {w : World} {A : Option Addr} {xs : List Rect} (h : GR.Many Rect.cells 4 w A xs) : RT.Rects w A (xs.map toR) := fun j hj => by
  rw [List.length_map] at hj
  obtain ⟨b, off, hA, hat, _⟩ := h j hj
  refine ⟨b, off, hA, ?_⟩
  rw [List.getElem?_map]
  rw [List.getElem?_eq_getElem hj] at hat ⊢
  exact ⟨hat 0 _ rfl, hat 1 _ rfl, hat 2 _ rfl, hat 3 _ rfl⟩

theorem c13_any (A : Option Addr) (xs : List Int) (c : Nat) (gap : Int) (w : World) (hx : Ints w A xs) (hl : xs.length ≤ 17592186044416) :
    ∃ n er : Int, (Calls Try.prog 13 #[.slice A xs.length c, .int .i64 gap] w fun e w' => e = .returned (.tuple #[.int .i64 n, .int .i64 er]) ∧ Below w.heap.size w w') ∧ (right xs gap = true → n = ext gap xs ∧ er = 0) := by
  cases hr : right xs gap with
  | true => exact ⟨_, _, c13_right A xs c gap w hx hr, fun _ => ⟨rfl, rfl⟩⟩
  | false => exact ⟨_, _, c13_wrong A xs c gap w hx hl hr, fun h => by cases h⟩

theorem slots_fit {C R : Nat} (n : Nat) (hn : n < R * C) : fits (slotP C n) R C = true := by
  rw [fits_iff]
  have h1 := div_lt hn
  have h2 := Nat.mod_lt n (show 0 < C by rcases Nat.eq_zero_or_pos C with rfl | h; simp at hn; exact h)
  unfold slotP
  dsimp only
  generalize n / C = a at *
  generalize n % C = b at *
  omega
theorem slots_all (C R : Nat) : allFit (upto (slotP C) (R * C)) R C = true := by
  unfold allFit
  rw [List.all_eq_true]
  intro p hp
  obtain ⟨n, hn, rfl⟩ := upto_mem.1 hp
  exact slots_fit n hn
theorem er_slots (cols rows : List Int) (g0 g1 : Int) : erC cols rows g0 g1 (upto (slotP cols.length) (rows.length * cols.length)) = erG cols rows g0 g1 ∧ (okG cols rows g0 g1 = true → rsC cols rows g0 g1 (upto (slotP cols.length) (rows.length * cols.length)) = upto (fun n => rectOf cols rows g0 g1 (slotP cols.length n)) (rows.length * cols.length)) := by
  have h : okC cols rows g0 g1 (upto (slotP cols.length) (rows.length * cols.length)) = okG cols rows g0 g1 := by
    unfold okC okG
    rw [slots_all, Bool.and_true]
  refine ⟨?_, fun hg => ?_⟩
  · unfold erC erG
    rw [h]
  · unfold rsC
    rw [h, if_pos hg, upto_length]
    unfold upto
    refine List.map_congr_left fun k hk => ?_
    unfold rectAt
    congr 1
    have := upto_get (slotP cols.length) default (List.mem_range.1 hk)
    unfold upto at this
    exact this

theorem c24_x (Ac Ar : Option Addr) (cols rows : List Int) (cc cr : Nat) (g0 g1 : Int) (w : World) (hc : Ints w Ac cols) (hr : Ints w Ar rows) (hlc : cols.length ≤ 40) (hlr : rows.length ≤ 40) :
    Calls Try.prog 24 #[.slice Ac cols.length cc, .slice Ar rows.length cr, .agg #[.int .i64 g0, .int .i64 g1]] w fun e w' => (∃ A c, e = .returned (.tuple #[.slice A (gutsG cols rows g0 g1).length c, .int .i64 (erG cols rows g0 g1)]) ∧ Rects w' A (gutsG cols rows g0 g1) ∧ (gutsG cols rows g0 g1 = [] → A = none ∧ c = 0)) ∧ Below w.heap.size w w' := by
  by_cases hw : right cols g0 = false ∨ right rows g1 = false
  · have ho : ¬ okG cols rows g0 g1 = true := by unfold okG; rcases hw with h | h <;> rw [h] <;> simp
    refine (c24_wrong Ac Ar cols rows cc cr g0 g1 w hc hr (by omega) (by omega) hw).mono fun e w' ⟨he, hB⟩ => ?_
    unfold gutsG erG
    rw [if_neg (fun h => ho h.1), if_neg ho]
    exact ⟨⟨none, 0, he, rects_nil _ _, fun _ => ⟨rfl, rfl⟩⟩, hB⟩
  · have q1 : right cols g0 = true := by cases h : right cols g0 with
      | true => rfl
      | false => exact absurd (.inl h) hw
    have q2 : right rows g1 = true := by cases h : right rows g1 with
      | true => rfl
      | false => exact absurd (.inr h) hw
    have ho : okG cols rows g0 g1 = true := by unfold okG; rw [q1, q2]; rfl
    cases hn : noGut cols rows g0 g1 with
    | true =>
      refine (c24_none Ac Ar cols rows cc cr g0 g1 w hc hr (by omega) q1 q2 hn).mono fun e w' ⟨he, hB⟩ => ?_
      unfold gutsG erG
      rw [if_neg (fun h => by rw [hn] at h; cases h.2), if_pos ho]
      exact ⟨⟨none, 0, he, rects_nil _ _, fun _ => ⟨rfl, rfl⟩⟩, hB⟩
    | false =>
      refine (c24_right Ac Ar cols rows cc cr g0 g1 w hc hr hlc hlr q1 q2 hn).mono fun e w' ⟨⟨A, c, he, hR⟩, hB⟩ => ?_
      unfold gutsG erG
      rw [if_pos ⟨ho, hn⟩, if_pos ho]
      refine ⟨⟨A, c, he, hR, fun h => ?_⟩, hB⟩
      have := congrArg List.length h
      unfold guts at this
      rw [List.length_append, upto_length] at this
      simp only [List.length_nil] at this
      omega

set_option maxRecDepth 100000 in
set_option maxHeartbeats 8000000 in
theorem tile_walk (Ac Ar : Option Addr) (cols0 rows0 : List Int) (cc cr : Nat) (g0 g1 : Int) (w : World) (hc0 : Ints w Ac cols0) (hcc : cols0.length ≤ cc) (hlc : cols0.length ≤ 17592186044416) (hr0 : Ints w Ar rows0) (hcr : rows0.length ≤ cr) (hlr : rows0.length ≤ 17592186044416) :
    Calls Try.prog 9 #[.slice Ac cols0.length cc, .slice Ar rows0.length cr, .agg #[.int .i64 g0, .int .i64 g1]] w fun e w' => e = .returned (.bool true) ∧ Below w.heap.size w w' := by
  have Hx0 := Lib.hid (hc0.take 6)
  have Hx1 := Lib.hid (hr0.take 6)
  have m0 : (if (6 : Int) < (cols0.length : Int) then (6 : Int) else (cols0.length : Int)) = ((cols0.take 6).length : Int) := by rw [List.length_take]; split <;> omega
  have m1 : (if (6 : Int) < (rows0.length : Int) then (6 : Int) else (rows0.length : Int)) = ((rows0.take 6).length : Int) := by rw [List.length_take]; split <;> omega
  have s0 : (cols0.take 6).length ≤ cc := by rw [List.length_take]; omega
  have s1 : (rows0.take 6).length ≤ cr := by rw [List.length_take]; omega
  have e0 : (cols0.take 6).length ≤ 6 := by rw [List.length_take]; omega
  have e1 : (rows0.take 6).length ≤ 6 := by rw [List.length_take]; omega
  have H0 := Lib.hid ((Below.refl w.heap.size w).alloc (Nat.le_refl _) (.cells #[.int .i64 g0, .int .i64 g1] 38))
  have H7 := Lib.hid (heap_alloc_new w (.cells #[.int .i64 g0, .int .i64 g1] 38))
  clear hc0 hr0
  generalize cols0.take 6 = cols at *
  generalize rows0.take 6 = rows at *
  go_enter Try.func9, Try.ntmps9
  go_wp2_with (fail)
  refine (c10 _).mono ?_
  rintro e w1 ⟨rfl, hb1⟩
  have r7 := (hb1.block _ (Array.getElem?_eq_some_iff.1 H7.out).1).trans H7.out
  have HB1 := Lib.hid (H0.out.trans (hb1.mono H0.out.size))
  have R1 := Lib.hid r7
  have Hy0 := Lib.hid ((Hx0.out.below (H0.out)).below hb1)
  have Hy1 := Lib.hid ((Hx1.out.below (H0.out)).below hb1)
  have hc6 : cols.length ≤ 6 := e0
  have hr6 : rows.length ≤ 6 := e1
  clear hb1 r7 H0 H7 Hx0 Hx1 e0 e1
  go_wp2_with (fail)
  clear m0 m1 s0 s1
  go_loopw [8, 9] (fun l i wr => ∃ k : Nat, k ≤ rows.length ∧ i = .int .i64 k ∧ Hid (Below w1.heap.size w1 wr) ∧ Hid (wr.ownsRow w1.heap.size 45 5 l (k * cols.length) (GR.flat Place.cells (upto (slotP cols.length) (k * cols.length))))) (fun _ i _ => rows.length - (intOf i).toNat)
  case atStart => exact ⟨0, Nat.zero_le _, rfl, Lib.hid (Below.refl _ _), Lib.hid (by rw [Nat.zero_mul]; exact ⟨rfl, .inl ⟨rfl, rfl⟩⟩)⟩
  case round =>
    obtain ⟨k, hk, rfl, HBk, HOk⟩ := hrel
    have hkb : k * cols.length ≤ 6 * 6 := Nat.mul_le_mul (by omega) hc6
    by_cases hlt : k < rows.length
    · have ti : decide ((k : Int) < (rows.length : Int)) = true := decide_eq_true (by omega)
      obtain ⟨wa, hwa⟩ : ∃ wa, wa = wr := ⟨_, rfl⟩
      subst hwa
      go_wp2_with (fail)
      go_loopw [8, 10] (fun l i wr => ∃ j : Nat, j ≤ cols.length ∧ i = .int .i64 j ∧ Hid (Below w1.heap.size w1 wr) ∧ Hid (wr.ownsRow w1.heap.size 45 5 l (k * cols.length + j) (GR.flat Place.cells (upto (slotP cols.length) (k * cols.length + j))))) (fun _ i _ => cols.length - (intOf i).toNat)
      case atStart => exact ⟨0, Nat.zero_le _, rfl, HBk, HOk⟩
      case round =>
        obtain ⟨j, hj, rfl, HBj, HOj⟩ := hrel
        by_cases hlj : j < cols.length
        · have tj : decide ((j : Int) < (cols.length : Int)) = true := decide_eq_true (by omega)
          obtain ⟨_, sm, sd⟩ := slot_at (C := cols.length) (R := rows.length) hlj hlt
          have Hsl : Hid (slotP cols.length (k * cols.length + j) = ⟨0, k, j, 1, 1⟩) := Lib.hid (by unfold slotP; rw [sm, sd])
          clear sm sd
          have hm := GR.One.new (enc := Place.cells) 45 wr ⟨0, k, j, 1, 1⟩
          have Hm := Lib.hid hm
          have HOn := Lib.hid (GR.own_turn HOj.out ((Below.refl _ wr).alloc (Nat.le_refl _) (.cells (Place.cells ⟨0, k, j, 1, 1⟩).toArray 45)))
          have HBn := Lib.hid (HBj.out.alloc HBj.out.size (.cells (Place.cells ⟨0, k, j, 1, 1⟩).toArray 45))
          unfold Place.cells at Hm HBn
          dsimp only at Hm HBn
          have HOn : Hid ((wr.alloc (.cells #[.int .i64 0, .int .i64 k, .int .i64 j, .int .i64 1, .int .i64 1] 45)).ownsRow w1.heap.size 45 5 u8 (k * cols.length + j) (GR.flat Place.cells (upto (slotP cols.length) (k * cols.length + j)))) := HOn
          clear hm
          go_wp2_with (at_builtin; go_must (refine GR.wpList_app_one (enc := Place.cells) rfl (fun _ => rfl) place_one (by decide) Try.underlying37 info45 rfl w1.heap.size _ _ rfl _ (k * cols.length + j) _ rfl HOn.out wr.heap.size 1 ⟨0, k, j, 1, 1⟩ rfl Hm.out (by omega) (by decide) HBn.out.size ?_; intro v' W' hown' hg' _; have HB2 := Lib.hid (HBn.out.trans hg'); have HO2 := Lib.hid hown'; clear hown' hg' Hm HOn HBn))
          go_roundw
          case rel => exact ⟨j + 1, by omega, by go_num, HB2, by rw [← Nat.add_assoc, upto_succ, Hsl.out]; exact HO2⟩
          case measure => simp [intOf]; omega
        · obtain rfl : j = cols.length := by omega
          have tj : decide ((cols.length : Int) < (cols.length : Int)) = false := decide_eq_false (by omega)
          have HOn : Hid (wr.ownsRow w1.heap.size 45 5 u8 ((k + 1) * cols.length) (GR.flat Place.cells (upto (slotP cols.length) ((k + 1) * cols.length)))) := Lib.hid (by rw [Nat.succ_mul]; exact HOj.out)
          go_wp2_with (fail)
          go_roundw
          case rel => exact ⟨k + 1, by omega, by go_num, HBj, HOn⟩
          case measure => simp [intOf]; omega
    · obtain rfl : k = rows.length := by omega
      have ti : decide ((rows.length : Int) < (rows.length : Int)) = false := decide_eq_false (by omega)
      obtain ⟨A, cap, rfl, _, hA, _⟩ := GR.own_many (enc := Place.cells) (k := 5) (fun _ => rfl) HOk.out (upto_length _ _).symm
      have HB2 := Lib.hid (HB1.out.trans (HBk.out.mono HB1.out.size))
      have HP := Lib.hid (places_many hA)
      have r7 := (HBk.out.block _ (Array.getElem?_eq_some_iff.1 R1.out).1).trans R1.out
      have p0 : wr.cell? ⟨w.heap.size, 0, none⟩ = some (.int .i64 g0) := by unfold World.cell?; rw [r7]; rfl
      have p1 : wr.cell? ⟨w.heap.size, 1, none⟩ = some (.int .i64 g1) := by unfold World.cell?; rw [r7]; rfl
      have R2 := Lib.hid r7
      have Hz0 := Lib.hid (Hy0.out.below HBk.out)
      have Hz1 := Lib.hid (Hy1.out.below HBk.out)
      have C21 := Lib.hid (c21 A Ac Ar (upto (slotP cols.length) (rows.length * cols.length)) cap cols rows cc cr g0 g1 wr HP.out (by rw [upto_length]; omega) Hz0.out Hz1.out (by omega) (by omega))
      rw [(er_slots cols rows g0 g1).1, upto_length] at C21
      obtain ⟨eg, heg⟩ : ∃ eg, erG cols rows g0 g1 = eg := ⟨_, rfl⟩
      have Heg := Lib.hid heg
      obtain ⟨l1, hl1⟩ : ∃ l, rsC cols rows g0 g1 (upto (slotP cols.length) (rows.length * cols.length)) = l := ⟨_, rfl⟩
      have Hl1 := Lib.hid hl1
      obtain ⟨lg, hlg⟩ : ∃ l, gutsG cols rows g0 g1 = l := ⟨_, rfl⟩
      have Hlg := Lib.hid hlg
      rw [heg, hl1] at C21
      clear hA r7 HBk HOk R1 Hy0 Hy1 HB1
      go_wp2_with (fail)
      refine C21.out.mono ?_
      rintro e w2 ⟨⟨A1, c1, rfl, hr1⟩, hb2⟩
      clear C21 p0 p1
      have r7 := (hb2.block _ (Array.getElem?_eq_some_iff.1 R2.out).1).trans R2.out
      have p0 : w2.cell? ⟨w.heap.size, 0, none⟩ = some (.int .i64 g0) := by unfold World.cell?; rw [r7]; rfl
      have p1 : w2.cell? ⟨w.heap.size, 1, none⟩ = some (.int .i64 g1) := by unfold World.cell?; rw [r7]; rfl
      have R3 := Lib.hid r7
      have HB3 := Lib.hid (HB2.out.trans (hb2.mono HB2.out.size))
      have Hz2 := Lib.hid (Hz0.out.below hb2)
      have Hz3 := Lib.hid (Hz1.out.below hb2)
      have Q1 := Lib.hid hr1
      have C24 := Lib.hid (c24_x Ac Ar cols rows cc cr g0 g1 w2 Hz2.out Hz3.out (by omega) (by omega))
      rw [heg, hlg] at C24
      clear hb2 r7 hr1 Hz0 Hz1 R2 HB2 HP heg hlg hl1
      go_wp2_with (fail)
      refine C24.out.mono ?_
      rintro e w3 ⟨⟨A2, c2, rfl, hr2, hn2⟩, hb3⟩
      clear C24 p0 p1
      have r7 := (hb3.block _ (Array.getElem?_eq_some_iff.1 R3.out).1).trans R3.out
      have p0 : w3.cell? ⟨w.heap.size, 0, none⟩ = some (.int .i64 g0) := by unfold World.cell?; rw [r7]; rfl
      have R4 := Lib.hid r7
      have HB4 := Lib.hid (HB3.out.trans (hb3.mono HB3.out.size))
      have Hz4 := Lib.hid (Hz2.out.below hb3)
      have Hz5 := Lib.hid (Hz3.out.below hb3)
      have Q3 := Lib.hid (Q1.out.below hb3)
      have Q4 := Lib.hid hr2
      have Hn2 := Lib.hid hn2
      obtain ⟨n0, er0, k13, f13⟩ := c13_any Ac cols cc g0 w3 Hz4.out (by omega)
      have K0 := Lib.hid f13
      have C13 := Lib.hid k13
      clear hb3 r7 hr2 hn2 Hz2 Hz3 R3 HB3 Q1 k13 f13
      go_wp2_with (fail)
      refine C13.out.mono ?_
      rintro e w4 ⟨rfl, hb4⟩
      clear C13 p0
      have r7 := (hb4.block _ (Array.getElem?_eq_some_iff.1 R4.out).1).trans R4.out
      have p1 : w4.cell? ⟨w.heap.size, 1, none⟩ = some (.int .i64 g1) := by unfold World.cell?; rw [r7]; rfl
      have HB5 := Lib.hid (HB4.out.trans (hb4.mono HB4.out.size))
      have Hz7 := Lib.hid (Hz5.out.below hb4)
      have Q5 := Lib.hid (Q3.out.below hb4)
      have Q6 := Lib.hid (Q4.out.below hb4)
      obtain ⟨n1, er1, k13, f13⟩ := c13_any Ar rows cr g1 w4 Hz7.out (by omega)
      have K1 := Lib.hid f13
      have C13 := Lib.hid k13
      clear hb4 r7 Hz4 Hz5 R4 HB4 Q3 Q4 k13 f13
      go_wp2_with (fail)
      refine C13.out.mono ?_
      rintro e w5 ⟨rfl, hb5⟩
      clear C13 p1
      have HB6 := Lib.hid (HB5.out.trans (hb5.mono HB5.out.size))
      have Q7 := Lib.hid (Q5.out.below hb5)
      have Q8 := Lib.hid (Q6.out.below hb5)
      clear hb5 HB5 Q5 Q6 Hz7 ti
      cases hok : okG cols rows g0 g1 with
      | false =>
        have he : eg = 100 := by rw [← Heg.out]; unfold erG; rw [hok]; rfl
        subst he
        clear hok Heg
        go_wp2_with (fail)
        go_ret
        exact ⟨rfl, HB6.out⟩
      | true =>
        have he : eg = 0 := by rw [← Heg.out]; unfold erG; rw [hok]; rfl
        subst he
        have hok2 : right cols g0 = true ∧ right rows g1 = true := by unfold okG at hok; rw [Bool.and_eq_true] at hok; exact hok
        obtain ⟨hn0, he0⟩ := K0.out hok2.1
        obtain ⟨hn1, he1⟩ := K1.out hok2.2
        subst he0 he1
        have HL1 := Lib.hid ((er_slots cols rows g0 g1).2 hok)
        rw [Hl1.out] at HL1
        have Hok2 := Lib.hid hok2
        have Hn0 := Lib.hid hn0
        have Hn1 := Lib.hid hn1
        clear hok Heg hn0 hn1 hok2 K0 K1
        by_cases z0 : cols.length = 0
        · have t0 : ((cols.length : Int) == 0) = true := by rw [beq_iff_eq]; omega
          have Hz := Lib.hid z0
          clear z0
          go_wp2_with (fail)
          go_ret
          exact ⟨rfl, HB6.out⟩
        by_cases z1 : rows.length = 0
        · have t0 : ((cols.length : Int) == 0) = false := by rw [beq_eq_false_iff_ne]; omega
          have t1 : ((rows.length : Int) == 0) = true := by rw [beq_iff_eq]; omega
          have Hz := Lib.hid z1
          clear z0 z1
          go_wp2_with (fail)
          go_ret
          exact ⟨rfl, HB6.out⟩
        have t0 : ((cols.length : Int) == 0) = false := by rw [beq_eq_false_iff_ne]; omega
        have t1 : ((rows.length : Int) == 0) = false := by rw [beq_eq_false_iff_ne]; omega
        have hpos : 0 < rows.length * cols.length := Nat.mul_pos (by omega) (by omega)
        have hT := tile_all Hok2.out.1 Hok2.out.2 z0 z1 hc6 hr6
        rw [← HL1.out, Hlg.out, ← Hn0.out, ← Hn1.out] at hT
        have hlen1 : l1.length = rows.length * cols.length := by rw [HL1.out, upto_length]
        obtain ⟨b1, o1, hA1, _⟩ := Q7.out 0 (by rw [hlen1]; exact hpos)
        subst hA1
        have HT := Lib.hid hT
        have hg100 : lg.length ≤ 49 := by
          rw [← Hlg.out]
          unfold gutsG
          split
          · unfold guts
            rw [List.length_append, upto_length, rowsTo_length]
            have : (rows.length + 1) * cols.length ≤ 7 * 6 := Nat.mul_le_mul (by omega) hc6
            omega
          · simp
        have HA1 := Lib.hid (many_rects Q7.out)
        have HA2 := Lib.hid (many_rects Q8.out)
        have hk100 : l1.length + lg.length ≤ 100 := by omega
        have Hk := Lib.hid hk100
        clear hT hlen1 hpos z0 z1 Hok2 HL1 Hlg Hl1 Hn0 Hn1 Q7 Q8 hk100
        by_cases hlg : lg = []
        · subst hlg
          obtain ⟨rfl, rfl⟩ := Hn2.out rfl
          rw [List.append_nil] at HT
          have CL := Lib.hid (fun A c W h => RT.c20 ⟨0, 0, n0, n1⟩ A (l1.map toR) c W h (by rw [List.length_map]; have := Hk.out; omega))
          rw [HT.out.1, HT.out.2, List.length_map] at CL
          have CL : Hid (∀ A c W, GR.Many Rect.cells 4 W A l1 → Calls Try.prog 26 #[.agg #[.int .i64 0, .int .i64 0, .int .i64 n0, .int .i64 n1], .slice A l1.length c] W fun e w' => e = .returned (.tuple #[.bool true, .int .i64 0]) ∧ Below W.heap.size W w') := Lib.hid fun A c W h => CL.out A c W (rt_rects h)
          obtain ⟨k1, hk1⟩ : ∃ k1, l1.length = k1 := ⟨_, rfl⟩
          have Hl1 := Lib.hid hk1
          have Hlen : Hid (k1 = l1.length) := Lib.hid hk1.symm
          rw [hk1] at CL
          have Hk : Hid (k1 ≤ 100) := Lib.hid (by have := Hk.out; omega)
          rw [hk1]
          clear HT hk1
          obtain ⟨W1, hmk, hown, _, hbm⟩ := GR.run_make (P := Try.prog) (w := w5) Try.underlying39 info47 w5.heap.size 100 (by decide) (by decide) (by unfold maxLen; omega) (Nat.le_refl _)
          have hmk : (Instr.makeSlice 39 (.int .i64 0) (.int .i64 100)).run Try.prog w5 = .ok (.slice (some ⟨w5.heap.size, 0, none⟩) 0 100) W1 := hmk
          have Hown := Lib.hid hown
          have HX := Lib.hid hbm
          have HA3 := Lib.hid (HA1.out.below hbm)
          clear hown hbm
          go_wp2_with (first | (at_builtin; (refine GR.wpList_app_fits (enc := Rect.cells) (k := 4) rfl rect_len rect_one Try.underlying39 info47 w5.heap.size _ _ 100 rfl w5.heap.size 0 [] rfl Hown.out ⟨b1, o1, none⟩ c1 k1 l1 Hl1.out rfl (HA3.out.flat rect_len) k1 (Nat.zero_add k1) Hk.out ?_; intro W2 hown2 hg2; rw [List.nil_append] at hown2; have HX2 := Lib.hid (HX.out.trans (GR.grown_below Hown.out hg2 HX.out.size)); have Hown2 := Lib.hid hown2; have HA4 := Lib.hid (HA2.out.below HX2.out); clear hown2 hg2 hmk Hown)) | (at_builtin; (refine GR.wpList_app_none rfl Try.underlying39 info47 w5.heap.size _ _ rfl _ _ _ rfl Hown2.out rfl ?_)) | (go_at_call 26; obtain ⟨A3, c3, hv, _, hr, _⟩ := GR.own_many (enc := Rect.cells) (k := 4) rect_len Hown2.out Hlen.out; cases hv; refine (CL.out _ _ _ hr).mono ?_; rintro e W4 ⟨rfl, hb⟩; have HX3 := Lib.hid (HX2.out.trans (hb.mono HX2.out.size)); clear hb hr))
          go_ret
          exact ⟨rfl, HB6.out.trans (HX3.out.mono HB6.out.size)⟩
        · have hg0 : 0 < lg.length := List.length_pos_iff.2 hlg
          obtain ⟨b2, o2, hA2, _⟩ := HA2.out 0 hg0
          subst hA2
          have CL := Lib.hid (fun A c W h => RT.c20 ⟨0, 0, n0, n1⟩ A ((l1 ++ lg).map toR) c W h (by rw [List.length_map, List.length_append]; have := Hk.out; omega))
          rw [HT.out.1, HT.out.2, List.length_map] at CL
          have CL : Hid (∀ A c W, GR.Many Rect.cells 4 W A (l1 ++ lg) → Calls Try.prog 26 #[.agg #[.int .i64 0, .int .i64 0, .int .i64 n0, .int .i64 n1], .slice A (l1 ++ lg).length c] W fun e w' => e = .returned (.tuple #[.bool true, .int .i64 0]) ∧ Below W.heap.size W w') := Lib.hid fun A c W h => CL.out A c W (rt_rects h)
          obtain ⟨k2, hk2⟩ : ∃ k2, (l1 ++ lg).length = k2 := ⟨_, rfl⟩
          have Hlen : Hid (k2 = (l1 ++ lg).length) := Lib.hid hk2.symm
          rw [hk2] at CL
          obtain ⟨l2, hl2⟩ : ∃ l2, l1 ++ lg = l2 := ⟨_, rfl⟩
          have Hl2 := Lib.hid hl2
          rw [hl2] at CL Hlen
          obtain ⟨k1, hk1⟩ : ∃ k1, l1.length = k1 := ⟨_, rfl⟩
          obtain ⟨kg, hkg⟩ : ∃ kg, lg.length = kg := ⟨_, rfl⟩
          have Hk2 : Hid (k1 + kg = k2) := Lib.hid (by rw [← hk1, ← hkg, ← hk2, List.length_append])
          have Hl1 := Lib.hid hk1
          have Hlg := Lib.hid hkg
          have Hk : Hid (k1 ≤ 100 ∧ k2 ≤ 100) := Lib.hid (by have := Hk.out; have := Hk2.out; omega)
          rw [hk1, hkg]
          clear HT hk1 hk2 hkg hg0 hlg hl2
          obtain ⟨W1, hmk, hown, _, hbm⟩ := GR.run_make (P := Try.prog) (w := w5) Try.underlying39 info47 w5.heap.size 100 (by decide) (by decide) (by unfold maxLen; omega) (Nat.le_refl _)
          have hmk : (Instr.makeSlice 39 (.int .i64 0) (.int .i64 100)).run Try.prog w5 = .ok (.slice (some ⟨w5.heap.size, 0, none⟩) 0 100) W1 := hmk
          have Hown := Lib.hid hown
          have HX := Lib.hid hbm
          have HA3 := Lib.hid (HA1.out.below hbm)
          clear hown hbm
          go_wp2_with (first | (at_builtin; (refine GR.wpList_app_fits (enc := Rect.cells) (k := 4) rfl rect_len rect_one Try.underlying39 info47 w5.heap.size _ _ 100 rfl w5.heap.size 0 [] rfl Hown.out ⟨b1, o1, none⟩ c1 k1 l1 Hl1.out rfl (HA3.out.flat rect_len) k1 (Nat.zero_add k1) Hk.out.1 ?_; intro W2 hown2 hg2; rw [List.nil_append] at hown2; have HX2 := Lib.hid (HX.out.trans (GR.grown_below Hown.out hg2 HX.out.size)); have Hown2 := Lib.hid hown2; have HA4 := Lib.hid (HA2.out.below HX2.out); clear hown2 hg2 hmk Hown)) | (at_builtin; (refine GR.wpList_app_fits (enc := Rect.cells) (k := 4) rfl rect_len rect_one Try.underlying39 info47 w5.heap.size _ _ 100 rfl w5.heap.size k1 l1 rfl Hown2.out ⟨b2, o2, none⟩ c2 kg lg Hlg.out rfl (HA4.out.flat rect_len) k2 Hk2.out Hk.out.2 ?_; intro W3 hown3 hg3; rw [Hl2.out] at hown3; have HX3a := Lib.hid (HX2.out.trans (GR.grown_below Hown2.out hg3 HX2.out.size)); have Hown3 := Lib.hid hown3; clear hown3 hg3 Hown2)) | (go_at_call 26; obtain ⟨A3, c3, hv, _, hr, _⟩ := GR.own_many (enc := Rect.cells) (k := 4) rect_len Hown3.out Hlen.out; cases hv; refine (CL.out _ _ _ hr).mono ?_; rintro e W4 ⟨rfl, hb⟩; have HX3 := Lib.hid (HX3a.out.trans (hb.mono HX3a.out.size)); clear hb hr))
          go_ret
          exact ⟨rfl, HB6.out.trans (HX3.out.mono HB6.out.size)⟩

end Go.Proofs.Ytnjifmoclfgegaa
