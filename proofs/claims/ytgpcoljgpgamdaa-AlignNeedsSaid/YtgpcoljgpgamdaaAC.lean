/- The walk of the law AlignNeeds by the contracts: it returns true, whatever the input. -/
import Derived.Test.YtgpcoljgpgamdaaAA
namespace Go.Proofs.Ytgpcoljgpgamdaa
open Go.RowKit Go.Shelf
set_option linter.unusedVariables false

set_option maxRecDepth 100000 in
set_option maxHeartbeats 16000000 in
theorem needs_walk (A : Option Addr) (xs0 : List Cell) (c : Nat) (rows : Int) (w : World) (hx0 : Cells w A xs0) (hc : xs0.length ≤ c) (hl : xs0.length ≤ 17592186044416) :
    Calls Try.prog 8 #[.int .i64 rows, .slice A xs0.length c] w fun e w' => e = .returned (.bool true) ∧ Below w.heap.size w w' := by
  obtain ⟨xs, hxs⟩ : ∃ xs, xs0.take 100 = xs := ⟨_, rfl⟩
  have hx := hx0.take 100
  have hm : xs.length = min xs0.length 100 := by rw [← hxs, List.length_take]; omega
  rw [hxs] at hx
  have Hx := Lib.hid hx
  have Hm := Lib.hid hm
  have hxl : xs.length ≤ 17592186044416 := by omega
  have hx1 : xs.length ≤ 1000 := by omega
  have hB0 : Below w.heap.size w w := Below.refl _ _
  clear hx hx0 hm hxs
  have hmc : Hid (xs.length ≤ c) := Lib.hid (by have := Hm.out; omega)
  by_cases h0 : rows < 0
  · go_enter Try.func8, Try.ntmps8
    go_wp2_with (fail)
    refine (shown10 _).mono ?_
    rintro e w1 ⟨rfl, hb1⟩
    have hB1 := hB0.trans (hb1.mono hB0.size)
    clear hb1
    go_wp2_with (fail)
    refine (cut11 _ _ _ _ hc hl).mono ?_
    rintro e w9 ⟨m_, ⟨hm, rfl⟩, rfl⟩
    obtain rfl : m_ = xs.length := by rw [hm]; exact Hm.out.symm
    clear hm
    go_wp2
    go_ret
    exact ⟨rfl, hB1⟩
  · by_cases h1 : 100 < rows
    · go_enter Try.func8, Try.ntmps8
      go_wp2_with (fail)
      refine (shown10 _).mono ?_
      rintro e w1 ⟨rfl, hb1⟩
      have hB1 := hB0.trans (hb1.mono hB0.size)
      clear hb1
      go_wp2_with (fail)
      refine (cut11 _ _ _ _ hc hl).mono ?_
      rintro e w9 ⟨m_, ⟨hm, rfl⟩, rfl⟩
      obtain rfl : m_ = xs.length := by rw [hm]; exact Hm.out.symm
      clear hm
      go_wp2
      go_ret
      exact ⟨rfl, hB1⟩
    · cases hr : rightC rows xs with
      | false =>
        have Hr := Lib.hid hr
        clear hr
        go_enter Try.func8, Try.ntmps8
        go_wp2_with (fail)
        refine (shown10 _).mono ?_
        rintro e w1 ⟨rfl, hb1⟩
        have hB1 := hB0.trans (hb1.mono hB0.size)
        clear hb1
        go_wp2_with (fail)
        refine (cut11 _ _ _ _ hc hl).mono ?_
        rintro e w9 ⟨m_, ⟨hm, rfl⟩, rfl⟩
        obtain rfl : m_ = xs.length := by rw [hm]; exact Hm.out.symm
        clear hm
        go_wp2_with (fail)
        refine (needs13_wrong _ _ _ _ _ (Hx.out.below hB1) hxl Hr.out).mono ?_
        rintro e w3 ⟨rfl, hb3⟩
        have hB3 := hB1.trans (hb3.mono hB1.size)
        clear hb3
        go_wp2
        go_ret
        exact ⟨rfl, hB3⟩
      | true =>
        obtain ⟨R, rfl⟩ := Int.eq_ofNat_of_zero_le (show 0 ≤ rows by omega)
        have Hr := Lib.hid hr
        unfold rightC at hr
        rw [Bool.and_eq_true, Bool.not_eq_true'] at hr
        have Hok := Lib.hid (bads_all hr.2)
        clear hr
        have hmc2 := hmc.out
        go_enter Try.func8, Try.ntmps8
        go_wp2_with (fail)
        refine (shown10 _).mono ?_
        rintro e w1 ⟨rfl, hb1⟩
        have hB1 := hB0.trans (hb1.mono hB0.size)
        clear hb1
        go_wp2_with (fail)
        refine (cut11 _ _ _ _ hc hl).mono ?_
        rintro e w9 ⟨m_, ⟨hm, rfl⟩, rfl⟩
        obtain rfl : m_ = xs.length := by rw [hm]; exact Hm.out.symm
        clear hm
        go_wp2_with (fail)
        refine (needs13_right _ _ _ R _ (Hx.out.below hB1) hx1 Hr.out).mono ?_
        rintro e w3 ⟨A3, c3, rfl, -, hr3, -, hb3⟩
        have hB3 := hB1.trans (hb3.mono hB1.size)
        have HR3 := Lib.hid hr3
        clear hb3 hr3
        have t0 : (xs.length == xs.length) = true := by rw [beq_iff_eq]
        have t0b : (xs.length != xs.length) = false := by simp
        go_wp2_with (fail)
        go_loopw [8, 9, 10] (fun i h h2 wr => ∃ k : Nat, k ≤ xs.length ∧ i = .int .i64 k ∧ Ext w3 wr) (fun i _ _ _ => xs.length - (intOf i).toNat)
        case atStart => exact ⟨0, Nat.zero_le _, rfl, Below.refl _ _⟩
        case round =>
          obtain ⟨k, hk, rfl, hE⟩ := hrel
          have HE := Lib.hid hE
          have HB : Hid (Below w.heap.size w wr) := Lib.hid (hB3.trans (hE.mono hB3.size))
          clear hE
          by_cases hlt : k < xs.length
          · obtain ⟨x, b, off, hxk, rfl, hc⟩ := (Hx.out.below HB.out).get k hlt
            obtain ⟨nk, b', off', hnk, rfl, hd⟩ := (HR3.out.below HE.out).get k (by rw [List.length_map]; exact hlt)
            have hok := Hok.out k hlt
            rw [hxk.out] at hok
            have hnk2 := hnk.out
            rw [List.getElem?_map, show xs[k]? = some x from by have := hxk.out; rw [List.getElem?_eq_getElem hlt] at this ⊢; exact congrArg some this] at hnk2
            change needOf (linesC R xs) x = nk at hnk2
            have hx1c : Hid (Cells wr (some ⟨b, off + k * 11, none⟩) [x]) := Lib.hid (fun j hj => by
              obtain rfl : j = 0 := by simpa using hj
              exact ⟨b, off + k * 11, rfl, hc⟩)
            have hr1 : Hid (rightC R [x] = true) := Lib.hid (by
              have := Hr.out
              unfold rightC bads at this ⊢
              rw [Bool.and_eq_true] at this ⊢
              refine ⟨this.1, ?_⟩
              simp [hok])
            have hbase := inR_iff.1 (okCell_base hok)
            have hok0 := hok
            unfold okCell at hok
            rw [Bool.and_eq_true] at hok
            have hw := of_decide_eq_true hok.1
            have hone : Hid ([x].map (needOf (linesC R [x])) = [x.high]) := Lib.hid (by
              rw [List.map_cons, List.map_nil, need_one R x (by omega) hbase.1])
            have hge : x.high ≤ nk ∧ (x.al ≠ 0 → nk = x.high) := by
              rw [← hnk2]
              unfold needOf
              split
              · rename_i hb
                have := line_ge R xs k hlt (by rw [hxk.out]; exact hb) (by rw [hxk.out]; omega)
                rw [hxk.out] at this
                refine ⟨by omega, fun h => ?_⟩
                unfold isB at hb
                simp at hb
                exact absurd hb.1 h
              · exact ⟨Int.le_refl _, fun _ => rfl⟩
            have Hge := Lib.hid hge
            have Hc2 := Lib.hid hc
            have Hd2 := Lib.hid hd
            clear hnk hnk2 hok hok0 hw hge hbase hxk hc hd
            go_wp2_with (fail)
            refine (needs13_right (some ⟨b, off + k * 11, none⟩) [x] _ R _ hx1c.out (by simp) hr1.out).mono ?_
            rintro e W3 ⟨A5, c5, rfl, -, hr5, -, hb5⟩
            rw [hone.out] at hr5
            have HX3 : Hid (Ext w3 W3) := Lib.hid (HE.out.tr hb5)
            have hc5 := Hc2.out.below hb5 Hc2.out.lt
            have zd := rd hb5 Hd2.out
            obtain ⟨b5, off5, rfl, z5⟩ := hr5 0 (by simp)
            obtain ⟨hg1, hg2⟩ := Hge.out
            obtain ⟨node, row, col, rws, cols, mn, mx, high, base, hbb, al⟩ := x
            dsimp only at hg1 hg2
            have z5b : W3.cell? ⟨b5, off5, none⟩ = some (.int .i64 high) := z5
            have z7b : W3.cell? ⟨b, off + k * 11 + 5 + 2, none⟩ = some (.int .i64 high) := hc5.2.2.2.2.2.2.2.1
            have z10 := hc5.2.2.2.2.2.2.2.2.2.2
            dsimp only at z10
            have t1 : decide (nk < high) = false := decide_eq_false (by omega)
            have Hg2 := Lib.hid hg2
            clear hb5 hc5 z5 Hc2 Hd2 Hge hx1c hr1 hone hg1 hg2
            by_cases a0 : al = 0
            · have t2 : (al != 0) = false := by simp [a0]
              clear a0
              go_wp2_with (fail)
              repeat (go_quiet (fail); try go_wp2)
              go_roundw
              case rel => exact ⟨k + 1, by omega, by go_num, HX3.out.tr (dr_below (by repeat (first | exact Dr.refl _ | apply Dr.step | apply Dr.step1)))⟩
              case measure => simp [intOf]; omega
            · have t2 : (al != 0) = true := by simp [a0]
              obtain rfl := Hg2.out a0
              clear a0
              go_wp2_with (fail)
              repeat (go_quiet (fail); try go_wp2)
              go_roundw
              case rel => exact ⟨k + 1, by omega, by go_num, HX3.out.tr (dr_below (by repeat (first | exact Dr.refl _ | apply Dr.step | apply Dr.step1)))⟩
              case measure => simp [intOf]; omega
          · obtain rfl : k = xs.length := by omega
            clear hlt
            go_wp2
            go_ret
            exact ⟨rfl, HB.out⟩

end Go.Proofs.Ytgpcoljgpgamdaa
