/- The contract of edges.Extent; of purflingref01.Same. -/
import Derived.Test.YtnjifmoclfgegaaE
namespace Go.Proofs.Ytnjifmoclfgegaa
open Go.RowKit Go.Shelf
set_option linter.unusedVariables false

/-- how far bands reach -/
def ext (gap : Int) (xs : List Int) : Int := if xs.length = 0 then 0 else st gap xs xs.length

theorem sp_succ {gap : Int} {xs : List Int} {a i : Nat} : sp gap xs a (i + 1) = sp gap xs a i + (if i = 0 then 0 else gap) + xs[a + i]?.getD 0 := by
  unfold sp
  rw [if_neg (by omega), show a + (i + 1) - 1 = a + i by omega]
  by_cases h : i = 0
  · subst h; rw [if_pos rfl, if_pos rfl]; simp; omega
  · rw [if_neg h, if_neg h]
    obtain ⟨j, rfl⟩ : ∃ j, i = j + 1 := ⟨i - 1, by omega⟩
    rw [show a + (j + 1) - 1 = a + j by omega, show a + (j + 1) = (a + j) + 1 by omega]
    simp only [st]
    omega

theorem sp_bounds {xs : List Int} {gap : Int} (hr : right xs gap = true) {a n : Nat} (hs : a + n ≤ xs.length) : 0 ≤ sp gap xs a n ∧ sp gap xs a n < 22000000000000 := by
  by_cases hn : n = 0
  · unfold sp; rw [if_pos hn]; omega
  · have hlen := (right_iff.1 hr).1
    have h1 := st_bounds hr a (by omega)
    have h2 := st_bounds hr (a + n - 1) (by omega)
    have h3 := (right_iff.1 hr).2.2 (a + n - 1) (by omega)
    have h4 := st_mono hr (a := a) (n - 1) (by omega)
    rw [show a + (n - 1) = a + n - 1 by omega] at h4
    unfold sp
    rw [if_neg hn]
    omega

theorem ext_sp {xs : List Int} {gap : Int} (h : xs.length ≠ 0) : ext gap xs = sp gap xs 0 xs.length + gap + gap := by
  unfold ext sp
  rw [if_neg h, if_neg h]
  obtain ⟨j, hj⟩ : ∃ j, xs.length = j + 1 := ⟨xs.length - 1, by omega⟩
  rw [hj, show 0 + (j + 1) - 1 = j by omega]
  simp only [st]
  omega

theorem ints_three (w : World) (a b c : Int) (t : TypeId) : Ints (w.alloc (.cells #[.int .i64 a, .int .i64 b, .int .i64 c] t)) (some ⟨w.heap.size, 0, none⟩) [a, b, c] := fun j hj => by
  refine ⟨w.heap.size, 0, rfl, ?_⟩
  unfold World.cell?; rw [heap_alloc_new]
  have : j < 3 := hj
  rcases j with _ | _ | _ | j
  · rfl
  · rfl
  · rfl
  · omega
theorem ints_two (w : World) (a b : Int) (t : TypeId) : Ints (w.alloc (.cells #[.int .i64 a, .int .i64 b] t)) (some ⟨w.heap.size, 0, none⟩) [a, b] := fun j hj => by
  refine ⟨w.heap.size, 0, rfl, ?_⟩
  unfold World.cell?; rw [heap_alloc_new]
  have : j < 2 := hj
  rcases j with _ | _ | j
  · rfl
  · rfl
  · omega

theorem c13_wrong (A : Option Addr) (xs : List Int) (c : Nat) (gap : Int) (w : World) (hx : Ints w A xs) (hl : xs.length ≤ 17592186044416) (hr : right xs gap = false) :
    Calls Try.prog 13 #[.slice A xs.length c, .int .i64 gap] w fun e w' => e = .returned (.tuple #[.int .i64 0, .int .i64 100]) ∧ Below w.heap.size w w' := by
  have h := c14_wrong A xs c gap 0 xs.length w hx hl (.inl hr)
  have H := Lib.hid h
  clear h hx hr
  go_enter Try.func13, Try.ntmps13
  go_wp2_with (go_at_call 14; refine H.out.mono ?_; rintro e w1 ⟨rfl, hb⟩)
  go_ret2
  exact ⟨rfl, hb⟩

theorem c13_right (A : Option Addr) (xs : List Int) (c : Nat) (gap : Int) (w : World) (hx : Ints w A xs) (hr : right xs gap = true) :
    Calls Try.prog 13 #[.slice A xs.length c, .int .i64 gap] w fun e w' => e = .returned (.tuple #[.int .i64 (ext gap xs), .int .i64 0]) ∧ Below w.heap.size w w' := by
  have h : Calls Try.prog 14 #[.slice A xs.length c, .int .i64 gap, .int .i64 0, .int .i64 xs.length] w _ := c14_right A xs c gap 0 xs.length w hx hr (by omega)
  have H := Lib.hid h
  have hg := (right_iff.1 hr).2.1
  have hb := sp_bounds hr (a := 0) (n := xs.length) (by omega)
  clear h hx hr
  by_cases h0 : xs.length = 0
  · have t1 : (xs.length == 0) = true := by rw [beq_iff_eq]; exact h0
    have t2 : ((xs.length : Int) == 0) = true := by rw [beq_iff_eq]; omega
    have he : ext gap xs = 0 := by unfold ext; rw [if_pos h0]
    have He := Lib.hid he
    clear he h0
    go_enter Try.func13, Try.ntmps13
    go_wp2_with (go_at_call 14; refine H.out.mono ?_; rintro e w1 ⟨rfl, hb⟩)
    go_ret2
    rw [He.out]
    exact ⟨rfl, hb⟩
  · have t1 : (xs.length == 0) = false := by rw [beq_eq_false_iff_ne]; exact h0
    have t2 : ((xs.length : Int) == 0) = false := by rw [beq_eq_false_iff_ne]; omega
    have he : ext gap xs = sp gap xs 0 xs.length + gap + gap := ext_sp h0
    have He := Lib.hid he
    clear he h0
    generalize sp gap xs 0 xs.length = s at *
    have h28 : ∀ W : World, Calls Try.prog 28 #[.slice (some ⟨W.heap.size, 0, none⟩) 3 3] (W.alloc (.cells #[.int .i64 s, .int .i64 gap, .int .i64 gap] 2)) fun e w' => e = .returned (.int .i64 (s + gap + gap)) ∧ W.alloc (.cells #[.int .i64 s, .int .i64 gap, .int .i64 gap] 2) = w' := fun W => by
      have := c28 (some ⟨W.heap.size, 0, none⟩) [s, gap, gap] 3 (W.alloc (.cells #[.int .i64 s, .int .i64 gap, .int .i64 gap] 2)) (ints_three W s gap gap 2) (by simp)
        (fun k hk => by have : k ≤ 3 := hk; rcases k with _ | _ | _ | _ | k <;> simp [sm] <;> omega) (fun k hk => by have : k < 3 := hk; rcases k with _ | _ | _ | k <;> simp <;> omega)
      simpa [sm] using this
    have H28 := Lib.hid h28
    clear h28
    go_enter Try.func13, Try.ntmps13
    go_wp2_with (first | (go_at_call 14; refine H.out.mono ?_; rintro e w1 ⟨rfl, hb1⟩) | (go_at_call 28; refine (H28.out _).mono ?_; rintro e w2 ⟨rfl, rfl⟩))
    go_ret2
    rw [He.out]
    exact ⟨rfl, hb1.alloc hb1.size _⟩

/-- the world, some draws on -/
def Dr (w w' : World) : Prop := ∃ n, w' = w.drewN n
theorem Dr.refl (w : World) : Dr w w := ⟨0, rfl⟩
theorem Dr.step {w w' : World} (h : Dr w w') (n : Nat) : Dr w (w'.drewN n) := by
  obtain ⟨m, rfl⟩ := h
  exact ⟨m + n, by simp [World.drewN, Nat.add_assoc]⟩
theorem Dr.step1 {w w' : World} (h : Dr w w') : Dr w w'.drew := h.step 1
theorem Dr.below {w w' : World} (h : Dr w w') (B : Nat) : Below B w w' := by
  obtain ⟨m, rfl⟩ := h
  exact ⟨rfl, rfl, rfl, Nat.le_refl _, fun _ _ => rfl⟩

set_option maxHeartbeats 1000000 in
/-- purflingref01.Same -/
theorem c17 (A B : Option Addr) (xs ys : List Int) (c d : Nat) (w : World) (hx : Ints w A xs) (hy : Ints w B ys) (hl : xs.length ≤ 17592186044416) (hl' : ys.length ≤ 17592186044416) :
    Calls Try.prog 17 #[.slice A xs.length c, .slice B ys.length d] w fun e w' => e = .returned (.bool (decide (xs = ys))) ∧ Dr w w' := by
  have Hx := Lib.hid hx
  have Hy := Lib.hid hy
  clear hx hy
  by_cases he : xs.length = ys.length
  · have t1 : (xs.length == ys.length) = true := by rw [beq_iff_eq]; exact he
    have t2 : ((xs.length : Int) == (ys.length : Int)) = true := by rw [beq_iff_eq]; omega
    have He := Lib.hid he
    clear he
    go_enter Try.func17, Try.ntmps17
    go_wp2
    go_loopw [5] (fun i wr => ∃ k : Nat, k ≤ xs.length ∧ i = .int .i64 k ∧ Hid (∀ j, j < k → xs[j]?.getD 0 = ys[j]?.getD 0) ∧ Dr w wr) (fun i _ => xs.length - (intOf i).toNat)
    case atStart => exact ⟨0, Nat.zero_le _, rfl, fun j hj => absurd hj (Nat.not_lt_zero j), Dr.refl _⟩
    case round =>
      obtain ⟨k, hk, rfl, hp, m, rfl⟩ := hrel
      by_cases hlt : k < xs.length
      · have hlt' : k < ys.length := by have := He.out; omega
        obtain ⟨x, b, off, hxk, rfl, hc⟩ := Hx.out.get k hlt
        obtain ⟨y, b', off', hyk, rfl, hc'⟩ := Hy.out.get k hlt'
        by_cases hxy : x = y
        · subst hxy
          have hnext : Hid (∀ j, j < k + 1 → xs[j]?.getD 0 = ys[j]?.getD 0) := fun j hj => by
            by_cases e : j = k
            · subst e; rw [hxk.out, hyk.out]
            · exact hp.out j (by omega)
          go_wp2
          go_quiet (fail)
          go_wp2
          go_roundw
          case rel => exact ⟨k + 1, by omega, by go_num, hnext, by repeat (first | exact Dr.refl _ | apply Dr.step | apply Dr.step1)⟩
          case measure => simp [intOf]; omega
        · have t3 : (x == y) = false := by rw [beq_eq_false_iff_ne]; exact hxy
          have Hxy := Lib.hid hxy
          clear hxy
          go_wp2
          go_quiet (fail)
          go_wp2
          go_ret
          rw [decide_eq_false (fun e => Hxy.out (by rw [← hxk.out, ← hyk.out, e]))]
          exact ⟨rfl, by repeat (first | exact Dr.refl _ | apply Dr.step | apply Dr.step1)⟩
      · obtain rfl : k = xs.length := by omega
        go_wp2
        go_ret
        have heq : xs = ys := by
          apply List.ext_getElem He.out
          intro i h1 h2
          have := hp.out i h1
          simpa [h1, h2] using this
        rw [decide_eq_true heq]
        exact ⟨rfl, by repeat (first | exact Dr.refl _ | apply Dr.step | apply Dr.step1)⟩
  · have t1 : (xs.length == ys.length) = false := by rw [beq_eq_false_iff_ne]; exact he
    have t2 : ((xs.length : Int) == (ys.length : Int)) = false := by rw [beq_eq_false_iff_ne]; omega
    have He := Lib.hid he
    clear he
    go_enter Try.func17, Try.ntmps17
    go_wp2
    go_ret
    rw [decide_eq_false (fun e => He.out (by rw [e]))]
    exact ⟨rfl, Dr.refl _⟩

end Go.Proofs.Ytnjifmoclfgegaa
