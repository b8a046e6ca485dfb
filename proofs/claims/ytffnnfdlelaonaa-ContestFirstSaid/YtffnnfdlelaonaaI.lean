/- The contract of the reference's Wins, and what Wins says of ranks. -/
import Derived.Test.YtffnnfdlelaonaaH
namespace Go.Proofs.Ytffnnfdlelaonaa
open Go.RowKit Go.Shelf
set_option linter.unusedVariables false

def refw (a b : Side) : Bool :=
  if decide (a.style = 1) ≠ decide (b.style = 1) then decide (a.style = 1)
  else if decide (a.style = 0) ≠ decide (b.style = 0) then decide (b.style = 0)
  else if a.width ≠ b.width then decide (b.width < a.width)
  else if a.style ≠ b.style then decide (a.style < b.style)
  else if a.by_ ≠ b.by_ then decide (a.by_ < b.by_)
  else if a.row ≠ b.row then decide (a.row < b.row)
  else if a.col ≠ b.col then decide (a.col < b.col)
  else decide (a.color < b.color)

theorem lex_cons (x y : Int) (l m : List Int) : ordl (x :: l) (y :: m) = if x = y then ordl l m else if x < y then -1 else 1 := by
  unfold ordl
  by_cases h : x = y
  · subst h
    simp only [lexl, List.cons.injEq, true_and, if_true]
  · rw [if_neg (by simp [h]), if_neg h]
    simp only [lexl, if_neg h]
theorem lex_nil : ordl [] [] = 0 := rfl
theorem lex_step (x y : Int) (l m : List Int) (r : Bool) (h : x = y → decide (ordl l m < 0) = r) : decide (ordl (x :: l) (y :: m) < 0) = if x ≠ y then decide (x < y) else r := by
  rw [lex_cons]
  by_cases e : x = y
  · rw [if_pos e, if_neg (by simp [e]), h e]
  · rw [if_neg e, if_pos e]
    by_cases hl : x < y
    · rw [if_pos hl]; simp [hl]
    · rw [if_neg hl]; simp [hl]

theorem ord_ref (a b : Side) : decide (ord a b < 0) = refw a b := by
  obtain ⟨a0, a1, a2, a3, a4, a5⟩ := a
  obtain ⟨b0, b1, b2, b3, b4, b5⟩ := b
  unfold ord rank refw
  dsimp only
  have tail : ∀ (x y : Int), decide (ordl [x, a3, a4, a5, a2] [y, b3, b4, b5, b2] < 0) = if x ≠ y then decide (x < y) else if a3 ≠ b3 then decide (a3 < b3) else if a4 ≠ b4 then decide (a4 < b4) else if a5 ≠ b5 then decide (a5 < b5) else decide (a2 < b2) := by
    intro x y
    refine lex_step _ _ _ _ _ fun _ => lex_step _ _ _ _ _ fun _ => lex_step _ _ _ _ _ fun _ => lex_step _ _ _ _ _ fun _ => ?_
    rw [lex_step a2 b2 [] [] false (fun _ => by simp [lex_nil])]
    by_cases e : a2 = b2
    · rw [if_neg (by simp [e])]; simp [e]
    · rw [if_pos e]
  have wid : ∀ (x y : Int), decide (ordl [-a1, x, a3, a4, a5, a2] [-b1, y, b3, b4, b5, b2] < 0) = if a1 ≠ b1 then decide (b1 < a1) else if x ≠ y then decide (x < y) else if a3 ≠ b3 then decide (a3 < b3) else if a4 ≠ b4 then decide (a4 < b4) else if a5 ≠ b5 then decide (a5 < b5) else decide (a2 < b2) := by
    intro x y
    rw [lex_step _ _ _ _ _ (fun _ => tail x y)]
    by_cases e : a1 = b1
    · have e1 : ¬ (-a1 ≠ -b1) := fun h => h (by rw [e])
      have e2 : ¬ (a1 ≠ b1) := fun h => h e
      rw [if_neg e1, if_neg e2]
    · rw [if_pos (by omega), if_pos e]
      congr 1
      exact propext ⟨fun h => by omega, fun h => by omega⟩
  rw [lex_step _ _ _ _ _ (fun _ => lex_step _ _ _ _ _ (fun _ => wid _ _))]
  by_cases p : a0 = 1
  · subst p
    by_cases q : b0 = 1
    · subst q; simp
    · simp [q]
  · by_cases q : b0 = 1
    · subst q; simp [p]
    · by_cases p0 : a0 = 0
      · subst p0
        by_cases q0 : b0 = 0
        · subst q0; simp
        · simp [q, q0]
      · by_cases q0 : b0 = 0
        · subst q0; simp [p, p0]
        · simp [p, q, p0, q0]

set_option maxHeartbeats 4000000 in
/-- purflingref11.Wins -/
theorem c19 (a b : Side) (w : World) : Calls Try.prog 19 #[.agg a.arr, .agg b.arr] w fun e w' => e = .returned (.bool (refw a b)) ∧ Below w.heap.size w w' := by
  have hB : Below w.heap.size w ((w.alloc (.cells a.arr 30)).alloc (.cells b.arr 30)) := ((Below.refl _ w).alloc (Nat.le_refl _) _).alloc (by simp) _
  obtain ⟨W0, hW0⟩ : ∃ W0, (w.alloc (.cells a.arr 30)).alloc (.cells b.arr 30) = W0 := ⟨_, rfl⟩
  have hr : ∃ r, refw a b = r := ⟨_, rfl⟩
  obtain ⟨r, hr⟩ := hr
  rw [hr]
  obtain ⟨sa, aw, ac, ab, ar, al⟩ := a
  obtain ⟨sb, bw, bc, bb, br, bl⟩ := b
  unfold refw at hr
  unfold Side.arr at hW0 hB
  dsimp only at hr hW0 hB
  unfold Side.arr
  dsimp only
  have HB := Lib.hid hB
  clear hB hW0 W0
  by_cases p1 : sa = 1
  · subst p1
    by_cases q1 : sb = 1
    · have tq1 : (sb == 1) = true := by rw [beq_iff_eq]; exact q1
      have uq1 : (sb != 1) = false := by rw [bne_eq_false_iff_eq]; exact q1
      subst q1
      clear tq1 uq1
      by_cases e0 : aw = bw
      · have te0 : (aw == bw) = true := by rw [beq_iff_eq]; exact e0
        have ue0 : (aw != bw) = false := by rw [bne_eq_false_iff_eq]; exact e0
        by_cases e2 : ab = bb
        · have te2 : (ab == bb) = true := by rw [beq_iff_eq]; exact e2
          have ue2 : (ab != bb) = false := by rw [bne_eq_false_iff_eq]; exact e2
          by_cases e3 : ar = br
          · have te3 : (ar == br) = true := by rw [beq_iff_eq]; exact e3
            have ue3 : (ar != br) = false := by rw [bne_eq_false_iff_eq]; exact e3
            by_cases e4 : al = bl
            · have te4 : (al == bl) = true := by rw [beq_iff_eq]; exact e4
              have ue4 : (al != bl) = false := by rw [bne_eq_false_iff_eq]; exact e4
              obtain rfl : r = decide (ac < bc) := by rw [← hr]; simp [*]
              clear hr
              go_enter Try.func19, Try.ntmps19
              go_wp2
              go_ret
              exact ⟨rfl, ((Below.refl _ w).alloc (Nat.le_refl _) _).alloc (by simp) _⟩
            · have te4 : (al == bl) = false := by rw [beq_eq_false_iff_ne]; exact e4
              have ue4 : (al != bl) = true := by rw [bne_iff_ne]; exact e4
              obtain rfl : r = decide (al < bl) := by rw [← hr]; simp [*]
              clear hr
              go_enter Try.func19, Try.ntmps19
              go_wp2
              go_ret
              exact ⟨rfl, ((Below.refl _ w).alloc (Nat.le_refl _) _).alloc (by simp) _⟩
          · have te3 : (ar == br) = false := by rw [beq_eq_false_iff_ne]; exact e3
            have ue3 : (ar != br) = true := by rw [bne_iff_ne]; exact e3
            obtain rfl : r = decide (ar < br) := by rw [← hr]; simp [*]
            clear hr
            go_enter Try.func19, Try.ntmps19
            go_wp2
            go_ret
            exact ⟨rfl, ((Below.refl _ w).alloc (Nat.le_refl _) _).alloc (by simp) _⟩
        · have te2 : (ab == bb) = false := by rw [beq_eq_false_iff_ne]; exact e2
          have ue2 : (ab != bb) = true := by rw [bne_iff_ne]; exact e2
          obtain rfl : r = decide (ab < bb) := by rw [← hr]; simp [*]
          clear hr
          go_enter Try.func19, Try.ntmps19
          go_wp2
          go_ret
          exact ⟨rfl, ((Below.refl _ w).alloc (Nat.le_refl _) _).alloc (by simp) _⟩
      · have te0 : (aw == bw) = false := by rw [beq_eq_false_iff_ne]; exact e0
        have ue0 : (aw != bw) = true := by rw [bne_iff_ne]; exact e0
        obtain rfl : r = decide (bw < aw) := by rw [← hr]; simp [*]
        clear hr
        go_enter Try.func19, Try.ntmps19
        go_wp2
        go_ret
        exact ⟨rfl, ((Below.refl _ w).alloc (Nat.le_refl _) _).alloc (by simp) _⟩
    · have tq1 : (sb == 1) = false := by rw [beq_eq_false_iff_ne]; exact q1
      have uq1 : (sb != 1) = true := by rw [bne_iff_ne]; exact q1
      obtain rfl : r = true := by rw [← hr]; simp [*]
      clear hr
      go_enter Try.func19, Try.ntmps19
      go_wp2
      go_ret
      exact ⟨rfl, ((Below.refl _ w).alloc (Nat.le_refl _) _).alloc (by simp) _⟩
  · have tp1 : (sa == 1) = false := by rw [beq_eq_false_iff_ne]; exact p1
    by_cases q1 : sb = 1
    · have tq1 : (sb == 1) = true := by rw [beq_iff_eq]; exact q1
      have uq1 : (sb != 1) = false := by rw [bne_eq_false_iff_eq]; exact q1
      obtain rfl : r = false := by rw [← hr]; simp [*]
      clear hr
      go_enter Try.func19, Try.ntmps19
      go_wp2
      go_ret
      exact ⟨rfl, ((Below.refl _ w).alloc (Nat.le_refl _) _).alloc (by simp) _⟩
    · have tq1 : (sb == 1) = false := by rw [beq_eq_false_iff_ne]; exact q1
      have uq1 : (sb != 1) = true := by rw [bne_iff_ne]; exact q1
      by_cases p0 : sa = 0
      · subst p0
        by_cases q0 : sb = 0
        · have tq0 : (sb == 0) = true := by rw [beq_iff_eq]; exact q0
          have uq0 : (sb != 0) = false := by rw [bne_eq_false_iff_eq]; exact q0
          subst q0
          clear tq0 uq0
          by_cases e0 : aw = bw
          · have te0 : (aw == bw) = true := by rw [beq_iff_eq]; exact e0
            have ue0 : (aw != bw) = false := by rw [bne_eq_false_iff_eq]; exact e0
            by_cases e2 : ab = bb
            · have te2 : (ab == bb) = true := by rw [beq_iff_eq]; exact e2
              have ue2 : (ab != bb) = false := by rw [bne_eq_false_iff_eq]; exact e2
              by_cases e3 : ar = br
              · have te3 : (ar == br) = true := by rw [beq_iff_eq]; exact e3
                have ue3 : (ar != br) = false := by rw [bne_eq_false_iff_eq]; exact e3
                by_cases e4 : al = bl
                · have te4 : (al == bl) = true := by rw [beq_iff_eq]; exact e4
                  have ue4 : (al != bl) = false := by rw [bne_eq_false_iff_eq]; exact e4
                  obtain rfl : r = decide (ac < bc) := by rw [← hr]; simp [*]
                  clear hr
                  go_enter Try.func19, Try.ntmps19
                  go_wp2
                  go_ret
                  exact ⟨rfl, ((Below.refl _ w).alloc (Nat.le_refl _) _).alloc (by simp) _⟩
                · have te4 : (al == bl) = false := by rw [beq_eq_false_iff_ne]; exact e4
                  have ue4 : (al != bl) = true := by rw [bne_iff_ne]; exact e4
                  obtain rfl : r = decide (al < bl) := by rw [← hr]; simp [*]
                  clear hr
                  go_enter Try.func19, Try.ntmps19
                  go_wp2
                  go_ret
                  exact ⟨rfl, ((Below.refl _ w).alloc (Nat.le_refl _) _).alloc (by simp) _⟩
              · have te3 : (ar == br) = false := by rw [beq_eq_false_iff_ne]; exact e3
                have ue3 : (ar != br) = true := by rw [bne_iff_ne]; exact e3
                obtain rfl : r = decide (ar < br) := by rw [← hr]; simp [*]
                clear hr
                go_enter Try.func19, Try.ntmps19
                go_wp2
                go_ret
                exact ⟨rfl, ((Below.refl _ w).alloc (Nat.le_refl _) _).alloc (by simp) _⟩
            · have te2 : (ab == bb) = false := by rw [beq_eq_false_iff_ne]; exact e2
              have ue2 : (ab != bb) = true := by rw [bne_iff_ne]; exact e2
              obtain rfl : r = decide (ab < bb) := by rw [← hr]; simp [*]
              clear hr
              go_enter Try.func19, Try.ntmps19
              go_wp2
              go_ret
              exact ⟨rfl, ((Below.refl _ w).alloc (Nat.le_refl _) _).alloc (by simp) _⟩
          · have te0 : (aw == bw) = false := by rw [beq_eq_false_iff_ne]; exact e0
            have ue0 : (aw != bw) = true := by rw [bne_iff_ne]; exact e0
            obtain rfl : r = decide (bw < aw) := by rw [← hr]; simp [*]
            clear hr
            go_enter Try.func19, Try.ntmps19
            go_wp2
            go_ret
            exact ⟨rfl, ((Below.refl _ w).alloc (Nat.le_refl _) _).alloc (by simp) _⟩
        · have tq0 : (sb == 0) = false := by rw [beq_eq_false_iff_ne]; exact q0
          have uq0 : (sb != 0) = true := by rw [bne_iff_ne]; exact q0
          obtain rfl : r = false := by rw [← hr]; simp [*]
          clear hr
          go_enter Try.func19, Try.ntmps19
          go_wp2
          go_ret
          exact ⟨rfl, ((Below.refl _ w).alloc (Nat.le_refl _) _).alloc (by simp) _⟩
      · have tp0 : (sa == 0) = false := by rw [beq_eq_false_iff_ne]; exact p0
        by_cases q0 : sb = 0
        · have tq0 : (sb == 0) = true := by rw [beq_iff_eq]; exact q0
          have uq0 : (sb != 0) = false := by rw [bne_eq_false_iff_eq]; exact q0
          obtain rfl : r = true := by rw [← hr]; simp [*]
          clear hr
          go_enter Try.func19, Try.ntmps19
          go_wp2
          go_ret
          exact ⟨rfl, ((Below.refl _ w).alloc (Nat.le_refl _) _).alloc (by simp) _⟩
        · have tq0 : (sb == 0) = false := by rw [beq_eq_false_iff_ne]; exact q0
          have uq0 : (sb != 0) = true := by rw [bne_iff_ne]; exact q0
          by_cases e0 : aw = bw
          · have te0 : (aw == bw) = true := by rw [beq_iff_eq]; exact e0
            have ue0 : (aw != bw) = false := by rw [bne_eq_false_iff_eq]; exact e0
            by_cases e1 : sa = sb
            · have te1 : (sa == sb) = true := by rw [beq_iff_eq]; exact e1
              have ue1 : (sa != sb) = false := by rw [bne_eq_false_iff_eq]; exact e1
              by_cases e2 : ab = bb
              · have te2 : (ab == bb) = true := by rw [beq_iff_eq]; exact e2
                have ue2 : (ab != bb) = false := by rw [bne_eq_false_iff_eq]; exact e2
                by_cases e3 : ar = br
                · have te3 : (ar == br) = true := by rw [beq_iff_eq]; exact e3
                  have ue3 : (ar != br) = false := by rw [bne_eq_false_iff_eq]; exact e3
                  by_cases e4 : al = bl
                  · have te4 : (al == bl) = true := by rw [beq_iff_eq]; exact e4
                    have ue4 : (al != bl) = false := by rw [bne_eq_false_iff_eq]; exact e4
                    obtain rfl : r = decide (ac < bc) := by rw [← hr]; simp [*]
                    clear hr
                    go_enter Try.func19, Try.ntmps19
                    go_wp2
                    go_ret
                    exact ⟨rfl, ((Below.refl _ w).alloc (Nat.le_refl _) _).alloc (by simp) _⟩
                  · have te4 : (al == bl) = false := by rw [beq_eq_false_iff_ne]; exact e4
                    have ue4 : (al != bl) = true := by rw [bne_iff_ne]; exact e4
                    obtain rfl : r = decide (al < bl) := by rw [← hr]; simp [*]
                    clear hr
                    go_enter Try.func19, Try.ntmps19
                    go_wp2
                    go_ret
                    exact ⟨rfl, ((Below.refl _ w).alloc (Nat.le_refl _) _).alloc (by simp) _⟩
                · have te3 : (ar == br) = false := by rw [beq_eq_false_iff_ne]; exact e3
                  have ue3 : (ar != br) = true := by rw [bne_iff_ne]; exact e3
                  obtain rfl : r = decide (ar < br) := by rw [← hr]; simp [*]
                  clear hr
                  go_enter Try.func19, Try.ntmps19
                  go_wp2
                  go_ret
                  exact ⟨rfl, ((Below.refl _ w).alloc (Nat.le_refl _) _).alloc (by simp) _⟩
              · have te2 : (ab == bb) = false := by rw [beq_eq_false_iff_ne]; exact e2
                have ue2 : (ab != bb) = true := by rw [bne_iff_ne]; exact e2
                obtain rfl : r = decide (ab < bb) := by rw [← hr]; simp [*]
                clear hr
                go_enter Try.func19, Try.ntmps19
                go_wp2
                go_ret
                exact ⟨rfl, ((Below.refl _ w).alloc (Nat.le_refl _) _).alloc (by simp) _⟩
            · have te1 : (sa == sb) = false := by rw [beq_eq_false_iff_ne]; exact e1
              have ue1 : (sa != sb) = true := by rw [bne_iff_ne]; exact e1
              obtain rfl : r = decide (sa < sb) := by rw [← hr]; simp [*]
              clear hr
              go_enter Try.func19, Try.ntmps19
              go_wp2
              go_ret
              exact ⟨rfl, ((Below.refl _ w).alloc (Nat.le_refl _) _).alloc (by simp) _⟩
          · have te0 : (aw == bw) = false := by rw [beq_eq_false_iff_ne]; exact e0
            have ue0 : (aw != bw) = true := by rw [bne_iff_ne]; exact e0
            obtain rfl : r = decide (bw < aw) := by rw [← hr]; simp [*]
            clear hr
            go_enter Try.func19, Try.ntmps19
            go_wp2
            go_ret
            exact ⟨rfl, ((Below.refl _ w).alloc (Nat.le_refl _) _).alloc (by simp) _⟩

end Go.Proofs.Ytffnnfdlelaonaa
