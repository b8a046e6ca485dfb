/- Plain laws of the order of sides: it is one of all, and no two sides are alike to it. -/
import Derived.Test.YtffnnfdlelaonaaI
namespace Go.Proofs.Ytffnnfdlelaonaa
open Go.RowKit Go.Shelf
set_option linter.unusedVariables false

theorem ordl_neg : ∀ (l m : List Int), l.length = m.length → ordl m l = - ordl l m
  | [], [], _ => rfl
  | x :: l, y :: m, h => by
    rw [lex_cons, lex_cons]
    by_cases e : x = y
    · rw [if_pos e.symm, if_pos e]; exact ordl_neg l m (by simpa using h)
    · rw [if_neg (fun e' => e e'.symm), if_neg e]
      by_cases hl : x < y
      · rw [if_neg (by omega), if_pos hl]; rfl
      · rw [if_pos (by omega), if_neg hl]
theorem ordl_zero : ∀ (l m : List Int), l.length = m.length → ordl l m = 0 → l = m
  | [], [], _, _ => rfl
  | x :: l, y :: m, h, h0 => by
    rw [lex_cons] at h0
    by_cases e : x = y
    · rw [if_pos e] at h0; rw [e, ordl_zero l m (by simpa using h) h0]
    · rw [if_neg e] at h0; split at h0 <;> omega
theorem ordl_trans : ∀ (l m k : List Int), l.length = m.length → m.length = k.length → ordl l m < 0 → ordl m k < 0 → ordl l k < 0
  | [], [], [], _, _, h, _ => h
  | x :: l, y :: m, z :: k, h1, h2, ha, hb => by
    rw [lex_cons] at ha hb ⊢
    by_cases e : x = y
    · subst e
      rw [if_pos rfl] at ha
      by_cases e' : x = z
      · rw [if_pos e'] at hb ⊢; exact ordl_trans l m k (by simpa using h1) (by simpa using h2) ha hb
      · rw [if_neg e'] at hb ⊢; exact hb
    · rw [if_neg e] at ha
      have hxy : x < y := by
        by_cases h : x < y
        · exact h
        · rw [if_neg h] at ha; omega
      by_cases e' : y = z
      · subst e'; rw [if_neg e, if_pos hxy]; omega
      · rw [if_neg e'] at hb
        have hyz : y < z := by
          by_cases h : y < z
          · exact h
          · rw [if_neg h] at hb; omega
        rw [if_neg (by omega), if_pos (by omega)]; omega

theorem rank_length (s : Side) : (rank s).length = 8 := rfl
theorem ord_neg (a b : Side) : ord b a = - ord a b := ordl_neg _ _ (by rw [rank_length, rank_length])
theorem rank_inj {a b : Side} (h : rank a = rank b) : a = b := by
  obtain ⟨a0, a1, a2, a3, a4, a5⟩ := a
  obtain ⟨b0, b1, b2, b3, b4, b5⟩ := b
  simp only [rank, List.cons.injEq, and_true] at h
  obtain ⟨h1, h2, h3, h4, h5, h6, h7, h8⟩ := h
  have hs : a0 = b0 := by
    by_cases p : a0 = 1 <;> by_cases q : b0 = 1 <;> by_cases p0 : a0 = 0 <;> by_cases q0 : b0 = 0 <;> simp_all
  have hw : a1 = b1 := by omega
  subst hs hw h5 h6 h7 h8
  rfl
theorem ord_zero {a b : Side} (h : ord a b = 0) : a = b := rank_inj (ordl_zero _ _ (by rw [rank_length, rank_length]) h)
theorem ord_self (a : Side) : ord a a = 0 := by unfold ord ordl; rw [if_pos rfl]
theorem ord_trans {a b c : Side} (h1 : ord a b < 0) (h2 : ord b c < 0) : ord a c < 0 := ordl_trans _ _ _ (by rw [rank_length, rank_length]) (by rw [rank_length, rank_length]) h1 h2

end Go.Proofs.Ytffnnfdlelaonaa
