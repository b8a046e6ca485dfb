/- Plain law: the slots' rectangles and the gutters tile the extent. -/
import Derived.Test.YtnjifmoclfgegaaRT
import Derived.Test.YtnjifmoclfgegaaAD
namespace Go.Proofs.Ytnjifmoclfgegaa
open Go Go.RowKit
set_option linter.unusedVariables false
set_option linter.unusedSectionVars false

/-- where the pieces of an axis begin: gap, band, gap, .. -/
def bx (gap : Int) (xs : List Int) (j : Nat) : Int := if j % 2 = 0 then gx gap xs (j / 2) else st gap xs (j / 2)
theorem bx_even (gap : Int) (xs : List Int) (i : Nat) : bx gap xs (2 * i) = gx gap xs i := by unfold bx; rw [if_pos (by omega), show 2 * i / 2 = i by omega]
theorem bx_odd (gap : Int) (xs : List Int) (i : Nat) : bx gap xs (2 * i + 1) = st gap xs i := by unfold bx; rw [if_neg (by omega), show (2 * i + 1) / 2 = i by omega]
theorem bx_even' (gap : Int) (xs : List Int) (i : Nat) : bx gap xs (2 * i + 1 + 1) = gx gap xs (i + 1) := by rw [show 2 * i + 1 + 1 = 2 * (i + 1) by omega]; exact bx_even gap xs (i + 1)
theorem st_gx (gap : Int) (xs : List Int) : ∀ i, st gap xs i = gx gap xs i + gap
  | 0 => by simp [st, gx]
  | k + 1 => by simp only [st, gx]; omega
theorem bx_rise {gap : Int} {xs : List Int} (h : right xs gap = true) : ∀ j, j < 2 * xs.length + 1 → bx gap xs j ≤ bx gap xs (j + 1) := fun j hj => by
  obtain ⟨h1, h2, h3⟩ := right_iff.1 h
  by_cases he : j % 2 = 0
  · obtain ⟨i, rfl⟩ : ∃ i, j = 2 * i := ⟨j / 2, by omega⟩
    rw [bx_even, bx_odd, st_gx]; omega
  · obtain ⟨i, rfl⟩ : ∃ i, j = 2 * i + 1 := ⟨j / 2, by omega⟩
    rw [bx_odd, bx_even']
    have := h3 i (by omega)
    simp only [gx]; omega
/-- the slots' keys, row by row; the gutters' -/
def kCell (C n : Nat) : Nat × Nat × Nat := (2 * (n % C) + 1, 2 * (n / C) + 1, 2 * (n / C) + 1 + 1)
def kH (C n : Nat) : Nat × Nat × Nat := (2 * (n % C) + 1, 2 * (n / C), 2 * (n / C) + 1)
def kV (R i : Nat) : Nat × Nat × Nat := (2 * i, 0, 2 * R + 1)
def keys (C R : Nat) (b : Bool) : List (Nat × Nat × Nat) := upto (kCell C) (R * C) ++ if b then upto (kV R) (C + 1) ++ upto (kH C) ((R + 1) * C) else []
theorem upto_mem {α : Type} {f : Nat → α} {n : Nat} {a : α} : a ∈ upto f n ↔ ∃ k, k < n ∧ f k = a := by simp [upto]
theorem div_lt {C R n : Nat} (hn : n < R * C) : n / C < R := by
  rw [Nat.div_lt_iff_lt_mul (by rcases Nat.eq_zero_or_pos C with rfl | h; simp at hn; exact h)]; exact hn
theorem same_n {C n m : Nat} (h1 : n % C = m % C) (h2 : n / C = m / C) : n = m := by rw [← Nat.div_add_mod n C, ← Nat.div_add_mod m C, h1, h2]
theorem keys_ok {C R : Nat} (hC : 0 < C) (b : Bool) : ∀ k ∈ keys C R b, k.1 < 2 * C + 1 ∧ k.2.1 ≤ k.2.2 ∧ k.2.2 ≤ 2 * R + 1 := fun k hk => by
  unfold keys at hk
  rcases List.mem_append.1 hk with h | h
  · obtain ⟨n, hn, rfl⟩ := upto_mem.1 h
    have h1 := Nat.mod_lt n hC
    have h2 := div_lt hn
    unfold kCell; dsimp only; omega
  · cases b with
    | false => simp at h
    | true =>
      simp only [if_true] at h
      rcases List.mem_append.1 h with h | h
      · obtain ⟨n, hn, rfl⟩ := upto_mem.1 h
        unfold kV; dsimp only; omega
      · obtain ⟨n, hn, rfl⟩ := upto_mem.1 h
        have h1 := Nat.mod_lt n hC
        have h2 := div_lt hn
        unfold kH; dsimp only; omega
theorem upto_pairwise {α : Type} {f : Nat → α} {R : α → α → Prop} {n : Nat} (h : ∀ i j, i < j → j < n → R (f i) (f j)) : (upto f n).Pairwise R := by
  unfold upto
  rw [List.pairwise_map]
  refine List.Pairwise.imp_of_mem ?_ List.pairwise_lt_range
  intro a b ha hb hab
  exact h a b hab (List.mem_range.1 hb)
theorem keys_apart {C R : Nat} (b : Bool) : (keys C R b).Pairwise RT.apartK := by
  unfold keys
  refine List.pairwise_append.2 ⟨upto_pairwise fun i j hij hj => ?_, ?_, ?_⟩
  · unfold RT.apartK kCell
    dsimp only
    by_cases h1 : i % C = j % C
    · have h2 : i / C ≠ j / C := fun h2 => by have := same_n h1 h2; omega
      omega
    · omega
  · cases b with
    | false => simp
    | true =>
      simp only [if_true]
      refine List.pairwise_append.2 ⟨upto_pairwise fun i j hij hj => ?_, upto_pairwise fun i j hij hj => ?_, ?_⟩
      · unfold RT.apartK kV; dsimp only; omega
      · unfold RT.apartK kH
        dsimp only
        by_cases h1 : i % C = j % C
        · have h2 : i / C ≠ j / C := fun h2 => by have := same_n h1 h2; omega
          omega
        · omega
      · intro a ha c hc
        obtain ⟨i, hi, rfl⟩ := upto_mem.1 ha
        obtain ⟨j, hj, rfl⟩ := upto_mem.1 hc
        unfold RT.apartK kV kH; dsimp only; omega
  · intro a ha c hc
    obtain ⟨i, hi, rfl⟩ := upto_mem.1 ha
    cases b with
    | false => simp at hc
    | true =>
      simp only [if_true] at hc
      rcases List.mem_append.1 hc with h | h
      · obtain ⟨j, hj, rfl⟩ := upto_mem.1 h
        unfold RT.apartK kV kCell; dsimp only; omega
      · obtain ⟨j, hj, rfl⟩ := upto_mem.1 h
        unfold RT.apartK kH kCell; dsimp only; omega
theorem slot_at {C R i j : Nat} (hi : i < C) (hj : j < R) : j * C + i < R * C ∧ (j * C + i) % C = i ∧ (j * C + i) / C = j := by
  refine ⟨?_, ?_, ?_⟩
  · have : (j + 1) * C ≤ R * C := Nat.mul_le_mul_right C hj
    rw [Nat.succ_mul] at this; omega
  · rw [Nat.add_comm, Nat.add_mul_mod_self_right, Nat.mod_eq_of_lt hi]
  · rw [Nat.add_comm, Nat.add_mul_div_right _ _ (by omega), Nat.div_eq_of_lt hi, Nat.zero_add]
theorem keys_reach {C R : Nat} (b : Bool) {i j : Nat} (hi : i < 2 * C + 1) (hj : j < 2 * R + 1) (hb : b = false → i % 2 = 1 ∧ j % 2 = 1) : ∃ k ∈ keys C R b, k.1 = i ∧ k.2.1 ≤ j ∧ j < k.2.2 := by
  unfold keys
  by_cases h1 : i % 2 = 1
  · by_cases h2 : j % 2 = 1
    · obtain ⟨s1, s2, s3⟩ := slot_at (C := C) (R := R) (i := i / 2) (j := j / 2) (by omega) (by omega)
      refine ⟨_, List.mem_append.2 (.inl (upto_mem.2 ⟨_, s1, rfl⟩)), ?_⟩
      unfold kCell; dsimp only; rw [s2, s3]; omega
    · cases b with
      | false => exact absurd (hb rfl).2 h2
      | true =>
        obtain ⟨s1, s2, s3⟩ := slot_at (C := C) (R := R + 1) (i := i / 2) (j := j / 2) (by omega) (by omega)
        refine ⟨_, List.mem_append.2 (.inr (List.mem_append.2 (.inr (upto_mem.2 ⟨_, s1, rfl⟩)))), ?_⟩
        unfold kH; dsimp only; rw [s2, s3]; omega
  · cases b with
    | false => exact absurd (hb rfl).1 h1
    | true =>
      refine ⟨_, List.mem_append.2 (.inr (List.mem_append.2 (.inl (upto_mem.2 ⟨i / 2, by omega, rfl⟩)))), ?_⟩
      unfold kV; dsimp only; omega

/-- the place of a slot, row by row -/
def slotP (C n : Nat) : Place := ⟨0, (n / C : Nat), (n % C : Nat), 1, 1⟩
def toR (r : Rect) : RT.Rect := ⟨r.x, r.y, r.w, r.h⟩
theorem sp_one (gap : Int) (xs : List Int) (a : Nat) : sp gap xs a 1 = xs[a]?.getD 0 := by rw [sp_succ, if_pos rfl]; simp [sp]
section
variable {cols rows : List Int} {g0 g1 : Int} (hc : right cols g0 = true) (hr : right rows g1 = true) (nc : cols.length ≠ 0) (nr : rows.length ≠ 0)
include hc hr nc nr
theorem toR_cell {n : Nat} (hn : n < rows.length * cols.length) : toR (rectOf cols rows g0 g1 (slotP cols.length n)) = RT.mk (bx g0 cols) (bx g1 rows) (kCell cols.length n) := by
  unfold toR rectOf slotP RT.mk kCell
  dsimp only
  rw [Int.toNat_natCast, Int.toNat_natCast, show (1 : Int).toNat = 1 from rfl, sp_one, sp_one, bx_odd, bx_odd, bx_even', bx_even']
  simp only [gx, RT.Rect.mk.injEq, true_and]
  constructor <;> omega
theorem ext_bx : bx g1 rows (2 * rows.length + 1) = ext g1 rows := by rw [bx_odd]; unfold ext; rw [if_neg nr]
theorem toR_V {n : Nat} : toR (gutV g0 (ext g1 rows) cols n) = RT.mk (bx g0 cols) (bx g1 rows) (kV rows.length n) := by
  unfold toR gutV RT.mk kV
  dsimp only
  rw [bx_even, bx_odd, ext_bx hc hr nc nr, show (0 : Nat) = 2 * 0 from rfl, bx_even, st_gx]
  simp only [gx, RT.Rect.mk.injEq, true_and]
  constructor <;> omega
theorem toR_H {n : Nat} : toR (gutH cols rows g0 g1 (n / cols.length) (n % cols.length)) = RT.mk (bx g0 cols) (bx g1 rows) (kH cols.length n) := by
  unfold toR gutH RT.mk kH
  dsimp only
  rw [bx_odd, bx_even', bx_even, bx_odd, st_gx g1]
  simp only [gx, RT.Rect.mk.injEq, true_and]
  constructor <;> omega
end
theorem rows_upto (cols rows : List Int) (g0 g1 : Int) : ∀ k, rowsTo cols rows g0 g1 k = upto (fun n => gutH cols rows g0 g1 (n / cols.length) (n % cols.length)) (k * cols.length)
  | 0 => by simp [rowsTo, upto]
  | k + 1 => by
    rw [rowsTo, rows_upto cols rows g0 g1 k, Nat.succ_mul]
    unfold upto
    rw [List.range_add, List.map_append, List.map_map]
    congr 1
    refine List.map_congr_left fun i hi => ?_
    have hi := List.mem_range.1 hi
    obtain ⟨_, s2, s3⟩ := slot_at (C := cols.length) (R := k + 1) (i := i) (j := k) hi (by omega)
    simp only [Function.comp_apply]
    rw [s2, s3]
theorem map_upto {α β : Type} {f : Nat → α} {g : α → β} {h : Nat → β} {n : Nat} (e : ∀ k, k < n → g (f k) = h k) : (upto f n).map g = upto h n := by
  unfold upto
  rw [List.map_map]
  exact List.map_congr_left fun k hk => e k (List.mem_range.1 hk)

/-- slots and gutters tile the extent -/
theorem tile_all {cols rows : List Int} {g0 g1 : Int} (hc : right cols g0 = true) (hr : right rows g1 = true) (nc : cols.length ≠ 0) (nr : rows.length ≠ 0) (lc : cols.length ≤ 6) (lr : rows.length ≤ 6) :
    RT.tiles ⟨0, 0, ext g0 cols, ext g1 rows⟩ ((upto (fun n => rectOf cols rows g0 g1 (slotP cols.length n)) (rows.length * cols.length) ++ gutsG cols rows g0 g1).map toR) = true ∧
    RT.erT ⟨0, 0, ext g0 cols, ext g1 rows⟩ ((upto (fun n => rectOf cols rows g0 g1 (slotP cols.length n)) (rows.length * cols.length) ++ gutsG cols rows g0 g1).map toR) = 0 := by
  obtain ⟨b, hb⟩ : ∃ b : Bool, b = !noGut cols rows g0 g1 := ⟨_, rfl⟩
  have hmap : (upto (fun n => rectOf cols rows g0 g1 (slotP cols.length n)) (rows.length * cols.length) ++ gutsG cols rows g0 g1).map toR = (keys cols.length rows.length b).map (RT.mk (bx g0 cols) (bx g1 rows)) := by
    unfold keys
    rw [List.map_append, List.map_append]
    congr 1
    · rw [map_upto fun k hk => toR_cell hc hr nc nr hk, map_upto fun k hk => rfl]
    · unfold gutsG
      have hok : okG cols rows g0 g1 = true := by unfold okG; rw [hc, hr]; rfl
      cases b with
      | false =>
        have : noGut cols rows g0 g1 = true := by revert hb; cases noGut cols rows g0 g1 <;> simp
        rw [if_neg (by rw [this]; simp)]
        rfl
      | true =>
        have : noGut cols rows g0 g1 = false := by revert hb; cases noGut cols rows g0 g1 <;> simp
        rw [if_pos ⟨hok, this⟩]
        unfold guts
        simp only [if_true]
        rw [rows_upto, List.map_append, List.map_append]
        congr 1
        · rw [map_upto fun k hk => toR_V hc hr nc nr, map_upto fun k hk => rfl]
        · rw [map_upto fun k hk => toR_H hc hr nc nr, map_upto fun k hk => rfl]
  rw [hmap]
  have e0 : ext g0 cols = bx g0 cols (2 * cols.length + 1) := (ext_bx hr hc nr nc).symm
  have e1 : ext g1 rows = bx g1 rows (2 * rows.length + 1) := (ext_bx hc hr nc nr).symm
  have b0 := ext_bound hc
  have b1 := ext_bound hr
  rw [e0] at b0 ⊢
  rw [e1] at b1 ⊢
  refine RT.keys_tile _ _ _ _ (bx_rise hc) (bx_rise hr) rfl rfl (by omega) (by omega) _ (keys_ok (by omega) b) (keys_apart b) ?_ ?_
  · intro i j hi hj h1 h2
    refine keys_reach b hi hj fun hf => ?_
    have hng : noGut cols rows g0 g1 = true := by subst hf; revert hb; cases noGut cols rows g0 g1 <;> simp
    unfold noGut at hng
    have z0 : (cols.length == 0) = false := by simpa using nc
    have z1 : (rows.length == 0) = false := by simpa using nr
    rw [z0, z1, Bool.false_or, Bool.false_or, decide_eq_true_eq] at hng
    injection hng with hg0 hng
    injection hng with hg1 _
    constructor
    · rcases Nat.mod_two_eq_zero_or_one i with h | h
      · obtain ⟨k, rfl⟩ : ∃ k, i = 2 * k := ⟨i / 2, by omega⟩
        rw [bx_even, bx_odd, st_gx] at h1; omega
      · exact h
    · rcases Nat.mod_two_eq_zero_or_one j with h | h
      · obtain ⟨k, rfl⟩ : ∃ k, j = 2 * k := ⟨j / 2, by omega⟩
        rw [bx_even, bx_odd, st_gx] at h2; omega
      · exact h
  · have l1 : rows.length * cols.length ≤ 6 * 6 := Nat.mul_le_mul lr lc
    have l2 : (rows.length + 1) * cols.length ≤ 7 * 6 := Nat.mul_le_mul (by omega) lc
    unfold keys
    cases b <;> simp [upto_length] <;> omega

end Go.Proofs.Ytnjifmoclfgegaa
