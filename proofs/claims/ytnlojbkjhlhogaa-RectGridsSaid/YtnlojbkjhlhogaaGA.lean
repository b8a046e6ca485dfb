/- Plain law: a grid tiles the rectangle that it makes; with one less, or one more, it does not. -/
import Derived.Test.YtnlojbkjhlhogaaYP
namespace Go.Proofs.Ytnlojbkjhlhogaa
open Go Go.RowKit IV
set_option linter.unusedVariables false

theorem cov_iff {r : Rect} {l : List Rect} : (∀ p ∈ cov r l r, ∃ a ∈ l, p ∈ cov r l a) ↔ ∀ x ∈ xsOf r l, ∀ y ∈ ysOf r l, atR r x y = true → ∃ a ∈ l, atR a x y = true := by
  unfold cov
  constructor
  · intro h x hx y hy ha
    obtain ⟨i, hi, rfl⟩ := List.getElem_of_mem hx
    obtain ⟨j, hj, rfl⟩ := List.getElem_of_mem hy
    have e1 : (xsOf r l)[i]?.getD 0 = (xsOf r l)[i] := by rw [List.getElem?_eq_getElem hi]; rfl
    have e2 : (ysOf r l)[j]?.getD 0 = (ysOf r l)[j] := by rw [List.getElem?_eq_getElem hj]; rfl
    obtain ⟨a, h1, h2⟩ := h (i, j) (covTo_mem.2 ⟨hi, hj, by rw [e1, e2]; exact ha⟩)
    have h3 := (covTo_mem.1 h2).2.2
    rw [e1, e2] at h3
    exact ⟨a, h1, h3⟩
  · intro h p hp
    obtain ⟨h1, h2, h3⟩ := covTo_mem.1 hp
    have e1 : (xsOf r l)[p.1]?.getD 0 = (xsOf r l)[p.1] := by rw [List.getElem?_eq_getElem h1]; rfl
    have e2 : (ysOf r l)[p.2]?.getD 0 = (ysOf r l)[p.2] := by rw [List.getElem?_eq_getElem h2]; rfl
    rw [e1, e2] at h3
    obtain ⟨a, h4, h5⟩ := h _ (List.getElem_mem h1) _ (List.getElem_mem h2) h3
    exact ⟨a, h4, covTo_mem.2 ⟨h1, h2, by rw [e1, e2]; exact h5⟩⟩
theorem xsOf_mem {r : Rect} {l : List Rect} {x : Int} : x ∈ xsOf r l ↔ x = r.x ∨ ∃ a ∈ l, x = a.x ∨ x = a.x + a.w := by
  unfold xsOf
  rw [xsTo_all]
  simp
theorem ysOf_mem {r : Rect} {l : List Rect} {y : Int} : y ∈ ysOf r l ↔ y = r.y ∨ ∃ a ∈ l, y = a.y ∨ y = a.y + a.h := by
  unfold ysOf
  rw [ysTo_all]
  simp
theorem tl_of {r : Rect} {l : List Rect} : Tl r l ↔ (∀ a ∈ l, meet r a = a) ∧ l.Pairwise (fun a b => pts (meet b a) = false) ∧ (∀ x ∈ xsOf r l, ∀ y ∈ ysOf r l, atR r x y = true → ∃ a ∈ l, atR a x y = true) := by
  unfold Tl
  rw [pair_iff, cov_iff]
theorem meet_within {r a : Rect} (hr : right r = true) (ha : right a = true) (hp : pts a = true) (h1 : r.x ≤ a.x) (h2 : a.x + a.w ≤ r.x + r.w) (h3 : r.y ≤ a.y) (h4 : a.y + a.h ≤ r.y + r.h) : meet r a = a := by
  unfold pts at hp
  simp only [Bool.and_eq_true, decide_eq_true_eq] at hp
  have m1 : max r.x a.x = a.x := by omega
  have m2 : max r.y a.y = a.y := by omega
  have m3 : min (r.x + r.w) (a.x + a.w) = a.x + a.w := by omega
  have m4 : min (r.y + r.h) (a.y + a.h) = a.y + a.h := by omega
  unfold meet
  rw [m1, m2, m3, m4, if_pos ⟨hr, ha, by omega, by omega⟩]
  obtain ⟨x, y, c, d⟩ := a
  simp only [Rect.mk.injEq, true_and]
  exact ⟨by omega, by omega⟩
theorem meet_apart {a b : Rect} (h : a.x + a.w ≤ b.x ∨ b.x + b.w ≤ a.x ∨ a.y + a.h ≤ b.y ∨ b.y + b.h ≤ a.y) : pts (meet a b) = false := by
  unfold meet
  rw [if_neg (by omega)]
  decide
theorem meet_pts {a b : Rect} {x y : Int} (ha : right a = true) (hb : right b = true) (h1 : atR a x y = true) (h2 : atR b x y = true) : pts (meet a b) = true := by
  unfold atR at h1 h2
  simp only [Bool.and_eq_true, decide_eq_true_eq] at h1 h2
  unfold meet
  rw [if_pos ⟨ha, hb, by omega, by omega⟩]
  unfold pts
  simp only [Bool.and_eq_true, decide_eq_true_eq]
  omega

/-- bands that are few and small -/
def Few (ws : List Int) : Prop := (∀ n ∈ ws, 1 ≤ n ∧ n ≤ 1000) ∧ ws.length ≤ 8
def xa (ws : List Int) (k : Nat) : Int := -7 + (ws.take k).sum
def ya (hs : List Int) (i : Nat) : Int := 5 + (hs.take i).sum
theorem sum_next {ws : List Int} {k : Nat} (h : k < ws.length) : (ws.take (k + 1)).sum = (ws.take k).sum + ws[k]?.getD 0 := by
  rw [List.take_add_one, List.getElem?_eq_getElem h, List.sum_append]
  simp
theorem few_at {ws : List Int} (hw : Few ws) {k : Nat} (h : k < ws.length) : 1 ≤ ws[k]?.getD 0 ∧ ws[k]?.getD 0 ≤ 1000 := by
  rw [List.getElem?_eq_getElem h]; exact hw.1 _ (List.getElem_mem h)
theorem sum_le {ws : List Int} (hw : Few ws) : ∀ k, k ≤ ws.length → 0 ≤ (ws.take k).sum ∧ (ws.take k).sum ≤ 1000 * k
  | 0, _ => by simp
  | k + 1, h => by
    have h1 := sum_le hw k (by omega)
    have h2 := few_at hw (show k < ws.length by omega)
    rw [sum_next (by omega)]
    omega
theorem sum_mono {ws : List Int} (hw : Few ws) {k : Nat} : ∀ j, k < j → j ≤ ws.length → (ws.take k).sum + ws[k]?.getD 0 ≤ (ws.take j).sum
  | 0, h, _ => by omega
  | j + 1, h, hj => by
    rw [sum_next (k := j) (by omega)]
    by_cases e : k = j
    · subst e; omega
    · have h1 := sum_mono hw (k := k) j (by omega) (by omega)
      have h2 := few_at hw (show j < ws.length by omega)
      omega
theorem sum_find {ws : List Int} (hw : Few ws) {x : Int} : ∀ n, n ≤ ws.length → 0 ≤ x → x < (ws.take n).sum → ∃ k, k < n ∧ (ws.take k).sum ≤ x ∧ x < (ws.take k).sum + ws[k]?.getD 0
  | 0, _, h1, h2 => by simp at h2; omega
  | n + 1, hn, h1, h2 => by
    by_cases e : x < (ws.take n).sum
    · obtain ⟨k, hk, h3⟩ := sum_find hw n (by omega) h1 e
      exact ⟨k, by omega, h3⟩
    · rw [sum_next (k := n) (by omega)] at h2
      exact ⟨n, by omega, by omega, h2⟩
def gcell (ws hs : List Int) (k i : Nat) : Rect := ⟨xa ws k, ya hs i, ws[k]?.getD 0, hs[i]?.getD 0⟩
def gRow (ws hs : List Int) (i : Nat) : Nat → List Rect
  | 0 => []
  | k + 1 => gRow ws hs i k ++ [gcell ws hs k i]
def grid (ws hs : List Int) : Nat → List Rect
  | 0 => []
  | i + 1 => grid ws hs i ++ gRow ws hs i ws.length
theorem gRow_mem {ws hs : List Int} {i : Nat} {a : Rect} : ∀ {n}, a ∈ gRow ws hs i n ↔ ∃ k, k < n ∧ a = gcell ws hs k i
  | 0 => by simp [gRow]
  | n + 1 => by
    rw [gRow, List.mem_append, gRow_mem, List.mem_singleton]
    constructor
    · rintro (⟨k, hk, h⟩ | h)
      · exact ⟨k, by omega, h⟩
      · exact ⟨n, by omega, h⟩
    · rintro ⟨k, hk, h⟩
      by_cases e : k = n
      · subst e; exact .inr h
      · exact .inl ⟨k, by omega, h⟩
theorem grid_mem {ws hs : List Int} {a : Rect} : ∀ {m}, a ∈ grid ws hs m ↔ ∃ i k, i < m ∧ k < ws.length ∧ a = gcell ws hs k i
  | 0 => by simp [grid]
  | m + 1 => by
    rw [grid, List.mem_append, grid_mem, gRow_mem]
    constructor
    · rintro (⟨i, k, hi, h⟩ | ⟨k, hk, h⟩)
      · exact ⟨i, k, by omega, h⟩
      · exact ⟨m, k, by omega, hk, h⟩
    · rintro ⟨i, k, hi, hk, h⟩
      by_cases e : i = m
      · subst e; exact .inr ⟨k, hk, h⟩
      · exact .inl ⟨i, k, by omega, hk, h⟩
theorem gRow_len (ws hs : List Int) (i : Nat) : ∀ n, (gRow ws hs i n).length = n
  | 0 => rfl
  | n + 1 => by rw [gRow, List.length_append, gRow_len]; rfl
theorem grid_len (ws hs : List Int) : ∀ m, (grid ws hs m).length = m * ws.length
  | 0 => by simp [grid]
  | m + 1 => by rw [grid, List.length_append, grid_len, gRow_len, Nat.succ_mul]
theorem gcell_ok {ws hs : List Int} (hw : Few ws) (hh : Few hs) {k i : Nat} (hk : k < ws.length) (hi : i < hs.length) : right (gcell ws hs k i) = true ∧ pts (gcell ws hs k i) = true := by
  have a1 := sum_le hw k (by omega)
  have a2 := sum_le hh i (by omega)
  have b1 := few_at hw hk
  have b2 := few_at hh hi
  have c1 := hw.2
  have c2 := hh.2
  constructor
  · rw [right_iff]
    unfold gcell xa ya
    dsimp only
    omega
  · unfold pts gcell
    dsimp only
    rw [decide_eq_true (by omega), decide_eq_true (by omega)]; rfl
theorem row_apart {ws hs : List Int} (hw : Few ws) {i : Nat} : ∀ n, n ≤ ws.length → (gRow ws hs i n).Pairwise fun a b => pts (meet b a) = false
  | 0, _ => List.Pairwise.nil
  | n + 1, h => by
    rw [gRow, List.pairwise_append]
    refine ⟨row_apart hw n (by omega), List.pairwise_singleton _ _, fun a ha b hb => ?_⟩
    obtain ⟨k, hk, rfl⟩ := gRow_mem.1 ha
    rw [List.mem_singleton.1 hb]
    have := sum_mono hw n hk (by omega)
    refine meet_apart (.inr (.inl ?_))
    unfold gcell xa
    dsimp only
    omega
theorem grid_apart {ws hs : List Int} (hw : Few ws) (hh : Few hs) : ∀ m, m ≤ hs.length → (grid ws hs m).Pairwise fun a b => pts (meet b a) = false
  | 0, _ => List.Pairwise.nil
  | m + 1, h => by
    rw [grid, List.pairwise_append]
    refine ⟨grid_apart hw hh m (by omega), row_apart hw _ (Nat.le_refl _), fun a ha b hb => ?_⟩
    obtain ⟨i, k, hi, hk, rfl⟩ := grid_mem.1 ha
    obtain ⟨q, hq, rfl⟩ := gRow_mem.1 hb
    have := sum_mono hh m hi (by omega)
    refine meet_apart (.inr (.inr (.inr ?_)))
    unfold gcell ya
    dsimp only
    omega
/-- the rectangle that a grid makes -/
def gBox (ws hs : List Int) : Rect := ⟨-7, 5, if hs.length = 0 then 0 else xa ws ws.length + 7, ya hs hs.length - 5⟩
theorem gBox_ok {ws hs : List Int} (hw : Few ws) (hh : Few hs) : right (gBox ws hs) = true := by
  have a1 := sum_le hw _ (Nat.le_refl _)
  have a2 := sum_le hh _ (Nat.le_refl _)
  have c1 := hw.2
  have c2 := hh.2
  rw [right_iff]
  unfold gBox xa ya
  dsimp only
  split <;> omega
theorem gcell_in {ws hs : List Int} (hw : Few ws) (hh : Few hs) {k i : Nat} (hk : k < ws.length) (hi : i < hs.length) : meet (gBox ws hs) (gcell ws hs k i) = gcell ws hs k i := by
  have o := gcell_ok hw hh hk hi
  have a1 := sum_le hw k (by omega)
  have a2 := sum_le hh i (by omega)
  have b1 := sum_mono hw _ hk (Nat.le_refl _)
  have b2 := sum_mono hh _ hi (Nat.le_refl _)
  refine meet_within (gBox_ok hw hh) o.1 o.2 ?_ ?_ ?_ ?_ <;> unfold gBox gcell xa ya <;> dsimp only
  · omega
  · rw [if_neg (by omega)]; omega
  · omega
  · omega
theorem at_iff {a : Rect} {x y : Int} : atR a x y = true ↔ a.x ≤ x ∧ x < a.x + a.w ∧ a.y ≤ y ∧ y < a.y + a.h := by
  unfold atR
  simp only [Bool.and_eq_true, decide_eq_true_eq]
  omega
theorem grid_filter {l : List Rect} (h : ∀ a ∈ l, pts a = true) : l.filter pts = l := List.filter_eq_self.2 h
theorem okT_of {r : Rect} {l : List Rect} (hr : right r = true) (hl : l.length ≤ 400) (h : ∀ a ∈ l, right a = true) : okT r l = true := okT_iff.2 ⟨hr, hl, wrongs_iff.2 h⟩
theorem tiles_of {r : Rect} {l : List Rect} (hr : right r = true) (hl : l.length ≤ 400) (h : ∀ a ∈ l, right a = true) (hp : ∀ a ∈ l, pts a = true) : tiles r l = decide (Tl r l) ∧ erT r l = 0 := by
  have k := okT_of hr hl h
  unfold tiles erT
  rw [if_pos k, k, Bool.true_and, grid_filter hp]
  exact ⟨rfl, rfl⟩

section
variable {ws hs : List Int} (hw : Few ws) (hh : Few hs)
include hw hh
theorem grid_all (a : Rect) (ha : a ∈ grid ws hs hs.length) : right a = true ∧ pts a = true := by
  obtain ⟨i, k, hi, hk, rfl⟩ := grid_mem.1 ha
  exact gcell_ok hw hh hk hi
theorem grid_small : (grid ws hs hs.length).length ≤ 64 := by
  rw [grid_len]
  exact Nat.mul_le_mul hh.2 hw.2
theorem grid_tiles : tiles (gBox ws hs) (grid ws hs hs.length) = true ∧ erT (gBox ws hs) (grid ws hs hs.length) = 0 := by
  have hl := grid_small hw hh
  have h := tiles_of (gBox_ok hw hh) (by omega) (fun a ha => (grid_all hw hh a ha).1) (fun a ha => (grid_all hw hh a ha).2)
  refine ⟨h.1.trans (decide_eq_true (tl_of.2 ⟨fun a ha => ?_, grid_apart hw hh _ (Nat.le_refl _), fun x _ y _ hxy => ?_⟩)), h.2⟩
  · obtain ⟨i, k, hi, hk, rfl⟩ := grid_mem.1 ha
    exact gcell_in hw hh hk hi
  · have h1 := at_iff.1 hxy
    unfold gBox at h1
    dsimp only at h1
    have h0 : ¬ hs.length = 0 := fun e => by rw [if_pos e] at h1; omega
    rw [if_neg h0] at h1
    unfold xa ya at h1
    obtain ⟨k, hk, k1, k2⟩ := sum_find hw (x := x + 7) _ (Nat.le_refl _) (by omega) (by omega)
    obtain ⟨i, hi, i1, i2⟩ := sum_find hh (x := y - 5) _ (Nat.le_refl _) (by omega) (by omega)
    refine ⟨gcell ws hs k i, grid_mem.2 ⟨i, k, hi, hk, rfl⟩, at_iff.2 ?_⟩
    unfold gcell xa ya
    dsimp only
    omega
theorem less_tiles {n : Nat} (hn : n < (grid ws hs hs.length).length) : tiles (gBox ws hs) ((grid ws hs hs.length).take n ++ (grid ws hs hs.length).drop (n + 1)) = false ∧ erT (gBox ws hs) ((grid ws hs hs.length).take n ++ (grid ws hs hs.length).drop (n + 1)) = 0 := by
  have hl := grid_small hw hh
  have hmem : ∀ a, a ∈ (grid ws hs hs.length).take n ++ (grid ws hs hs.length).drop (n + 1) → a ∈ grid ws hs hs.length := fun a ha => by
    rcases List.mem_append.1 ha with h | h
    · exact List.mem_of_mem_take h
    · exact List.mem_of_mem_drop h
  have hlen : ((grid ws hs hs.length).take n ++ (grid ws hs hs.length).drop (n + 1)).length ≤ 400 := by
    rw [List.length_append, List.length_take, List.length_drop]; omega
  have h := tiles_of (gBox_ok hw hh) hlen (fun a ha => (grid_all hw hh a (hmem a ha)).1) (fun a ha => (grid_all hw hh a (hmem a ha)).2)
  refine ⟨h.1.trans (decide_eq_false fun q => ?_), h.2⟩
  have q3 := (tl_of.1 q).2.2
  have hsplit : grid ws hs hs.length = (grid ws hs hs.length).take n ++ (grid ws hs hs.length)[n] :: (grid ws hs hs.length).drop (n + 1) := by
    rw [← List.drop_eq_getElem_cons hn, List.take_append_drop]
  have hkeep : ∀ b ∈ grid ws hs hs.length, b ≠ (grid ws hs hs.length)[n] → b ∈ (grid ws hs hs.length).take n ++ (grid ws hs hs.length).drop (n + 1) := fun b hb hne => by
    rw [hsplit] at hb
    rcases List.mem_append.1 hb with h | h
    · exact List.mem_append_left _ h
    · rcases List.mem_cons.1 h with h | h
      · exact absurd h hne
      · exact List.mem_append_right _ h
  have hap : ∀ b ∈ (grid ws hs hs.length).take n ++ (grid ws hs hs.length).drop (n + 1), pts (meet b (grid ws hs hs.length)[n]) = false := fun b hb => by
    have hp := grid_apart hw hh hs.length (Nat.le_refl _)
    rw [hsplit, List.pairwise_append, List.pairwise_cons] at hp
    rcases List.mem_append.1 hb with h | h
    · rw [meet_comm]; exact hp.2.2 b h _ (List.mem_cons_self ..)
    · exact hp.2.1.1 b h
  have hg : (grid ws hs hs.length)[n] ∈ grid ws hs hs.length := List.getElem_mem hn
  have ho := grid_all hw hh _ hg
  obtain ⟨i, k, hi, hk, hc⟩ := grid_mem.1 hg
  rw [hc] at hkeep hap ho
  have b1 := few_at hw hk
  have b2 := few_at hh hi
  have a1 := sum_le hw k (by omega)
  have a2 := sum_le hh i (by omega)
  have e1 := sum_mono hw _ hk (Nat.le_refl _)
  have e2 := sum_mono hh _ hi (Nat.le_refl _)
  have hcor : atR (gcell ws hs k i) (xa ws k) (ya hs i) = true := at_iff.2 (by unfold gcell; dsimp only; omega)
  have hbox : atR (gBox ws hs) (xa ws k) (ya hs i) = true := at_iff.2 (by
    unfold gBox
    dsimp only
    rw [if_neg (by omega)]
    unfold xa ya
    omega)
  have hx : xa ws k ∈ xsOf (gBox ws hs) ((grid ws hs hs.length).take n ++ (grid ws hs hs.length).drop (n + 1)) := by
    rw [xsOf_mem]
    by_cases k0 : k = 0
    · subst k0; exact .inl (by unfold gBox xa; simp)
    · have hk1 : k - 1 < ws.length := by omega
      have e : xa ws k = xa ws (k - 1) + ws[k - 1]?.getD 0 := by
        unfold xa
        have := sum_next hk1
        rw [show k - 1 + 1 = k by omega] at this
        rw [this]; omega
      have b3 := few_at hw hk1
      refine .inr ⟨gcell ws hs (k - 1) i, hkeep _ (grid_mem.2 ⟨i, k - 1, hi, hk1, rfl⟩) (fun h => ?_), .inr (by unfold gcell; exact e)⟩
      have := congrArg Rect.x h
      unfold gcell at this
      dsimp only at this
      omega
  have hy : ya hs i ∈ ysOf (gBox ws hs) ((grid ws hs hs.length).take n ++ (grid ws hs hs.length).drop (n + 1)) := by
    rw [ysOf_mem]
    by_cases i0 : i = 0
    · subst i0; exact .inl (by unfold gBox ya; simp)
    · have hi1 : i - 1 < hs.length := by omega
      have e : ya hs i = ya hs (i - 1) + hs[i - 1]?.getD 0 := by
        unfold ya
        have := sum_next hi1
        rw [show i - 1 + 1 = i by omega] at this
        rw [this]; omega
      have b3 := few_at hh hi1
      refine .inr ⟨gcell ws hs k (i - 1), hkeep _ (grid_mem.2 ⟨i - 1, k, hi1, hk, rfl⟩) (fun h => ?_), .inr (by unfold gcell; exact e)⟩
      have := congrArg Rect.y h
      unfold gcell at this
      dsimp only at this
      omega
  obtain ⟨b, hb, hbc⟩ := q3 _ hx _ hy hbox
  have := meet_pts (grid_all hw hh b (hmem b hb)).1 ho.1 hbc hcor
  rw [hap b hb] at this
  cases this
theorem more_tiles {n : Nat} (hn : n < (grid ws hs hs.length).length) : tiles (gBox ws hs) (grid ws hs hs.length ++ [(grid ws hs hs.length)[n]?.getD default]) = false ∧ erT (gBox ws hs) (grid ws hs hs.length ++ [(grid ws hs hs.length)[n]?.getD default]) = 0 := by
  have hl := grid_small hw hh
  rw [getD_at hn]
  have hg : (grid ws hs hs.length)[n] ∈ grid ws hs hs.length := List.getElem_mem hn
  have hmem : ∀ a, a ∈ grid ws hs hs.length ++ [(grid ws hs hs.length)[n]] → a ∈ grid ws hs hs.length := fun a ha => by
    rcases List.mem_append.1 ha with h | h
    · exact h
    · rw [List.mem_singleton.1 h]; exact hg
  have h := tiles_of (gBox_ok hw hh) (by rw [List.length_append, List.length_singleton]; omega) (fun a ha => (grid_all hw hh a (hmem a ha)).1) (fun a ha => (grid_all hw hh a (hmem a ha)).2)
  refine ⟨h.1.trans (decide_eq_false fun q => ?_), h.2⟩
  have q2 := (tl_of.1 q).2.1
  rw [List.pairwise_append] at q2
  have q4 := q2.2.2 _ hg _ (List.mem_singleton.2 rfl)
  have ho := grid_all hw hh _ hg
  rw [meet_self ho.1 ho.2, ho.2] at q4
  cases q4
end
end Go.Proofs.Ytnlojbkjhlhogaa
