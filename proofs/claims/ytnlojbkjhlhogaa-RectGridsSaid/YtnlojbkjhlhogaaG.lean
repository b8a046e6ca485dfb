/- Contracts of slices.Clone and slices.DeleteFunc at rectangles, with the program's closures. -/
import Derived.Test.YtnlojbkjhlhogaaF
import Derived.Lib.SliceRun
import Derived.Deep.Upon
namespace Go.Proofs.Ytnlojbkjhlhogaa
open Go Go.RowKit IV
set_option linter.unusedVariables false

def flat (l : List Rect) : List Value := l.flatMap Rect.cells
theorem flat_cons (s : Rect) (l : List Rect) : flat (s :: l) = s.cells ++ flat l := by simp [flat]
theorem flat_append (l m : List Rect) : flat (l ++ m) = flat l ++ flat m := by simp [flat]
theorem flat_length (l : List Rect) : (flat l).length = l.length * 4 := by
  induction l with
  | nil => rfl
  | cons s l ih => rw [flat_cons, List.length_append, ih, List.length_cons]; show 4 + _ = _; omega
theorem flat_get : ∀ (l : List Rect) (q r : Nat), q < l.length → r < 4 → (flat l)[q * 4 + r]? = ((l[q]?.getD default).cells)[r]?
  | [], q, r, h, _ => by simp at h
  | s :: l, 0, r, _, hr => by
    rw [flat_cons, List.getElem?_append_left (by show 0 * 4 + r < 4; omega), Nat.zero_mul, Nat.zero_add]; rfl
  | s :: l, q + 1, r, h, hr => by
    rw [flat_cons, List.getElem?_append_right (by show 4 ≤ _; omega), show (q + 1) * 4 + r - s.cells.length = q * 4 + r from by show _ - 4 = _; omega, flat_get l q r (by simpa using h) hr]
    rfl
theorem flat_one (l : List Rect) : ∀ u ∈ flat l, u.oneCell' = true := by
  intro u hu
  simp only [flat, List.mem_flatMap] at hu
  obtain ⟨s, _, hs⟩ := hu
  simp only [Rect.cells, List.mem_cons, List.not_mem_nil, or_false] at hs
  rcases hs with rfl | rfl | rfl | rfl <;> rfl
theorem addr_add' (b o i : Nat) : (⟨b, o, none⟩ : Addr).add i = ⟨b, o + i, none⟩ := by
  unfold Addr.add
  split
  · rename_i h; subst h; rfl
  · rfl
theorem rects_flat {w : World} {b : Nat} {l : List Rect} (h : ∀ j u, (flat l)[j]? = some u → w.cell? ((⟨b, 0, none⟩ : Addr).add j) = some u) : Rects w (some ⟨b, 0, none⟩) l := fun j hj => by
  refine ⟨b, 0, rfl, ?_⟩
  have g : ∀ r, r < 4 → w.cell? ⟨b, 0 + j * 4 + r, none⟩ = ((l[j]?.getD default).cells)[r]? := fun r hr => by
    have e := flat_get l j r hj hr
    have hs : ∃ u, ((l[j]?.getD default).cells)[r]? = some u := ⟨_, List.getElem?_eq_getElem (show r < 4 from hr)⟩
    obtain ⟨u, hu⟩ := hs
    have := h _ u (e.trans hu)
    rw [addr_add'] at this
    rw [hu, ← this, Nat.add_assoc]
  exact ⟨g 0 (by omega), g 1 (by omega), g 2 (by omega), g 3 (by omega)⟩
theorem own_keep {w w' : World} {base e size n : Nat} {v : Value} {xs : List Value} (h : w.ownsRow base e size v n xs) (hk : ∀ g, v.ownBlock = some g → g < w.heap.size → w'.heap[g]? = w.heap[g]?) : w'.ownsRow base e size v n xs := by
  refine ⟨h.1, ?_⟩
  rcases h.2 with h' | ⟨g, cap, cur, rfl, hb, hg, h1, h2, h3, h4⟩
  · exact .inl h'
  · exact .inr ⟨g, cap, cur, rfl, hb, (hk g rfl (Array.getElem?_eq_some_iff.1 hg).1).trans hg, h1, h2, h3, h4⟩
theorem own_turn {W W' : World} {base e size n : Nat} {v : Value} {l : List Value} (h : W.ownsRow base e size v n l) (hb : Below W.heap.size W W') : W'.ownsRow base e size v n l := own_keep h fun g _ hg => hb.block g hg
theorem own_block {w : World} {base e size n : Nat} {v : Value} {xs : List Value} (h : w.ownsRow base e size v n xs) {g : Nat} (hg : v.ownBlock = some g) : base ≤ g ∧ g < w.heap.size := by
  rcases h.2 with ⟨rfl, _⟩ | ⟨g', cap, cur, rfl, hb, hg', _⟩
  · simp [Value.ownBlock] at hg
  · simp only [Value.ownBlock, Option.some.injEq] at hg
    subst hg
    exact ⟨hb, (Array.getElem?_eq_some_iff.1 hg').1⟩
/-- a row of the call's own that holds rectangles -/
theorem own_rects {w : World} {base n : Nat} {v : Value} {l : List Rect} (h : w.ownsRow base 23 4 v n (flat l)) (hn : n = l.length) : ∃ A cap, v = .slice A n cap ∧ Rects w A l := by
  have hc := fun g hg => h.cells (g := g) hg
  rcases h.2 with ⟨rfl, h0⟩ | ⟨g, cap, cur, rfl, hb, hg, _⟩
  · subst h0; exact ⟨none, 0, rfl, fun j hj => by omega⟩
  · exact ⟨_, cap, rfl, rects_flat (hc g rfl)⟩

theorem rects_news {w : World} {ad : Addr} {l : List Rect} (h : Rects w (some ad) l) : ∀ j u, (flat l)[j]? = some u → w.cell? (ad.add j) = some u := by
  intro j u hu
  have hj := (List.getElem?_eq_some_iff.1 hu).1
  rw [flat_length] at hj
  have hq : j / 4 < l.length := by omega
  obtain ⟨b, off, hA, h0, h1, h2, h3⟩ := h (j / 4) hq
  cases hA
  rw [addr_add']
  have e := flat_get l (j / 4) (j % 4) hq (Nat.mod_lt _ (by omega))
  rw [show j / 4 * 4 + j % 4 = j by omega] at e
  rw [hu] at e
  have hm : j % 4 = 0 ∨ j % 4 = 1 ∨ j % 4 = 2 ∨ j % 4 = 3 := by omega
  rcases hm with hm | hm | hm | hm <;> rw [hm] at e
  · rw [show off + j = off + j / 4 * 4 by omega, h0]; exact e.symm
  · rw [show off + j = off + j / 4 * 4 + 1 by omega, h1]; exact e.symm
  · rw [show off + j = off + j / 4 * 4 + 2 by omega, h2]; exact e.symm
  · rw [show off + j = off + j / 4 * 4 + 3 by omega, h3]; exact e.symm

theorem info23 : (Try.prog.info? 23).map (fun i => (i.zero, i.size, i.bytes)) = some (some (.agg #[.int .i64 0, .int .i64 0, .int .i64 0, .int .i64 0]), 4, 32) := by kernel_rfl

set_option maxHeartbeats 2000000 in
/-- slices.Clone -/
theorem c31 (A : Option Addr) (xs : List Rect) (c : Nat) (w : World) (hx : Rects w A xs) (hl : xs.length ≤ 1000000) :
    Calls Try.prog 31 #[.slice A xs.length c] w fun e w' => ∃ v, e = .returned v ∧ w'.ownsRow w.heap.size 23 4 v xs.length (flat xs) ∧ Below w.heap.size w w' := by
  have q : ∀ W, (binOp .eql 30 (.slice A xs.length c) (.slice none 0 0)).run Try.prog W = .ok (.bool A.isNone) W := fun W => Lib.run_eql_slice_nil W _ _ A xs.length c 0 0 Try.underlying30
  cases A with
  | none =>
    have h0 : xs = [] := by
      cases xs with
      | nil => rfl
      | cons x l => obtain ⟨b, off, e, _⟩ := hx 0 (by simp); cases e
    subst h0
    rw [show (none : Option Addr).isNone = true from rfl] at q
    simp only [List.length_nil] at q ⊢
    go_enter Try.func31, Try.ntmps31
    go_wp2
    go_ret
    exact ⟨_, rfl, World.ownsRow_nil _ _ _ _, Below.refl _ _⟩
  | some ad =>
    rw [show (some ad : Option Addr).isNone = false from rfl] at q
    have hn := Lib.hid (fun j u (h : (flat xs)[j]? = some u) => rects_news hx j u h)
    obtain ⟨i0, hi, hz0, hz1, hz2⟩ := info_parts info23
    have hl1 := flat_length xs
    have H1 := Lib.hid hl1
    clear hx hl1
    go_enter Try.func31, Try.ntmps31
    go_wp2_with (at_builtin; go_must (refine wpList_append_own_at _ rfl _ _ 30 rfl w.heap.size 23 i0 _ 4 32 Try.underlying30 hi hz0 hz1 hz2 rfl (by decide) _ _ _ rfl (World.ownsRow_made w #[] 0 (Nat.le_refl _) (Nat.zero_le _) rfl) ad xs.length c (flat xs) rfl H1.out (fun j u h => (Lib.cell?_alloc_some _ (hn.out j u h))) (flat_one xs) (by unfold maxLen; omega) (by omega) (by simp) ?_); intro v' w1 hown hg _ _)
    go_ret
    exact ⟨_, rfl, by simpa using hown, ((Below.refl _ w).alloc (Nat.le_refl _) _).grown hg (by simp) (by intro k hk; cases hk; exact Nat.le_refl _)⟩

/-- the first rectangle that has no points, or -1 -/
def FirstNo (xs : List Rect) (i : Int) : Prop := (i = -1 ∧ ∀ j, j < xs.length → pts (xs[j]?.getD default) = true) ∨ (∃ k : Nat, k < xs.length ∧ i = (k : Int) ∧ pts (xs[k]?.getD default) = false ∧ ∀ j, j < k → pts (xs[j]?.getD default) = true)

set_option maxHeartbeats 600000 in
theorem c43_32 (A : Option Addr) (xs : List Rect) (c : Nat) (w : World) (hx : Rects w A xs) (hl : xs.length ≤ 17592186044416) :
    Calls Try.prog 43 #[.slice A xs.length c, .func (.func 32) #[] #[]] w fun e w' => ∃ i : Int, e = .returned (.int .i64 i) ∧ FirstNo xs i ∧ Below w.heap.size w w' := by
  have Hx := Lib.hid hx
  clear hx
  go_enter Try.func43, Try.ntmps43
  go_wp2
  go_loopw [8] (fun i wr => ∃ k : Nat, k ≤ xs.length ∧ i = .int .i64 k ∧ Hid (∀ j, j < k → pts (xs[j]?.getD default) = true) ∧ Below w.heap.size w wr) (fun i _ => xs.length - (intOf i).toNat)
  case atStart => exact ⟨0, Nat.zero_le _, rfl, fun j hj => absurd hj (Nat.not_lt_zero j), Below.refl _ _⟩
  case round =>
    obtain ⟨k, hk, rfl, hp, hB⟩ := hrel
    by_cases hlt : k < xs.length
    · obtain ⟨x, b, off, hxk, rfl, hc⟩ := (Hx.out.below hB).get k hlt
      obtain ⟨q0, q1, q2, q3⟩ := hc
      have h32 := c32 x wr
      cases hb : pts x with
      | true =>
        rw [hb] at h32
        have Hb := Lib.hid hb
        clear hb
        have H32 := Lib.hid h32
        clear h32
        have hnext : Hid (∀ j, j < k + 1 → pts (xs[j]?.getD default) = true) := fun j hj => by
          by_cases e : j = k
          · subst e; rw [hxk.out]; exact Hb.out
          · exact hp.out j (by omega)
        go_wp2_with (go_at_call 32; refine H32.out.mono ?_; rintro e w' ⟨rfl, hb'⟩)
        go_roundw
        case rel => exact ⟨k + 1, by omega, by go_num, hnext, hB.trans (hb'.mono hB.size)⟩
        case measure => simp [intOf]; omega
      | false =>
        rw [hb] at h32
        have Hb := Lib.hid hb
        clear hb
        have H32 := Lib.hid h32
        clear h32
        go_wp2_with (go_at_call 32; refine H32.out.mono ?_; rintro e w' ⟨rfl, hb'⟩)
        go_ret
        exact ⟨_, rfl, .inr ⟨k, hlt, rfl, by rw [hxk.out]; exact Hb.out, hp.out⟩, hB.trans (hb'.mono hB.size)⟩
    · obtain rfl : k = xs.length := by omega
      go_wp2
      go_ret
      exact ⟨_, rfl, .inl ⟨rfl, hp.out⟩, hB⟩

set_option maxHeartbeats 600000 in
theorem c43_36 (A : Option Addr) (xs : List Rect) (c : Nat) (w : World) (hx : Rects w A xs) (hl : xs.length ≤ 17592186044416) :
    Calls Try.prog 43 #[.slice A xs.length c, .func (.func 36) #[] #[]] w fun e w' => ∃ i : Int, e = .returned (.int .i64 i) ∧ FirstNo xs i ∧ Below w.heap.size w w' := by
  have Hx := Lib.hid hx
  clear hx
  go_enter Try.func43, Try.ntmps43
  go_wp2
  go_loopw [8] (fun i wr => ∃ k : Nat, k ≤ xs.length ∧ i = .int .i64 k ∧ Hid (∀ j, j < k → pts (xs[j]?.getD default) = true) ∧ Below w.heap.size w wr) (fun i _ => xs.length - (intOf i).toNat)
  case atStart => exact ⟨0, Nat.zero_le _, rfl, fun j hj => absurd hj (Nat.not_lt_zero j), Below.refl _ _⟩
  case round =>
    obtain ⟨k, hk, rfl, hp, hB⟩ := hrel
    by_cases hlt : k < xs.length
    · obtain ⟨x, b, off, hxk, rfl, hc⟩ := (Hx.out.below hB).get k hlt
      obtain ⟨q0, q1, q2, q3⟩ := hc
      have h32 := c36 x wr
      cases hb : pts x with
      | true =>
        rw [hb] at h32
        have Hb := Lib.hid hb
        clear hb
        have H32 := Lib.hid h32
        clear h32
        have hnext : Hid (∀ j, j < k + 1 → pts (xs[j]?.getD default) = true) := fun j hj => by
          by_cases e : j = k
          · subst e; rw [hxk.out]; exact Hb.out
          · exact hp.out j (by omega)
        go_wp2_with (go_at_call 36; refine H32.out.mono ?_; rintro e w' ⟨rfl, hb'⟩)
        go_roundw
        case rel => exact ⟨k + 1, by omega, by go_num, hnext, hB.trans (hb'.mono hB.size)⟩
        case measure => simp [intOf]; omega
      | false =>
        rw [hb] at h32
        have Hb := Lib.hid hb
        clear hb
        have H32 := Lib.hid h32
        clear h32
        go_wp2_with (go_at_call 36; refine H32.out.mono ?_; rintro e w' ⟨rfl, hb'⟩)
        go_ret
        exact ⟨_, rfl, .inr ⟨k, hlt, rfl, by rw [hxk.out]; exact Hb.out, hp.out⟩, hB.trans (hb'.mono hB.size)⟩
    · obtain rfl : k = xs.length := by omega
      go_wp2
      go_ret
      exact ⟨_, rfl, .inl ⟨rfl, hp.out⟩, hB⟩

end Go.Proofs.Ytnlojbkjhlhogaa
