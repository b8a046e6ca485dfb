/- Contracts of contest.areRight, and of the library's functions that it calls: for every slice of sides. -/
import Derived.Test.YtffnnfdlelaonaaA
namespace Go.Proofs.Ytffnnfdlelaonaa
open Go.RowKit
set_option linter.unusedVariables false

instance : Inhabited Side := ⟨⟨0, 0, 0, 0, 0, 0⟩⟩
/-- the six cells of a side, at a block's place -/
def SideAt (w : World) (b o : Nat) (s : Side) : Prop :=
  w.cell? ⟨b, o, none⟩ = some (.int .i64 s.style) ∧ w.cell? ⟨b, o + 1, none⟩ = some (.int .i64 s.width) ∧ w.cell? ⟨b, o + 2, none⟩ = some (.int .u32 s.color) ∧
  w.cell? ⟨b, o + 3, none⟩ = some (.int .i64 s.by_) ∧ w.cell? ⟨b, o + 4, none⟩ = some (.int .i64 s.row) ∧ w.cell? ⟨b, o + 5, none⟩ = some (.int .i64 s.col)
def Sides (w : World) (A : Option Addr) (xs : List Side) : Prop :=
  ∀ j, j < xs.length → ∃ b off, A = some ⟨b, off, none⟩ ∧ SideAt w b (off + j * 6) (xs[j]?.getD default)
theorem Sides.get {w : World} {A : Option Addr} {xs : List Side} (h : Sides w A xs) (j : Nat) (hj : j < xs.length) :
    ∃ x b off, Hid (xs[j]?.getD default = x) ∧ A = some ⟨b, off, none⟩ ∧ SideAt w b (off + j * 6) x :=
  let ⟨b, off, hA, hc⟩ := h j hj; ⟨_, b, off, Lib.hid rfl, hA, hc⟩
theorem SideAt.below {w w' : World} {b o : Nat} {s : Side} (h : SideAt w b o s) {B : Nat} (hb : Below B w w') (hB : b < B) : SideAt w' b o s :=
  have f := fun i => hb.cell (p := ⟨b, i, none⟩) hB
  ⟨(f _).trans h.1, (f _).trans h.2.1, (f _).trans h.2.2.1, (f _).trans h.2.2.2.1, (f _).trans h.2.2.2.2.1, (f _).trans h.2.2.2.2.2⟩
theorem SideAt.lt {w : World} {b o : Nat} {s : Side} (h : SideAt w b o s) : b < w.heap.size := World.block_lt_of_cell? w _ h.1
theorem Sides.below {w w' : World} {A : Option Addr} {xs : List Side} (h : Sides w A xs) (hb : Below w.heap.size w w') : Sides w' A xs := fun j hj =>
  let ⟨b, off, hA, hc⟩ := h j hj
  ⟨b, off, hA, hc.below hb hc.lt⟩

def wrongs (xs : List Side) : Bool := xs.any fun s => !right s
theorem wrongs_of {xs : List Side} {k : Nat} (hk : k < xs.length) (h : right (xs[k]?.getD default) = false) : wrongs xs = true := by
  unfold wrongs
  rw [List.any_eq_true]
  refine ⟨xs[k], List.getElem_mem hk, ?_⟩
  simp [hk] at h
  simp [h]
theorem wrongs_none {xs : List Side} (h : ∀ j, j < xs.length → right (xs[j]?.getD default) = true) : wrongs xs = false := by
  unfold wrongs
  rw [List.any_eq_false]
  intro x hx
  obtain ⟨j, hj, rfl⟩ := List.getElem_of_mem hx
  have := h j hj
  simp [hj] at this
  simp [this]
theorem wrongs_iff {xs : List Side} : wrongs xs = false ↔ ∀ x ∈ xs, right x = true := by
  unfold wrongs
  rw [List.any_eq_false]
  simp

theorem c32 (s : Side) (w : World) : Calls Try.prog 32 #[.agg s.arr] w fun e w' => e = .returned (.bool (!right s)) ∧ Below w.heap.size w w' := by
  have hB : Below w.heap.size w (w.alloc (.cells s.arr 30)) := (Below.refl _ _).alloc (Nat.le_refl _) _
  have H := Lib.hid (c18 s (w.alloc (.cells s.arr 30)))
  have HB := Lib.hid hB
  clear hB
  generalize hr : right s = r at *
  clear hr
  unfold Side.arr at *
  go_enter Try.func32, Try.ntmps32
  go_wp2_with (go_at_call 18; refine H.out.mono ?_; rintro e w' ⟨rfl, hb⟩)
  go_ret
  exact ⟨rfl, HB.out.trans (hb.mono HB.out.size)⟩

def IdxSaid (xs : List Side) (w : World) (e : Ending) (w' : World) : Prop := ∃ i : Int, e = .returned (.int .i64 i) ∧ decide (0 ≤ i) = wrongs xs ∧ Below w.heap.size w w'

set_option maxHeartbeats 400000 in
theorem c38 (A : Option Addr) (xs : List Side) (c : Nat) (w : World) (hx : Sides w A xs) (hl : xs.length ≤ 17592186044416) :
    Calls Try.prog 38 #[.slice A xs.length c, .func (.func 32) #[] #[]] w (IdxSaid xs w) := by
  have Hx := Lib.hid hx
  clear hx
  go_enter Try.func38, Try.ntmps38
  go_wp2
  go_loopw [8] (fun i wr => ∃ k : Nat, k ≤ xs.length ∧ i = .int .i64 k ∧ Hid (∀ j, j < k → right (xs[j]?.getD default) = true) ∧ Below w.heap.size w wr) (fun i _ => xs.length - (intOf i).toNat)
  case atStart => exact ⟨0, Nat.zero_le _, rfl, fun j hj => absurd hj (Nat.not_lt_zero j), Below.refl _ _⟩
  case round =>
    obtain ⟨k, hk, rfl, hp, hB⟩ := hrel
    by_cases hlt : k < xs.length
    · obtain ⟨x, b, off, hxk, rfl, hc⟩ := (Hx.out.below hB).get k hlt
      obtain ⟨q0, q1, q2, q3, q4, q5⟩ := hc
      have h32 := c32 x wr
      cases hb : right x with
      | true =>
        rw [hb] at h32
        have Hb := Lib.hid hb
        clear hb
        have H32 := Lib.hid h32
        clear h32
        have hnext : Hid (∀ j, j < k + 1 → right (xs[j]?.getD default) = true) := fun j hj => by
          by_cases e : j = k
          · subst e; rw [hxk.out]; exact Hb.out
          · exact hp.out j (by omega)
        go_wp2_with (go_at_call 32; refine H32.out.mono ?_; rintro e w' ⟨rfl, hb'⟩)
        go_roundw
        case rel => exact ⟨k + 1, by omega, by go_num, hnext, hB.trans (hb'.mono hB.size)⟩
        case measure => simp [intOf]; omega
      | false =>
        rw [hb] at h32
        have Hb := Lib.hid hb
        clear hb
        have H32 := Lib.hid h32
        clear h32
        go_wp2_with (go_at_call 32; refine H32.out.mono ?_; rintro e w' ⟨rfl, hb'⟩)
        go_ret
        exact ⟨_, rfl, by rw [wrongs_of hlt (by rw [hxk.out]; exact Hb.out)]; simp, hB.trans (hb'.mono hB.size)⟩
    · obtain rfl : k = xs.length := by omega
      go_wp2
      go_ret
      exact ⟨_, rfl, by rw [wrongs_none hp.out]; decide, hB⟩

theorem c31 (A : Option Addr) (xs : List Side) (c : Nat) (w : World) (hx : Sides w A xs) (hl : xs.length ≤ 17592186044416) :
    Calls Try.prog 31 #[.slice A xs.length c, .func (.func 32) #[] #[]] w fun e w' => e = .returned (.bool (wrongs xs)) ∧ Below w.heap.size w w' := by
  have H := Lib.hid (c38 A xs c w hx hl)
  clear hx
  go_enter Try.func31, Try.ntmps31
  go_wp2_with (go_at_call 38; refine H.out.mono ?_; rintro e w' ⟨i, rfl, hi, hb⟩; have Hi := Lib.hid hi; clear hi)
  all_goals go_ret
  all_goals rw [← Hi.out]
  all_goals exact ⟨rfl, hb⟩

/-- contest.areRight -/
theorem c25 (A : Option Addr) (xs : List Side) (c : Nat) (w : World) (hx : Sides w A xs) (hl : xs.length ≤ 17592186044416) :
    Calls Try.prog 25 #[.slice A xs.length c] w fun e w' => e = .returned (.bool (!wrongs xs)) ∧ Below w.heap.size w w' := by
  have H := Lib.hid (c31 A xs c w hx hl)
  clear hx
  go_enter Try.func25, Try.ntmps25
  go_wp2_with (go_at_call 31; refine H.out.mono ?_; rintro e w' ⟨rfl, hb⟩)
  go_ret
  exact ⟨rfl, hb⟩

/-- a side's rank, a number at a place -/
def rank (s : Side) : List Int :=
  [if s.style = 1 then 0 else 1, if s.style = 0 then 1 else 0, -s.width, if s.style = 1 ∨ s.style = 0 then 0 else s.style, s.by_, s.row, s.col, s.color]
def rankA (s : Side) : Array Value := ((rank s).map (Value.int .i64)).toArray
theorem right_iff {s : Side} : right s = true ↔ (0 ≤ s.style ∧ s.style ≤ 9) ∧ (0 ≤ s.width ∧ s.width ≤ if drawn s.style then 1073741824 else 0) ∧ (0 ≤ s.by_ ∧ s.by_ ≤ 5) ∧ (0 ≤ s.row ∧ s.row ≤ 1000000) ∧ (0 ≤ s.col ∧ s.col ≤ 1000000) := by
  unfold right rightW
  simp only [Bool.and_eq_true, decide_eq_true_eq, and_assoc]
theorem right_width {s : Side} (h : right s = true) : 0 ≤ s.width ∧ s.width ≤ 1073741824 := by
  have := (right_iff.1 h).2.1
  split at this <;> omega

def Side.wf (s : Side) : Prop := 0 ≤ s.color ∧ s.color ≤ 4294967295

set_option maxHeartbeats 1000000 in
/-- contest.ranked -/
theorem c33 (s : Side) (w : World) (hr : right s = true) (hc : s.wf) : Calls Try.prog 33 #[.agg s.arr] w fun e w' => e = .returned (.agg (rankA s)) ∧ Below w.heap.size w w' := by
  have hw := right_width hr
  have hra : rankA s = #[.int .i64 (if s.style = 1 then 0 else 1), .int .i64 (if s.style = 0 then 1 else 0), .int .i64 (-s.width), .int .i64 (if s.style = 1 ∨ s.style = 0 then 0 else s.style), .int .i64 s.by_, .int .i64 s.row, .int .i64 s.col, .int .i64 s.color] := rfl
  rw [hra]
  clear hra hr
  obtain ⟨sty, wid, co, by_, row, col⟩ := s
  unfold Side.wf at hc
  dsimp only at hw hc ⊢
  unfold Side.arr
  dsimp only
  have hB : Below w.heap.size w w := Below.refl _ _
  by_cases h1 : sty = 1
  · subst h1
    go_enter Try.func33, Try.ntmps33
    go_wp2
    refine bodyPost_ret (v := .agg #[.int .i64 0, .int .i64 0, .int .i64 (-wid), .int .i64 0, .int .i64 by_, .int .i64 row, .int .i64 col, .int .i64 co]) (by simp [results, Try.results33, go_sem]) rfl ⟨rfl, ?_⟩
    exact (((Below.refl _ _).alloc (Nat.le_refl _) _).alloc (by simp) _).alloc (by simp; omega) _
  · by_cases h0 : sty = 0
    · subst h0
      go_enter Try.func33, Try.ntmps33
      go_wp2
      refine bodyPost_ret (v := .agg #[.int .i64 1, .int .i64 1, .int .i64 (-wid), .int .i64 0, .int .i64 by_, .int .i64 row, .int .i64 col, .int .i64 co]) (by simp [results, Try.results33, go_sem]) rfl ⟨rfl, ?_⟩
      exact (((Below.refl _ _).alloc (Nat.le_refl _) _).alloc (by simp) _).alloc (by simp; omega) _
    · have e1 : (if sty = 1 then (0 : Int) else 1) = 1 := by rw [if_neg h1]
      have e2 : (if sty = 0 then (1 : Int) else 0) = 0 := by rw [if_neg h0]
      have e3 : (if sty = 1 ∨ sty = 0 then (0 : Int) else sty) = sty := by rw [if_neg (by omega)]
      rw [e1, e2, e3]
      have t1 : (sty == 1) = false := by rw [beq_eq_false_iff_ne]; exact h1
      have t0 : (sty == 0) = false := by rw [beq_eq_false_iff_ne]; exact h0
      clear e1 e2 e3 h0 h1
      go_enter Try.func33, Try.ntmps33
      go_wp2
      refine bodyPost_ret (v := .agg #[.int .i64 1, .int .i64 0, .int .i64 (-wid), .int .i64 sty, .int .i64 by_, .int .i64 row, .int .i64 col, .int .i64 co]) (by simp [results, Try.results33, go_sem]) rfl ⟨rfl, ?_⟩
      exact (((Below.refl _ _).alloc (Nat.le_refl _) _).alloc (by simp) _).alloc (by simp; omega) _

end Go.Proofs.Ytffnnfdlelaonaa
