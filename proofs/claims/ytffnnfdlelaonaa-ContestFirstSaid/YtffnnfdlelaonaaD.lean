/- Contracts of contest.order and of contest.Wins: any two sides. -/
import Derived.Test.YtffnnfdlelaonaaC
namespace Go.Proofs.Ytffnnfdlelaonaa
open Go.RowKit Go.Shelf
set_option linter.unusedVariables false

/-- which of two is ahead: -1 the first, 1 the second, 0 they are the same -/
def ord (s t : Side) : Int := ordl (rank s) (rank t)
theorem c26 (s t : Side) (w : World) (hs : right s = true) (hsw : s.wf) (ht : right t = true) (htw : t.wf) :
    Calls Try.prog 26 #[.agg s.arr, .agg t.arr] w fun e w' => e = .returned (.int .i64 (ord s t)) ∧ Below w.heap.size w w' := by
  obtain ⟨r0, r1, r2, r3, r4, r5, r6, r7, hr, Hr⟩ := c33' s hs hsw
  obtain ⟨q0, q1, q2, q3, q4, q5, q6, q7, hq, Hq⟩ := c33' t ht htw
  have h := c26_first w s.style s.width s.color s.by_ s.row s.col t.style t.width t.color t.by_ t.row t.col r0 r1 r2 r3 r4 r5 r6 r7 q0 q1 q2 q3 q4 q5 q6 q7 Hr Hq
  rw [← hr.out, ← hq.out] at h
  exact h

def winsB (a b : Side) : Bool := right a && right b && decide (ord a b < 0)
def okE (a b : Side) : Int := if (right a && right b) = true then 0 else 110

theorem sides_two (W : World) (a b : Side) (t : TypeId) : Sides (W.alloc (.cells #[.int .i64 a.style, .int .i64 a.width, .int .u32 a.color, .int .i64 a.by_, .int .i64 a.row, .int .i64 a.col, .int .i64 b.style, .int .i64 b.width, .int .u32 b.color, .int .i64 b.by_, .int .i64 b.row, .int .i64 b.col] t)) (some ⟨W.heap.size, 0, none⟩) [a, b] := fun j hj => by
  refine ⟨W.heap.size, 0, rfl, ?_⟩
  have h := heap_alloc_new W (.cells #[.int .i64 a.style, .int .i64 a.width, .int .u32 a.color, .int .i64 a.by_, .int .i64 a.row, .int .i64 a.col, .int .i64 b.style, .int .i64 b.width, .int .u32 b.color, .int .i64 b.by_, .int .i64 b.row, .int .i64 b.col] t)
  obtain ⟨W', hW'⟩ : ∃ W', W.alloc (.cells #[.int .i64 a.style, .int .i64 a.width, .int .u32 a.color, .int .i64 a.by_, .int .i64 a.row, .int .i64 a.col, .int .i64 b.style, .int .i64 b.width, .int .u32 b.color, .int .i64 b.by_, .int .i64 b.row, .int .i64 b.col] t) = W' := ⟨_, rfl⟩
  rw [hW'] at h ⊢
  rcases j with _ | _ | j
  · simp [SideAt, World.cell?, h]
  · simp [SideAt, World.cell?, h]
  · simp at hj; omega

/-- a block that is one side -/
structure Row (W : World) (B : Nat) (s : Side) : Prop where
  at_ : W.heap[B]? = some (.cells s.arr 30 (0, 0))
theorem Row.lt {W : World} {B : Nat} {s : Side} (h : Row W B s) : B < W.heap.size := (Array.getElem?_eq_some_iff.1 h.at_).1
theorem Row.new (W : World) (s : Side) : Row (W.alloc (.cells s.arr 30)) W.heap.size s := ⟨heap_alloc_new _ _⟩
theorem Row.alloc {W : World} {B : Nat} {s : Side} (h : Row W B s) (o : Obj) : Row (W.alloc o) B s := ⟨(Below.heap_alloc _ _ _ h.lt).trans h.at_⟩
theorem Row.below {W W' : World} {B : Nat} {s : Side} (h : Row W B s) {C : Nat} (hb : Below C W W') (hB : B < C) : Row W' B s := ⟨(hb.block B hB).trans h.at_⟩
theorem Row.turn {W W' : World} {B : Nat} {s : Side} (h : Row W B s) (hb : Below W.heap.size W W') : Row W' B s := h.below hb h.lt
theorem Row.side {W : World} {B : Nat} {s : Side} (h : Row W B s) :
    W.cell? ⟨B, 0, none⟩ = some (.int .i64 s.style) ∧ W.cell? ⟨B, 1, none⟩ = some (.int .i64 s.width) ∧ W.cell? ⟨B, 2, none⟩ = some (.int .u32 s.color) ∧
    W.cell? ⟨B, 3, none⟩ = some (.int .i64 s.by_) ∧ W.cell? ⟨B, 4, none⟩ = some (.int .i64 s.row) ∧ W.cell? ⟨B, 5, none⟩ = some (.int .i64 s.col) := by
  simp [World.cell?, h.at_, Side.arr]

theorem blk_set {W : World} {B : Nat} {cs : Array Value} {t : TypeId} {fr : Nat × Nat} (h : W.heap[B]? = some (.cells cs t fr)) (i : Nat) (v : Value) :
    (W.setCell ⟨B, i, none⟩ v).heap[B]? = some (.cells (cs.setIfInBounds i v) t fr) := by simp [World.setCell, Array.getElem?_modify, h]
theorem Row.frozen {W : World} {B : Nat} {s : Side} (h : Row W B s) (i : Nat) : W.frozen? ⟨B, i, none⟩ = false := by simp [World.frozen?, h.at_]
/-- the six cells of a side are written -/
def put6 (W : World) (B : Nat) (s : Side) : World :=
  (((((W.setCell ⟨B, 0, none⟩ (.int .i64 s.style)).setCell ⟨B, 1, none⟩ (.int .i64 s.width)).setCell ⟨B, 2, none⟩ (.int .u32 s.color)).setCell ⟨B, 3, none⟩ (.int .i64 s.by_)).setCell ⟨B, 4, none⟩ (.int .i64 s.row)).setCell ⟨B, 5, none⟩ (.int .i64 s.col)
theorem arr_put (a b : Side) : ((((((a.arr.setIfInBounds 0 (.int .i64 b.style)).setIfInBounds 1 (.int .i64 b.width)).setIfInBounds 2 (.int .u32 b.color)).setIfInBounds 3 (.int .i64 b.by_)).setIfInBounds 4 (.int .i64 b.row)).setIfInBounds 5 (.int .i64 b.col)) = b.arr := by
  simp [Side.arr]
theorem put6_heap {W : World} {B : Nat} {cs : Array Value} {t : TypeId} {fr : Nat × Nat} (h : W.heap[B]? = some (.cells cs t fr)) (s : Side) :
    (put6 W B s).heap[B]? = some (.cells ((((((cs.setIfInBounds 0 (.int .i64 s.style)).setIfInBounds 1 (.int .i64 s.width)).setIfInBounds 2 (.int .u32 s.color)).setIfInBounds 3 (.int .i64 s.by_)).setIfInBounds 4 (.int .i64 s.row)).setIfInBounds 5 (.int .i64 s.col)) t fr) := by
  unfold put6
  apply blk_set; apply blk_set; apply blk_set; apply blk_set; apply blk_set; apply blk_set; exact h
theorem Row.put {W : World} {B : Nat} {t : Side} (h : Row W B t) (s : Side) : Row (put6 W B s) B s := by
  have := put6_heap h.at_ s
  rw [arr_put] at this
  exact ⟨this⟩
theorem put6_other (W : World) (B : Nat) (s : Side) {B' : Nat} (hne : B' ≠ B) : (put6 W B s).heap[B']? = W.heap[B']? := by
  unfold put6
  rw [Below.heap_setCell _ _ _ _ (by exact hne), Below.heap_setCell _ _ _ _ (by exact hne), Below.heap_setCell _ _ _ _ (by exact hne), Below.heap_setCell _ _ _ _ (by exact hne), Below.heap_setCell _ _ _ _ (by exact hne), Below.heap_setCell _ _ _ _ (by exact hne)]
theorem put6_size (W : World) (B : Nat) (s : Side) : (put6 W B s).heap.size = W.heap.size := by simp [put6, World.setCell]
theorem Row.other {W : World} {B B' : Nat} {t : Side} (h : Row W B' t) (s : Side) (hne : B' ≠ B) : Row (put6 W B s) B' t := ⟨(put6_other W B s hne).trans h.at_⟩
theorem put6_below {W : World} {B C : Nat} (s : Side) (hC : C ≤ B) (hs : C ≤ W.heap.size) : Below C W (put6 W B s) := by
  unfold put6
  have hS : ∀ i, ¬ (fun k => k < C) (Addr.mk B i none).block := fun i h => absurd h (by show ¬ B < C; omega)
  exact ((((((((Keeps.refl (fun k => k < C) W).setCell (hS 0) _).setCell (hS 1) _).setCell (hS 2) _).setCell (hS 3) _).setCell (hS 4) _).setCell (hS 5) _)).below fun k hk => hk

theorem c16 (a b : Side) (w : World) (ha : a.wf) (hb : b.wf) :
    Calls Try.prog 16 #[.agg a.arr, .agg b.arr] w fun e w' => e = .returned (.tuple #[.bool (winsB a b), .int .i64 (okE a b)]) ∧ Below w.heap.size w w' := by
  have h25 := c25 (some ⟨((w.alloc (.cells a.arr 30)).alloc (.cells b.arr 30)).heap.size, 0, none⟩) [a, b] 2 _ (sides_two ((w.alloc (.cells a.arr 30)).alloc (.cells b.arr 30)) a b 30) (by simp)
  have hsz : ((w.alloc (.cells a.arr 30)).alloc (.cells b.arr 30)).heap.size = w.heap.size + 1 + 1 := by rw [World.size_alloc, World.size_alloc]
  rw [hsz] at h25
  have hB0 : Below w.heap.size w (((w.alloc (.cells a.arr 30)).alloc (.cells b.arr 30)).alloc (.cells #[.int .i64 a.style, .int .i64 a.width, .int .u32 a.color, .int .i64 a.by_, .int .i64 a.row, .int .i64 a.col, .int .i64 b.style, .int .i64 b.width, .int .u32 b.color, .int .i64 b.by_, .int .i64 b.row, .int .i64 b.col] 30)) :=
    (((Below.refl _ w).alloc (Nat.le_refl _) _).alloc (by simp) _).alloc (by simp; omega) _
  have HB0 := Lib.hid hB0
  clear hB0
  cases hr : (right a && right b) with
  | false =>
    have hw : wrongs [a, b] = true := by
      simp only [wrongs, List.any_cons, List.any_nil, Bool.or_false]
      revert hr; cases right a <;> cases right b <;> simp
    have h1 : winsB a b = false := by unfold winsB; rw [hr]; rfl
    have h2 : okE a b = 110 := by unfold okE; rw [hr]; rfl
    rw [h1, h2]
    have Hw := Lib.hid hw
    clear hw h1 h2 hr
    rw [Hw.out] at h25
    have H25' := Lib.hid h25
    clear h25 hsz
    unfold Side.arr at *
    go_enter Try.func16, Try.ntmps16
    go_wp2_with (go_at_call 25; refine H25'.out.mono ?_; rintro e w1 ⟨rfl, hb1⟩)
    go_ret2
    exact ⟨rfl, HB0.out.trans (hb1.mono HB0.out.size)⟩
  | true =>
    have hra : right a = true := by revert hr; cases right a <;> simp
    have hrb : right b = true := by revert hr; cases right b <;> simp
    have hw : wrongs [a, b] = false := by
      simp only [wrongs, List.any_cons, List.any_nil, Bool.or_false, hra, hrb]; rfl
    have h1 : winsB a b = decide (ord a b < 0) := by unfold winsB; rw [hr]; rfl
    have h2 : okE a b = 0 := by unfold okE; rw [hr]; rfl
    rw [h1, h2]
    have H26 := Lib.hid (fun W => c26 a b W hra ha hrb hb)
    have Hw := Lib.hid hw
    clear hw h1 h2 hr hra hrb
    rw [Hw.out] at h25
    have H25' := Lib.hid h25
    clear h25 hsz
    generalize ord a b = x at *
    unfold Side.arr at *
    go_enter Try.func16, Try.ntmps16
    go_wp2_with (fail)
    refine H25'.out.mono ?_
    rintro e w1 ⟨rfl, hb1⟩
    have r1 := (((Row.new w a).alloc (.cells b.arr 30)).alloc (.cells #[.int .i64 a.style, .int .i64 a.width, .int .u32 a.color, .int .i64 a.by_, .int .i64 a.row, .int .i64 a.col, .int .i64 b.style, .int .i64 b.width, .int .u32 b.color, .int .i64 b.by_, .int .i64 b.row, .int .i64 b.col] 30)).turn hb1
    have r2 := ((Row.new (w.alloc (.cells a.arr 30)) b).alloc (.cells #[.int .i64 a.style, .int .i64 a.width, .int .u32 a.color, .int .i64 a.by_, .int .i64 a.row, .int .i64 a.col, .int .i64 b.style, .int .i64 b.width, .int .u32 b.color, .int .i64 b.by_, .int .i64 b.row, .int .i64 b.col] 30)).turn hb1
    rw [World.size_alloc] at r2
    obtain ⟨a0, a1, a2, a3, a4, a5⟩ := r1.side
    obtain ⟨b0, b1, b2, b3, b4, b5⟩ := r2.side
    have hB1 := HB0.out.trans (hb1.mono HB0.out.size)
    have HB1 := Lib.hid hB1
    clear hB1
    go_wp2_with (go_at_call 26; refine (H26.out _).mono ?_; rintro e w2 ⟨rfl, hb2⟩)
    go_ret2
    exact ⟨rfl, HB1.out.trans (hb2.mono HB1.out.size)⟩

end Go.Proofs.Ytffnnfdlelaonaa
