/- Data of package collapse in memory: lines, runs, places, edges; contracts of areLines and areRuns. -/
import Derived.Test.YtmlcjiabnmdfeaaCT
import Derived.Test.YtmlcjiabnmdfeaaGR
namespace Go.Proofs.Ytmlcjiabnmdfeaa
open Go Go.RowKit Go.Shelf
set_option linter.unusedVariables false

structure Line where
  style : Int
  width : Int
  color : Int
  deriving DecidableEq
instance : Inhabited Line := ⟨⟨0, 0, 0⟩⟩
def Line.cells (p : Line) : List Value := [.int .i64 p.style, .int .i64 p.width, .int .u32 p.color]
def Line.arr (p : Line) : Array Value := #[.int .i64 p.style, .int .i64 p.width, .int .u32 p.color]
theorem Line.len : ∀ x : Line, (Line.cells x).length = 3 := fun _ => rfl
theorem Line.one : ∀ x : Line, ∀ u ∈ Line.cells x, u.oneCell' = true := fun x u hu => by
  simp only [Line.cells, List.mem_cons, List.not_mem_nil, or_false] at hu
  rcases hu with rfl | rfl | rfl <;> rfl
structure L4 where
  a0 : Int
  a1 : Int
  a2 : Int
  b0 : Int
  b1 : Int
  b2 : Int
  c0 : Int
  c1 : Int
  c2 : Int
  d0 : Int
  d1 : Int
  d2 : Int
  deriving DecidableEq
instance : Inhabited L4 := ⟨⟨0, 0, 0, 0, 0, 0, 0, 0, 0, 0, 0, 0⟩⟩
def L4.cells (p : L4) : List Value := [.int .i64 p.a0, .int .i64 p.a1, .int .u32 p.a2, .int .i64 p.b0, .int .i64 p.b1, .int .u32 p.b2, .int .i64 p.c0, .int .i64 p.c1, .int .u32 p.c2, .int .i64 p.d0, .int .i64 p.d1, .int .u32 p.d2]
def L4.arr (p : L4) : Array Value := #[.int .i64 p.a0, .int .i64 p.a1, .int .u32 p.a2, .int .i64 p.b0, .int .i64 p.b1, .int .u32 p.b2, .int .i64 p.c0, .int .i64 p.c1, .int .u32 p.c2, .int .i64 p.d0, .int .i64 p.d1, .int .u32 p.d2]
theorem L4.len : ∀ x : L4, (L4.cells x).length = 12 := fun _ => rfl
theorem L4.one : ∀ x : L4, ∀ u ∈ L4.cells x, u.oneCell' = true := fun x u hu => by
  simp only [L4.cells, List.mem_cons, List.not_mem_nil, or_false] at hu
  rcases hu with rfl | rfl | rfl | rfl | rfl | rfl | rfl | rfl | rfl | rfl | rfl | rfl <;> rfl
structure Run where
  from_ : Int
  to_ : Int
  a0 : Int
  a1 : Int
  a2 : Int
  b0 : Int
  b1 : Int
  b2 : Int
  c0 : Int
  c1 : Int
  c2 : Int
  d0 : Int
  d1 : Int
  d2 : Int
  deriving DecidableEq
instance : Inhabited Run := ⟨⟨0, 0, 0, 0, 0, 0, 0, 0, 0, 0, 0, 0, 0, 0⟩⟩
def Run.cells (p : Run) : List Value := [.int .i64 p.from_, .int .i64 p.to_, .int .i64 p.a0, .int .i64 p.a1, .int .u32 p.a2, .int .i64 p.b0, .int .i64 p.b1, .int .u32 p.b2, .int .i64 p.c0, .int .i64 p.c1, .int .u32 p.c2, .int .i64 p.d0, .int .i64 p.d1, .int .u32 p.d2]
def Run.arr (p : Run) : Array Value := #[.int .i64 p.from_, .int .i64 p.to_, .int .i64 p.a0, .int .i64 p.a1, .int .u32 p.a2, .int .i64 p.b0, .int .i64 p.b1, .int .u32 p.b2, .int .i64 p.c0, .int .i64 p.c1, .int .u32 p.c2, .int .i64 p.d0, .int .i64 p.d1, .int .u32 p.d2]
theorem Run.len : ∀ x : Run, (Run.cells x).length = 14 := fun _ => rfl
theorem Run.one : ∀ x : Run, ∀ u ∈ Run.cells x, u.oneCell' = true := fun x u hu => by
  simp only [Run.cells, List.mem_cons, List.not_mem_nil, or_false] at hu
  rcases hu with rfl | rfl | rfl | rfl | rfl | rfl | rfl | rfl | rfl | rfl | rfl | rfl | rfl | rfl <;> rfl
structure Place where
  node : Int
  row : Int
  col : Int
  rows : Int
  cols : Int
  deriving DecidableEq
instance : Inhabited Place := ⟨⟨0, 0, 0, 0, 0⟩⟩
def Place.cells (p : Place) : List Value := [.int .i64 p.node, .int .i64 p.row, .int .i64 p.col, .int .i64 p.rows, .int .i64 p.cols]
def Place.arr (p : Place) : Array Value := #[.int .i64 p.node, .int .i64 p.row, .int .i64 p.col, .int .i64 p.rows, .int .i64 p.cols]
theorem Place.len : ∀ x : Place, (Place.cells x).length = 5 := fun _ => rfl
theorem Place.one : ∀ x : Place, ∀ u ∈ Place.cells x, u.oneCell' = true := fun x u hu => by
  simp only [Place.cells, List.mem_cons, List.not_mem_nil, or_false] at hu
  rcases hu with rfl | rfl | rfl | rfl | rfl <;> rfl
structure Edge where
  row : Int
  col : Int
  lies : Bool
  style : Int
  width : Int
  color : Int
  by_ : Int
  wrow : Int
  wcol : Int
  asked : Int
  deriving DecidableEq
instance : Inhabited Edge := ⟨⟨0, 0, false, 0, 0, 0, 0, 0, 0, 0⟩⟩
def Edge.cells (p : Edge) : List Value := [.int .i64 p.row, .int .i64 p.col, .bool p.lies, .int .i64 p.style, .int .i64 p.width, .int .u32 p.color, .int .i64 p.by_, .int .i64 p.wrow, .int .i64 p.wcol, .int .i64 p.asked]
def Edge.arr (p : Edge) : Array Value := #[.int .i64 p.row, .int .i64 p.col, .bool p.lies, .int .i64 p.style, .int .i64 p.width, .int .u32 p.color, .int .i64 p.by_, .int .i64 p.wrow, .int .i64 p.wcol, .int .i64 p.asked]
theorem Edge.len : ∀ x : Edge, (Edge.cells x).length = 10 := fun _ => rfl
theorem Edge.one : ∀ x : Edge, ∀ u ∈ Edge.cells x, u.oneCell' = true := fun x u hu => by
  simp only [Edge.cells, List.mem_cons, List.not_mem_nil, or_false] at hu
  rcases hu with rfl | rfl | rfl | rfl | rfl | rfl | rfl | rfl | rfl | rfl <;> rfl
def L4.lines (q : L4) : List Line := [⟨q.a0, q.a1, q.a2⟩, ⟨q.b0, q.b1, q.b2⟩, ⟨q.c0, q.c1, q.c2⟩, ⟨q.d0, q.d1, q.d2⟩]
def Run.ls (r : Run) : L4 := ⟨r.a0, r.a1, r.a2, r.b0, r.b1, r.b2, r.c0, r.c1, r.c2, r.d0, r.d1, r.d2⟩
def Line.side (l : Line) : CT.Side := ⟨l.style, l.width, l.color, 0, 0, 0⟩
def okL (l : Line) : Bool := CT.right l.side
def wrongL (xs : List Line) : Bool := xs.any fun l => !okL l
def okR (n : Int) (r : Run) : Bool := !wrongL r.ls.lines && decide (0 ≤ r.from_ ∧ r.from_ < r.to_ ∧ r.to_ ≤ n)
def wrongR (n : Int) (xs : List Run) : Bool := xs.any fun r => !okR n r
theorem any_at {α : Type} [Inhabited α] {p : α → Bool} {xs : List α} {k : Nat} (hk : k < xs.length) (h : p (xs[k]?.getD default) = true) : xs.any p = true := by
  rw [List.any_eq_true]
  refine ⟨xs[k], List.getElem_mem hk, ?_⟩
  rw [List.getElem?_eq_getElem hk] at h
  exact h
theorem any_none {α : Type} [Inhabited α] {p : α → Bool} {xs : List α} (h : ∀ j, j < xs.length → p (xs[j]?.getD default) = false) : xs.any p = false := by
  rw [List.any_eq_false]
  intro x hx
  obtain ⟨j, hj, rfl⟩ := List.getElem_of_mem hx
  have := h j hj
  rw [List.getElem?_eq_getElem hj] at this
  simpa using this

/-- the test of a line -/
theorem c50 (l : Line) (w : World) : Calls Try.prog 50 #[.agg l.arr] w fun e w' => e = .returned (.bool (!okL l)) ∧ Below w.heap.size w w' := by
  have hB : Below w.heap.size w (w.alloc (.cells l.arr 27)) := (Below.refl _ _).alloc (Nat.le_refl _) _
  have H := Lib.hid (CT.c18 l.side (w.alloc (.cells l.arr 27)))
  have HB := Lib.hid hB
  clear hB
  unfold okL
  generalize hr : CT.right l.side = r at *
  clear hr
  unfold Line.side CT.Side.arr at H
  unfold Line.arr at *
  go_enter Try.func50, Try.ntmps50
  go_wp2_with (go_at_call 51; refine H.out.mono ?_; rintro e w' ⟨rfl, hb⟩)
  go_ret
  exact ⟨rfl, HB.out.trans (hb.mono HB.out.size)⟩

set_option maxHeartbeats 4000000 in
theorem c66 (A : Option Addr) (xs : List Line) (c : Nat) (w : World) (hx : GR.Many Line.cells 3 w A xs) (hl : xs.length ≤ 17592186044416) :
    Calls Try.prog 66 #[.slice A xs.length c, .func (.func 50) #[] #[]] w fun e w' => ∃ i : Int, e = .returned (.int .i64 i) ∧ decide (0 ≤ i) = xs.any (fun x => !okL x) ∧ Below w.heap.size w w' := by
  have Hx := Lib.hid hx
  clear hx
  go_enter Try.func66, Try.ntmps66
  go_wp2
  go_loopw [8] (fun i wr => ∃ k : Nat, k ≤ xs.length ∧ i = .int .i64 k ∧ Hid (∀ j, j < k → (!okL (xs[j]?.getD default)) = false) ∧ Hid (Below w.heap.size w wr)) (fun i _ => xs.length - (intOf i).toNat)
  case atStart => exact ⟨0, Nat.zero_le _, rfl, Lib.hid fun j hj => absurd hj (Nat.not_lt_zero j), Lib.hid (Below.refl _ _)⟩
  case round =>
    obtain ⟨k, hk, rfl, hp, HB⟩ := hrel
    by_cases hlt : k < xs.length
    · obtain ⟨x, b, off, hxk, rfl, hat, _⟩ := (Hx.out.below HB.out).get k hlt
      have h50 := c50 x wr
      obtain ⟨r, hr⟩ : ∃ r, (!okL x) = r := ⟨_, rfl⟩
      rw [hr] at h50
      have Hr := Lib.hid hr
      have H50 := Lib.hid h50
      clear h50 hr
      obtain ⟨x0, x1, x2⟩ := x
      have q0 : wr.cell? ⟨b, off + k * 3, none⟩ = some (.int .i64 x0) := hat 0 _ rfl
      have q1 : wr.cell? ⟨b, off + k * 3 + 1, none⟩ = some (.int .i64 x1) := hat 1 _ rfl
      have q2 : wr.cell? ⟨b, off + k * 3 + 2, none⟩ = some (.int .u32 x2) := hat 2 _ rfl
      unfold Line.arr at H50
      dsimp only at H50 q0
      clear hat
      cases r with
      | false =>
        have hnext : Hid (∀ j, j < k + 1 → (!okL (xs[j]?.getD default)) = false) := Lib.hid fun j hj => by
          by_cases e : j = k
          · subst e; rw [hxk.out]; exact Hr.out
          · exact hp.out j (by omega)
        go_wp2_with (go_at_call 50; refine H50.out.mono ?_; rintro e w' ⟨rfl, hb'⟩; have HB2 := Lib.hid (HB.out.trans (hb'.mono HB.out.size)); clear hb')
        go_roundw
        case rel => exact ⟨k + 1, by omega, by go_num, hnext, HB2⟩
        case measure => simp [intOf]; omega
      | true =>
        go_wp2_with (go_at_call 50; refine H50.out.mono ?_; rintro e w' ⟨rfl, hb'⟩; have HB2 := Lib.hid (HB.out.trans (hb'.mono HB.out.size)); clear hb')
        go_ret
        exact ⟨_, rfl, by rw [any_at (p := fun x => !okL x) hlt (by rw [hxk.out]; exact Hr.out)]; simp, HB2.out⟩
    · obtain rfl : k = xs.length := by omega
      go_wp2
      go_ret
      exact ⟨_, rfl, by rw [any_none (p := fun x => !okL x) hp.out]; decide, HB.out⟩
theorem c49 (A : Option Addr) (xs : List Line) (c : Nat) (w : World) (hx : GR.Many Line.cells 3 w A xs) (hl : xs.length ≤ 17592186044416) :
    Calls Try.prog 49 #[.slice A xs.length c, .func (.func 50) #[] #[]] w fun e w' => e = .returned (.bool (xs.any fun x => !okL x)) ∧ Below w.heap.size w w' := by
  have H := Lib.hid (c66 A xs c  w hx hl )
  clear hx
  go_enter Try.func49, Try.ntmps49
  go_wp2_with (go_at_call 66; refine H.out.mono ?_; rintro e w' ⟨i, rfl, hi, hb⟩; have Hi := Lib.hid hi; clear hi)
  all_goals go_ret
  all_goals rw [← Hi.out]
  all_goals exact ⟨rfl, hb⟩

/-- collapse.areLines -/
theorem c31 (A : Option Addr) (xs : List Line) (c : Nat) (w : World) (hx : GR.Many Line.cells 3 w A xs) (hl : xs.length ≤ 17592186044416) :
    Calls Try.prog 31 #[.slice A xs.length c] w fun e w' => e = .returned (.bool (!wrongL xs)) ∧ Below w.heap.size w w' := by
  have H := Lib.hid (c49 A xs c w hx hl)
  clear hx
  unfold wrongL
  generalize (xs.any fun l => !okL l) = r at *
  go_enter Try.func31, Try.ntmps31
  go_wp2_with (go_at_call 49; refine H.out.mono ?_; rintro e w' ⟨rfl, hb⟩)
  go_ret
  exact ⟨rfl, hb⟩

/-- four lines that lie in a row -/
theorem four_lines {w : World} {b o : Nat} {q : L4} (h : GR.At L4.cells w b o q) (hb : b < w.heap.size) : GR.Many Line.cells 3 w (some ⟨b, o, none⟩) q.lines := fun j hj => by
  refine ⟨b, o, rfl, fun r u hu => ?_, hb⟩
  have hr : r < 3 := (List.getElem?_eq_some_iff.1 hu).1
  have hj4 : j < 4 := hj
  rw [Nat.add_assoc]
  refine h (j * 3 + r) u ?_
  rw [← hu]
  rcases j with _ | _ | _ | _ | j
  · rcases r with _ | _ | _ | r; rfl; rfl; rfl; omega
  · rcases r with _ | _ | _ | r; rfl; rfl; rfl; omega
  · rcases r with _ | _ | _ | r; rfl; rfl; rfl; omega
  · rcases r with _ | _ | _ | r; rfl; rfl; rfl; omega
  · omega

end Go.Proofs.Ytmlcjiabnmdfeaa
