/- Places and rectangles in memory; contracts of edges.isWithin, of the reference's Within and Same. -/
import Derived.Test.YtnjifmoclfgegaaH
import Derived.Laws.OwnMore
import Derived.Deep.QuietTactic
namespace Go.Proofs.Ytnjifmoclfgegaa
open Go.RowKit Go.Shelf
set_option linter.unusedVariables false

structure Place where
  node : Int
  row : Int
  col : Int
  rows : Int
  cols : Int
def Place.arr (p : Place) : Array Value := #[.int .i64 p.node, .int .i64 p.row, .int .i64 p.col, .int .i64 p.rows, .int .i64 p.cols]
def Place.cells (p : Place) : List Value := [.int .i64 p.node, .int .i64 p.row, .int .i64 p.col, .int .i64 p.rows, .int .i64 p.cols]
instance : Inhabited Place := ⟨⟨0, 0, 0, 0, 0⟩⟩
def PlaceAt (w : World) (b o : Nat) (p : Place) : Prop :=
  w.cell? ⟨b, o, none⟩ = some (.int .i64 p.node) ∧ w.cell? ⟨b, o + 1, none⟩ = some (.int .i64 p.row) ∧ w.cell? ⟨b, o + 2, none⟩ = some (.int .i64 p.col) ∧
  w.cell? ⟨b, o + 3, none⟩ = some (.int .i64 p.rows) ∧ w.cell? ⟨b, o + 4, none⟩ = some (.int .i64 p.cols)
def Places (w : World) (A : Option Addr) (xs : List Place) : Prop :=
  ∀ j, j < xs.length → ∃ b off, A = some ⟨b, off, none⟩ ∧ PlaceAt w b (off + j * 5) (xs[j]?.getD default)
theorem Places.get {w : World} {A : Option Addr} {xs : List Place} (h : Places w A xs) (j : Nat) (hj : j < xs.length) :
    ∃ x b off, Hid (xs[j]?.getD default = x) ∧ A = some ⟨b, off, none⟩ ∧ PlaceAt w b (off + j * 5) x :=
  let ⟨b, off, hA, hc⟩ := h j hj; ⟨_, b, off, Lib.hid rfl, hA, hc⟩
theorem PlaceAt.below {w w' : World} {b o : Nat} {s : Place} (h : PlaceAt w b o s) {B : Nat} (hb : Below B w w') (hB : b < B) : PlaceAt w' b o s :=
  have f := fun i => hb.cell (p := ⟨b, i, none⟩) hB
  ⟨(f _).trans h.1, (f _).trans h.2.1, (f _).trans h.2.2.1, (f _).trans h.2.2.2.1, (f _).trans h.2.2.2.2⟩
theorem PlaceAt.lt {w : World} {b o : Nat} {s : Place} (h : PlaceAt w b o s) : b < w.heap.size := World.block_lt_of_cell? w _ h.1
theorem Places.below {w w' : World} {A : Option Addr} {xs : List Place} (h : Places w A xs) (hb : Below w.heap.size w w') : Places w' A xs := fun j hj =>
  let ⟨b, off, hA, hc⟩ := h j hj
  ⟨b, off, hA, hc.below hb hc.lt⟩
theorem Places.take {w : World} {A : Option Addr} {xs : List Place} (h : Places w A xs) (n : Nat) : Places w A (xs.take n) := fun j hj => by
  obtain ⟨b, off, hA, hc⟩ := h j (by rw [List.length_take] at hj; omega)
  refine ⟨b, off, hA, ?_⟩
  rw [List.getElem?_take, if_pos (by rw [List.length_take] at hj; omega)]
  exact hc

structure Rect where
  x : Int
  y : Int
  w : Int
  h : Int
instance : Inhabited Rect := ⟨⟨0, 0, 0, 0⟩⟩
def Rect.arr (p : Rect) : Array Value := #[.int .i64 p.x, .int .i64 p.y, .int .i64 p.w, .int .i64 p.h]
def Rect.cells (p : Rect) : List Value := [.int .i64 p.x, .int .i64 p.y, .int .i64 p.w, .int .i64 p.h]
def RectAt (w : World) (b o : Nat) (p : Rect) : Prop :=
  w.cell? ⟨b, o, none⟩ = some (.int .i64 p.x) ∧ w.cell? ⟨b, o + 1, none⟩ = some (.int .i64 p.y) ∧ w.cell? ⟨b, o + 2, none⟩ = some (.int .i64 p.w) ∧ w.cell? ⟨b, o + 3, none⟩ = some (.int .i64 p.h)
def Rects (w : World) (A : Option Addr) (xs : List Rect) : Prop :=
  ∀ j, j < xs.length → ∃ b off, A = some ⟨b, off, none⟩ ∧ RectAt w b (off + j * 4) (xs[j]?.getD default)
theorem Rects.get {w : World} {A : Option Addr} {xs : List Rect} (h : Rects w A xs) (j : Nat) (hj : j < xs.length) :
    ∃ x b off, Hid (xs[j]?.getD default = x) ∧ A = some ⟨b, off, none⟩ ∧ RectAt w b (off + j * 4) x :=
  let ⟨b, off, hA, hc⟩ := h j hj; ⟨_, b, off, Lib.hid rfl, hA, hc⟩
theorem RectAt.below {w w' : World} {b o : Nat} {s : Rect} (h : RectAt w b o s) {B : Nat} (hb : Below B w w') (hB : b < B) : RectAt w' b o s :=
  have f := fun i => hb.cell (p := ⟨b, i, none⟩) hB
  ⟨(f _).trans h.1, (f _).trans h.2.1, (f _).trans h.2.2.1, (f _).trans h.2.2.2⟩
theorem RectAt.lt {w : World} {b o : Nat} {s : Rect} (h : RectAt w b o s) : b < w.heap.size := World.block_lt_of_cell? w _ h.1
theorem Rects.below {w w' : World} {A : Option Addr} {xs : List Rect} (h : Rects w A xs) (hb : Below w.heap.size w w') : Rects w' A xs := fun j hj =>
  let ⟨b, off, hA, hc⟩ := h j hj
  ⟨b, off, hA, hc.below hb hc.lt⟩

/-- a place that lies in a grid -/
def fits (p : Place) (nr nc : Int) : Bool := decide ((0 ≤ p.row ∧ 0 ≤ p.col ∧ 1 ≤ p.rows ∧ 1 ≤ p.cols) ∧ p.rows ≤ nr - p.row ∧ p.cols ≤ nc - p.col)
theorem fits_iff {p : Place} {nr nc : Int} : fits p nr nc = true ↔ (0 ≤ p.row ∧ 0 ≤ p.col ∧ 1 ≤ p.rows ∧ 1 ≤ p.cols) ∧ p.rows ≤ nr - p.row ∧ p.cols ≤ nc - p.col := by
  unfold fits; rw [decide_eq_true_eq]

set_option maxHeartbeats 4000000 in
/-- edges.isWithin -/
theorem c30 (p : Place) (nr nc : Int) (w : World) (h1 : 0 ≤ nr) (h2 : nr ≤ 17592186044416) (h3 : 0 ≤ nc) (h4 : nc ≤ 17592186044416) : Calls Try.prog 30 #[.agg p.arr, .int .i64 nr, .int .i64 nc] w fun e w' => e = .returned (.bool (fits p nr nc)) ∧ Below w.heap.size w w' := by
  have hi := fits_iff (p := p) (nr := nr) (nc := nc)
  generalize fits p nr nc = r at *
  obtain ⟨node, row, col, rows, cols⟩ := p
  dsimp only at hi
  unfold Place.arr
  dsimp only
  by_cases hm2 : row ≤ col
  · by_cases hc4 : row < 0
    · obtain rfl : r = false := by
        rw [← Bool.not_eq_true, hi]; omega
      clear hi
      go_enter Try.func30, Try.ntmps30
      go_wp2
      go_ret
      exact ⟨by first | rfl | exact congrArg (fun x => Ending.returned (.bool x)) (decide_eq_false (by omega)) | exact congrArg (fun x => Ending.returned (.bool x)) (decide_eq_true (by omega)), (Below.refl _ w).alloc (Nat.le_refl _) _⟩
    · skip
      by_cases hm6 : rows ≤ cols
      · by_cases hc8 : rows < 1
        · obtain rfl : r = false := by
            rw [← Bool.not_eq_true, hi]; omega
          clear hi
          go_enter Try.func30, Try.ntmps30
          go_wp2
          go_ret
          exact ⟨by first | rfl | exact congrArg (fun x => Ending.returned (.bool x)) (decide_eq_false (by omega)) | exact congrArg (fun x => Ending.returned (.bool x)) (decide_eq_true (by omega)), (Below.refl _ w).alloc (Nat.le_refl _) _⟩
        · skip
          by_cases hc10 : nr ≤ row
          · obtain rfl : r = false := by
              rw [← Bool.not_eq_true, hi]; omega
            clear hi
            go_enter Try.func30, Try.ntmps30
            go_wp2
            go_ret
            exact ⟨by first | rfl | exact congrArg (fun x => Ending.returned (.bool x)) (decide_eq_false (by omega)) | exact congrArg (fun x => Ending.returned (.bool x)) (decide_eq_true (by omega)), (Below.refl _ w).alloc (Nat.le_refl _) _⟩
          · skip
            by_cases hc12 : nc ≤ col
            · obtain rfl : r = false := by
                rw [← Bool.not_eq_true, hi]; omega
              clear hi
              go_enter Try.func30, Try.ntmps30
              go_wp2
              go_ret
              exact ⟨by first | rfl | exact congrArg (fun x => Ending.returned (.bool x)) (decide_eq_false (by omega)) | exact congrArg (fun x => Ending.returned (.bool x)) (decide_eq_true (by omega)), (Below.refl _ w).alloc (Nat.le_refl _) _⟩
            · skip
              by_cases hc14 : nr - row < rows
              · obtain rfl : r = false := by
                  rw [← Bool.not_eq_true, hi]; omega
                clear hi
                go_enter Try.func30, Try.ntmps30
                go_wp2
                go_ret
                exact ⟨by first | rfl | exact congrArg (fun x => Ending.returned (.bool x)) (decide_eq_false (by omega)) | exact congrArg (fun x => Ending.returned (.bool x)) (decide_eq_true (by omega)), (Below.refl _ w).alloc (Nat.le_refl _) _⟩
              · skip
                by_cases hc16 : nc - col < cols
                · obtain rfl : r = false := by
                    rw [← Bool.not_eq_true, hi]; omega
                  clear hi
                  go_enter Try.func30, Try.ntmps30
                  go_wp2
                  go_ret
                  exact ⟨by first | rfl | exact congrArg (fun x => Ending.returned (.bool x)) (decide_eq_false (by omega)) | exact congrArg (fun x => Ending.returned (.bool x)) (decide_eq_true (by omega)), (Below.refl _ w).alloc (Nat.le_refl _) _⟩
                · skip
                  obtain rfl : r = true := by
                    rw [hi]; omega
                  clear hi
                  go_enter Try.func30, Try.ntmps30
                  go_wp2
                  go_ret
                  exact ⟨by first | rfl | exact congrArg (fun x => Ending.returned (.bool x)) (decide_eq_false (by omega)) | exact congrArg (fun x => Ending.returned (.bool x)) (decide_eq_true (by omega)), (Below.refl _ w).alloc (Nat.le_refl _) _⟩
      · by_cases hc8 : cols < 1
        · obtain rfl : r = false := by
            rw [← Bool.not_eq_true, hi]; omega
          clear hi
          go_enter Try.func30, Try.ntmps30
          go_wp2
          go_ret
          exact ⟨by first | rfl | exact congrArg (fun x => Ending.returned (.bool x)) (decide_eq_false (by omega)) | exact congrArg (fun x => Ending.returned (.bool x)) (decide_eq_true (by omega)), (Below.refl _ w).alloc (Nat.le_refl _) _⟩
        · skip
          by_cases hc10 : nr ≤ row
          · obtain rfl : r = false := by
              rw [← Bool.not_eq_true, hi]; omega
            clear hi
            go_enter Try.func30, Try.ntmps30
            go_wp2
            go_ret
            exact ⟨by first | rfl | exact congrArg (fun x => Ending.returned (.bool x)) (decide_eq_false (by omega)) | exact congrArg (fun x => Ending.returned (.bool x)) (decide_eq_true (by omega)), (Below.refl _ w).alloc (Nat.le_refl _) _⟩
          · skip
            by_cases hc12 : nc ≤ col
            · obtain rfl : r = false := by
                rw [← Bool.not_eq_true, hi]; omega
              clear hi
              go_enter Try.func30, Try.ntmps30
              go_wp2
              go_ret
              exact ⟨by first | rfl | exact congrArg (fun x => Ending.returned (.bool x)) (decide_eq_false (by omega)) | exact congrArg (fun x => Ending.returned (.bool x)) (decide_eq_true (by omega)), (Below.refl _ w).alloc (Nat.le_refl _) _⟩
            · skip
              by_cases hc14 : nr - row < rows
              · obtain rfl : r = false := by
                  rw [← Bool.not_eq_true, hi]; omega
                clear hi
                go_enter Try.func30, Try.ntmps30
                go_wp2
                go_ret
                exact ⟨by first | rfl | exact congrArg (fun x => Ending.returned (.bool x)) (decide_eq_false (by omega)) | exact congrArg (fun x => Ending.returned (.bool x)) (decide_eq_true (by omega)), (Below.refl _ w).alloc (Nat.le_refl _) _⟩
              · skip
                by_cases hc16 : nc - col < cols
                · obtain rfl : r = false := by
                    rw [← Bool.not_eq_true, hi]; omega
                  clear hi
                  go_enter Try.func30, Try.ntmps30
                  go_wp2
                  go_ret
                  exact ⟨by first | rfl | exact congrArg (fun x => Ending.returned (.bool x)) (decide_eq_false (by omega)) | exact congrArg (fun x => Ending.returned (.bool x)) (decide_eq_true (by omega)), (Below.refl _ w).alloc (Nat.le_refl _) _⟩
                · skip
                  obtain rfl : r = true := by
                    rw [hi]; omega
                  clear hi
                  go_enter Try.func30, Try.ntmps30
                  go_wp2
                  go_ret
                  exact ⟨by first | rfl | exact congrArg (fun x => Ending.returned (.bool x)) (decide_eq_false (by omega)) | exact congrArg (fun x => Ending.returned (.bool x)) (decide_eq_true (by omega)), (Below.refl _ w).alloc (Nat.le_refl _) _⟩
  · by_cases hc4 : col < 0
    · obtain rfl : r = false := by
        rw [← Bool.not_eq_true, hi]; omega
      clear hi
      go_enter Try.func30, Try.ntmps30
      go_wp2
      go_ret
      exact ⟨by first | rfl | exact congrArg (fun x => Ending.returned (.bool x)) (decide_eq_false (by omega)) | exact congrArg (fun x => Ending.returned (.bool x)) (decide_eq_true (by omega)), (Below.refl _ w).alloc (Nat.le_refl _) _⟩
    · skip
      by_cases hm6 : rows ≤ cols
      · by_cases hc8 : rows < 1
        · obtain rfl : r = false := by
            rw [← Bool.not_eq_true, hi]; omega
          clear hi
          go_enter Try.func30, Try.ntmps30
          go_wp2
          go_ret
          exact ⟨by first | rfl | exact congrArg (fun x => Ending.returned (.bool x)) (decide_eq_false (by omega)) | exact congrArg (fun x => Ending.returned (.bool x)) (decide_eq_true (by omega)), (Below.refl _ w).alloc (Nat.le_refl _) _⟩
        · skip
          by_cases hc10 : nr ≤ row
          · obtain rfl : r = false := by
              rw [← Bool.not_eq_true, hi]; omega
            clear hi
            go_enter Try.func30, Try.ntmps30
            go_wp2
            go_ret
            exact ⟨by first | rfl | exact congrArg (fun x => Ending.returned (.bool x)) (decide_eq_false (by omega)) | exact congrArg (fun x => Ending.returned (.bool x)) (decide_eq_true (by omega)), (Below.refl _ w).alloc (Nat.le_refl _) _⟩
          · skip
            by_cases hc12 : nc ≤ col
            · obtain rfl : r = false := by
                rw [← Bool.not_eq_true, hi]; omega
              clear hi
              go_enter Try.func30, Try.ntmps30
              go_wp2
              go_ret
              exact ⟨by first | rfl | exact congrArg (fun x => Ending.returned (.bool x)) (decide_eq_false (by omega)) | exact congrArg (fun x => Ending.returned (.bool x)) (decide_eq_true (by omega)), (Below.refl _ w).alloc (Nat.le_refl _) _⟩
            · skip
              by_cases hc14 : nr - row < rows
              · obtain rfl : r = false := by
                  rw [← Bool.not_eq_true, hi]; omega
                clear hi
                go_enter Try.func30, Try.ntmps30
                go_wp2
                go_ret
                exact ⟨by first | rfl | exact congrArg (fun x => Ending.returned (.bool x)) (decide_eq_false (by omega)) | exact congrArg (fun x => Ending.returned (.bool x)) (decide_eq_true (by omega)), (Below.refl _ w).alloc (Nat.le_refl _) _⟩
              · skip
                by_cases hc16 : nc - col < cols
                · obtain rfl : r = false := by
                    rw [← Bool.not_eq_true, hi]; omega
                  clear hi
                  go_enter Try.func30, Try.ntmps30
                  go_wp2
                  go_ret
                  exact ⟨by first | rfl | exact congrArg (fun x => Ending.returned (.bool x)) (decide_eq_false (by omega)) | exact congrArg (fun x => Ending.returned (.bool x)) (decide_eq_true (by omega)), (Below.refl _ w).alloc (Nat.le_refl _) _⟩
                · skip
                  obtain rfl : r = true := by
                    rw [hi]; omega
                  clear hi
                  go_enter Try.func30, Try.ntmps30
                  go_wp2
                  go_ret
                  exact ⟨by first | rfl | exact congrArg (fun x => Ending.returned (.bool x)) (decide_eq_false (by omega)) | exact congrArg (fun x => Ending.returned (.bool x)) (decide_eq_true (by omega)), (Below.refl _ w).alloc (Nat.le_refl _) _⟩
      · by_cases hc8 : cols < 1
        · obtain rfl : r = false := by
            rw [← Bool.not_eq_true, hi]; omega
          clear hi
          go_enter Try.func30, Try.ntmps30
          go_wp2
          go_ret
          exact ⟨by first | rfl | exact congrArg (fun x => Ending.returned (.bool x)) (decide_eq_false (by omega)) | exact congrArg (fun x => Ending.returned (.bool x)) (decide_eq_true (by omega)), (Below.refl _ w).alloc (Nat.le_refl _) _⟩
        · skip
          by_cases hc10 : nr ≤ row
          · obtain rfl : r = false := by
              rw [← Bool.not_eq_true, hi]; omega
            clear hi
            go_enter Try.func30, Try.ntmps30
            go_wp2
            go_ret
            exact ⟨by first | rfl | exact congrArg (fun x => Ending.returned (.bool x)) (decide_eq_false (by omega)) | exact congrArg (fun x => Ending.returned (.bool x)) (decide_eq_true (by omega)), (Below.refl _ w).alloc (Nat.le_refl _) _⟩
          · skip
            by_cases hc12 : nc ≤ col
            · obtain rfl : r = false := by
                rw [← Bool.not_eq_true, hi]; omega
              clear hi
              go_enter Try.func30, Try.ntmps30
              go_wp2
              go_ret
              exact ⟨by first | rfl | exact congrArg (fun x => Ending.returned (.bool x)) (decide_eq_false (by omega)) | exact congrArg (fun x => Ending.returned (.bool x)) (decide_eq_true (by omega)), (Below.refl _ w).alloc (Nat.le_refl _) _⟩
            · skip
              by_cases hc14 : nr - row < rows
              · obtain rfl : r = false := by
                  rw [← Bool.not_eq_true, hi]; omega
                clear hi
                go_enter Try.func30, Try.ntmps30
                go_wp2
                go_ret
                exact ⟨by first | rfl | exact congrArg (fun x => Ending.returned (.bool x)) (decide_eq_false (by omega)) | exact congrArg (fun x => Ending.returned (.bool x)) (decide_eq_true (by omega)), (Below.refl _ w).alloc (Nat.le_refl _) _⟩
              · skip
                by_cases hc16 : nc - col < cols
                · obtain rfl : r = false := by
                    rw [← Bool.not_eq_true, hi]; omega
                  clear hi
                  go_enter Try.func30, Try.ntmps30
                  go_wp2
                  go_ret
                  exact ⟨by first | rfl | exact congrArg (fun x => Ending.returned (.bool x)) (decide_eq_false (by omega)) | exact congrArg (fun x => Ending.returned (.bool x)) (decide_eq_true (by omega)), (Below.refl _ w).alloc (Nat.le_refl _) _⟩
                · skip
                  obtain rfl : r = true := by
                    rw [hi]; omega
                  clear hi
                  go_enter Try.func30, Try.ntmps30
                  go_wp2
                  go_ret
                  exact ⟨by first | rfl | exact congrArg (fun x => Ending.returned (.bool x)) (decide_eq_false (by omega)) | exact congrArg (fun x => Ending.returned (.bool x)) (decide_eq_true (by omega)), (Below.refl _ w).alloc (Nat.le_refl _) _⟩

set_option maxHeartbeats 4000000 in
/-- the reference's Within -/
theorem c31 (p : Place) (nr nc : Int) (w : World) (h1 : 0 ≤ nr) (h2 : nr ≤ 17592186044416) (h3 : 0 ≤ nc) (h4 : nc ≤ 17592186044416) : Calls Try.prog 31 #[.agg p.arr, .int .i64 nr, .int .i64 nc] w fun e w' => e = .returned (.bool (fits p nr nc)) ∧ Below w.heap.size w w' := by
  have hi := fits_iff (p := p) (nr := nr) (nc := nc)
  generalize fits p nr nc = r at *
  obtain ⟨node, row, col, rows, cols⟩ := p
  dsimp only at hi
  unfold Place.arr
  dsimp only
  by_cases hc2 : row < 0
  · obtain rfl : r = false := by
      rw [← Bool.not_eq_true, hi]; omega
    clear hi
    go_enter Try.func31, Try.ntmps31
    go_wp2
    go_ret
    exact ⟨by first | rfl | exact congrArg (fun x => Ending.returned (.bool x)) (decide_eq_false (by omega)) | exact congrArg (fun x => Ending.returned (.bool x)) (decide_eq_true (by omega)), (Below.refl _ w).alloc (Nat.le_refl _) _⟩
  · skip
    by_cases hc4 : nr < row
    · obtain rfl : r = false := by
        rw [← Bool.not_eq_true, hi]; omega
      clear hi
      go_enter Try.func31, Try.ntmps31
      go_wp2
      go_ret
      exact ⟨by first | rfl | exact congrArg (fun x => Ending.returned (.bool x)) (decide_eq_false (by omega)) | exact congrArg (fun x => Ending.returned (.bool x)) (decide_eq_true (by omega)), (Below.refl _ w).alloc (Nat.le_refl _) _⟩
    · skip
      by_cases hc6 : col < 0
      · obtain rfl : r = false := by
          rw [← Bool.not_eq_true, hi]; omega
        clear hi
        go_enter Try.func31, Try.ntmps31
        go_wp2
        go_ret
        exact ⟨by first | rfl | exact congrArg (fun x => Ending.returned (.bool x)) (decide_eq_false (by omega)) | exact congrArg (fun x => Ending.returned (.bool x)) (decide_eq_true (by omega)), (Below.refl _ w).alloc (Nat.le_refl _) _⟩
      · skip
        by_cases hc8 : nc < col
        · obtain rfl : r = false := by
            rw [← Bool.not_eq_true, hi]; omega
          clear hi
          go_enter Try.func31, Try.ntmps31
          go_wp2
          go_ret
          exact ⟨by first | rfl | exact congrArg (fun x => Ending.returned (.bool x)) (decide_eq_false (by omega)) | exact congrArg (fun x => Ending.returned (.bool x)) (decide_eq_true (by omega)), (Below.refl _ w).alloc (Nat.le_refl _) _⟩
        · skip
          by_cases hc10 : rows < 1
          · obtain rfl : r = false := by
              rw [← Bool.not_eq_true, hi]; omega
            clear hi
            go_enter Try.func31, Try.ntmps31
            go_wp2
            go_ret
            exact ⟨by first | rfl | exact congrArg (fun x => Ending.returned (.bool x)) (decide_eq_false (by omega)) | exact congrArg (fun x => Ending.returned (.bool x)) (decide_eq_true (by omega)), (Below.refl _ w).alloc (Nat.le_refl _) _⟩
          · skip
            by_cases hc12 : nr - row < rows
            · obtain rfl : r = false := by
                rw [← Bool.not_eq_true, hi]; omega
              clear hi
              go_enter Try.func31, Try.ntmps31
              go_wp2
              go_ret
              exact ⟨by first | rfl | exact congrArg (fun x => Ending.returned (.bool x)) (decide_eq_false (by omega)) | exact congrArg (fun x => Ending.returned (.bool x)) (decide_eq_true (by omega)), (Below.refl _ w).alloc (Nat.le_refl _) _⟩
            · skip
              by_cases hc14 : cols < 1
              · obtain rfl : r = false := by
                  rw [← Bool.not_eq_true, hi]; omega
                clear hi
                go_enter Try.func31, Try.ntmps31
                go_wp2
                go_ret
                exact ⟨by first | rfl | exact congrArg (fun x => Ending.returned (.bool x)) (decide_eq_false (by omega)) | exact congrArg (fun x => Ending.returned (.bool x)) (decide_eq_true (by omega)), (Below.refl _ w).alloc (Nat.le_refl _) _⟩
              · skip
                by_cases hc16 : nc - col < cols
                · obtain rfl : r = false := by
                    rw [← Bool.not_eq_true, hi]; omega
                  clear hi
                  go_enter Try.func31, Try.ntmps31
                  go_wp2
                  go_ret
                  exact ⟨by first | rfl | exact congrArg (fun x => Ending.returned (.bool x)) (decide_eq_false (by omega)) | exact congrArg (fun x => Ending.returned (.bool x)) (decide_eq_true (by omega)), (Below.refl _ w).alloc (Nat.le_refl _) _⟩
                · skip
                  obtain rfl : r = true := by
                    rw [hi]; omega
                  clear hi
                  go_enter Try.func31, Try.ntmps31
                  go_wp2
                  go_ret
                  exact ⟨by first | rfl | exact congrArg (fun x => Ending.returned (.bool x)) (decide_eq_false (by omega)) | exact congrArg (fun x => Ending.returned (.bool x)) (decide_eq_true (by omega)), (Below.refl _ w).alloc (Nat.le_refl _) _⟩

set_option maxHeartbeats 2000000 in
/-- the reference's Same, of the same rectangles -/
theorem c23 (A B : Option Addr) (xs : List Rect) (c d : Nat) (w : World) (hx : Rects w A xs) (hy : Rects w B xs) (hl : xs.length ≤ 17592186044416) :
    Calls Try.prog 23 #[.slice A xs.length c, .slice B xs.length d] w fun e w' => e = .returned (.bool true) ∧ Dr w w' := by
  have Hx := Lib.hid hx
  have Hy := Lib.hid hy
  clear hx hy
  go_enter Try.func23, Try.ntmps23
  go_wp2
  go_loopw [5] (fun i wr => ∃ k : Nat, k ≤ xs.length ∧ i = .int .i64 k ∧ Dr w wr) (fun i _ => xs.length - (intOf i).toNat)
  case atStart => exact ⟨0, Nat.zero_le _, rfl, Dr.refl _⟩
  case round =>
    obtain ⟨k, hk, rfl, hD⟩ := hrel
    by_cases hlt : k < xs.length
    · obtain ⟨x, b, off, hxk, rfl, hc⟩ := (Hx.out.below (hD.below _)).get k hlt
      obtain ⟨x', b', off', hxk', rfl, hc'⟩ := (Hy.out.below (hD.below _)).get k hlt
      obtain rfl : x' = x := by rw [← hxk.out, ← hxk'.out]
      obtain ⟨p0, p1, p2, p3⟩ := hc
      obtain ⟨q0, q1, q2, q3⟩ := hc'
      go_wp2
      repeat (go_quiet (fail); try go_wp2)
      go_roundw
      case rel => exact ⟨k + 1, by omega, by go_num, by repeat (first | exact hD | apply Dr.step | apply Dr.step1)⟩
      case measure => simp [intOf]; omega
    · obtain rfl : k = xs.length := by omega
      go_wp2
      go_ret
      exact ⟨rfl, hD⟩

end Go.Proofs.Ytnjifmoclfgegaa
