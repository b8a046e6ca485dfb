/- Contract of rect.Move, where all numbers are small. -/
import Derived.Test.YtnjifmoclfgegaaX
namespace Go.Proofs.Ytnjifmoclfgegaa
open Go.RowKit Go.Shelf
set_option linter.unusedVariables false

set_option maxHeartbeats 1000000 in
theorem c33_in (r : Rect) (dx dy : Int) (w : World) (hs : r.small) (h1 : -2305843009213693952 ≤ dx ∧ dx ≤ 2305843009213693952) (h2 : -2305843009213693952 ≤ dy ∧ dy ≤ 2305843009213693952) (hs' : (⟨r.x + dx, r.y + dy, r.w, r.h⟩ : Rect).small) :
    Calls Try.prog 33 #[.agg r.arr, .int .i64 dx, .int .i64 dy] w fun e w' => e = .returned (.tuple #[.agg (Rect.arr ⟨r.x + dx, r.y + dy, r.w, r.h⟩), .int .i64 0]) ∧ Below w.heap.size w w' := by
  have C1 := Lib.hid (fun w => c43_in r w hs)
  have C2 := Lib.hid (fun w => c43_in ⟨r.x + dx, r.y + dy, r.w, r.h⟩ w hs')
  have H1 := Lib.hid h1
  have H2 := Lib.hid h2
  have hb := hs'
  obtain ⟨x, y, u, v⟩ := r
  obtain ⟨b1, b2, -, -⟩ := hb
  dsimp only at b1 b2 C1 C2
  have x1 : IntKind.i64.wrap (x + dx) = x + dx := IntWalk.i64_in _ (by omega)
  have x2 : IntKind.i64.wrap (y + dy) = y + dy := IntWalk.i64_in _ (by omega)
  clear h1 h2 hs hs' b1 b2
  unfold Rect.arr
  dsimp only
  go_enter Try.func33, Try.ntmps33
  go_wp2_with (fail)
  refine (C1.out _).mono ?_
  rintro e w1 ⟨rfl, hb1⟩
  have e0 : w1.heap[w.heap.size]? = some (.cells #[.int .i64 x, .int .i64 y, .int .i64 u, .int .i64 v] 47 (0, 0)) := (hb1.block _ (by simp; omega)).trans (by rw [Below.heap_alloc _ _ _ (by simp), heap_alloc_new])
  have e1 : w1.heap[w.heap.size + 1]? = some (.cells #[.int .i64 0, .int .i64 0, .int .i64 0, .int .i64 0] 47 (0, 0)) := (hb1.block _ (by simp)).trans (by rw [show w.heap.size + 1 = (w.alloc (.cells #[.int .i64 x, .int .i64 y, .int .i64 u, .int .i64 v] 47)).heap.size by simp, heap_alloc_new])
  have HB1 : Hid (Below w.heap.size w w1) := Lib.hid ((((Below.refl _ w).alloc (Nat.le_refl _) _).alloc (by simp) _).trans (hb1.mono (by simp; omega)))
  have Hs1 : Hid (w.heap.size + 2 ≤ w1.heap.size) := Lib.hid (by have := hb1.size; simpa using this)
  have E0 := Lib.hid e0
  have E1 := Lib.hid e1
  clear hb1 e0 e1
  go_wp2_with (fail)
  refine (k44 _ _ dx dy w1 _ _ (by simp) rfl H1.out H2.out).mono ?_
  rintro e w2 ⟨rfl, rfl⟩
  have hs := Hs1.out
  have r0 : (w1.alloc (.cells #[.int .i64 dx, .int .i64 dy] 2)).heap[w.heap.size]? = some (.cells #[.int .i64 x, .int .i64 y, .int .i64 u, .int .i64 v] 47 (0, 0)) := (Below.heap_alloc _ _ _ (by omega)).trans E0.out
  have r1 : (w1.alloc (.cells #[.int .i64 dx, .int .i64 dy] 2)).heap[w.heap.size + 1]? = some (.cells #[.int .i64 0, .int .i64 0, .int .i64 0, .int .i64 0] 47 (0, 0)) := (Below.heap_alloc _ _ _ (by omega)).trans E1.out
  have HB2 := Lib.hid (HB1.out.alloc (by omega) (.cells #[.int .i64 dx, .int .i64 dy] 2))
  have Hs2 : Hid (w.heap.size + 2 ≤ (w1.alloc (.cells #[.int .i64 dx, .int .i64 dy] 2)).heap.size) := Lib.hid (by simp; omega)
  generalize (w1.alloc (.cells #[.int .i64 dx, .int .i64 dy] 2)) = W2 at *
  clear E0 E1 hs Hs1 HB1
  have p0 : W2.cell? ⟨w.heap.size, 0, none⟩ = some (.int .i64 x) := by simp [World.cell?, r0]
  have p1 : W2.cell? ⟨w.heap.size, 1, none⟩ = some (.int .i64 y) := by simp [World.cell?, r0]
  have f0 : ∀ i, W2.frozen? ⟨w.heap.size, i, none⟩ = false := fun i => by simp [World.frozen?, r0]
  have p2 : W2.cell? ⟨w.heap.size, 2, none⟩ = some (.int .i64 u) := by simp [World.cell?, r0]
  have p3 : W2.cell? ⟨w.heap.size, 3, none⟩ = some (.int .i64 v) := by simp [World.cell?, r0]
  go_wp2_with (fail)
  refine (C2.out _).mono ?_
  rintro e w3 ⟨rfl, hb3⟩
  have hsz : ((W2.setCell ⟨w.heap.size, 0, none⟩ (.int .i64 (x + dx))).setCell ⟨w.heap.size, 1, none⟩ (.int .i64 (y + dy))).heap.size = W2.heap.size := by simp [World.setCell]
  have hs2 := Hs2.out
  have g0 : w3.heap[w.heap.size]? = some (.cells #[.int .i64 (x + dx), .int .i64 (y + dy), .int .i64 u, .int .i64 v] 47 (0, 0)) := (hb3.block _ (by rw [hsz]; omega)).trans (by
    simp [World.setCell, Array.getElem?_modify, r0])
  have g1 : w3.heap[w.heap.size + 1]? = some (.cells #[.int .i64 0, .int .i64 0, .int .i64 0, .int .i64 0] 47 (0, 0)) := (hb3.block _ (by rw [hsz]; omega)).trans (by
    simp [World.setCell, Array.getElem?_modify, r1])
  have HB3 : Hid (Below w.heap.size w w3) := Lib.hid (((HB2.out.setCell (p := ⟨w.heap.size, 0, none⟩) (Nat.le_refl _) (.int .i64 (x + dx))).setCell (p := ⟨w.heap.size, 1, none⟩) (Nat.le_refl _) (.int .i64 (y + dy))).trans (hb3.mono (by rw [hsz]; omega)))
  clear hb3 hs2 hsz HB2 Hs2 r0 r1 p0 p1 p2 p3 f0 C1 C2
  have p0 : w3.cell? ⟨w.heap.size, 0, none⟩ = some (.int .i64 (x + dx)) := by simp [World.cell?, g0]
  have p1 : w3.cell? ⟨w.heap.size, 1, none⟩ = some (.int .i64 (y + dy)) := by simp [World.cell?, g0]
  have p2 : w3.cell? ⟨w.heap.size, 2, none⟩ = some (.int .i64 u) := by simp [World.cell?, g0]
  have p3 : w3.cell? ⟨w.heap.size, 3, none⟩ = some (.int .i64 v) := by simp [World.cell?, g0]
  have z0 : w3.cell? ⟨w.heap.size + 1, 0, none⟩ = some (.int .i64 0) := by simp [World.cell?, g1]
  have z1 : w3.cell? ⟨w.heap.size + 1, 1, none⟩ = some (.int .i64 0) := by simp [World.cell?, g1]
  have z2 : w3.cell? ⟨w.heap.size + 1, 2, none⟩ = some (.int .i64 0) := by simp [World.cell?, g1]
  have z3 : w3.cell? ⟨w.heap.size + 1, 3, none⟩ = some (.int .i64 0) := by simp [World.cell?, g1]
  have f1 : ∀ i, w3.frozen? ⟨w.heap.size + 1, i, none⟩ = false := fun i => by simp [World.frozen?, g1]
  clear g0 g1
  go_wp2_with (fail)
  exact ⟨rfl, .tuple #[.agg #[.int .i64 (x + dx), .int .i64 (y + dy), .int .i64 u, .int .i64 v], .int .i64 0], by simp [results, Try.results33, go_sem, *], rfl, (((HB3.out.setCell (Nat.le_succ _) _).setCell (Nat.le_succ _) _).setCell (Nat.le_succ _) _).setCell (Nat.le_succ _) _⟩

/-- as it is called: of any small rectangle, moved by small numbers -/
theorem m33 (x y u v dx dy : Int) (w : World) (h1 : 0 ≤ x ∧ x ≤ 25000000000000) (h2 : 0 ≤ y ∧ y ≤ 25000000000000) (h3 : 0 ≤ u ∧ u ≤ 25000000000000) (h4 : 0 ≤ v ∧ v ≤ 25000000000000) (h5 : 0 ≤ dx ∧ dx ≤ 25000000000000) (h6 : 0 ≤ dy ∧ dy ≤ 25000000000000) :
    Calls Try.prog 33 #[.agg #[.int .i64 x, .int .i64 y, .int .i64 u, .int .i64 v], .int .i64 dx, .int .i64 dy] w fun e w' => e = .returned (.tuple #[.agg #[.int .i64 (x + dx), .int .i64 (y + dy), .int .i64 u, .int .i64 v], .int .i64 0]) ∧ Below w.heap.size w w' :=
  c33_in ⟨x, y, u, v⟩ dx dy w (rect_small h1 h2 h3 h4) (by omega) (by omega) (by unfold Rect.small; dsimp only; omega)

end Go.Proofs.Ytnjifmoclfgegaa
