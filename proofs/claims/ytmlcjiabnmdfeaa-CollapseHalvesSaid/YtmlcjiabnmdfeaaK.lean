/- Contracts of the sides that directions make. -/
import Derived.Test.YtmlcjiabnmdfeaaJ
namespace Go.Proofs.Ytmlcjiabnmdfeaa
open Go Go.RowKit Go.Shelf CT
set_option linter.unusedVariables false

/-- a side that runs ask for: over an edge, or beside it -/
def lieSide (l : Line) (by_ from_ : Int) (over : Bool) : CT.Side := ⟨l.style, l.width, l.color, by_, if over then 0 else from_, if over then from_ else 0⟩
theorem cell_of {W : World} {H : Nat} {cs : Array Value} {t : TypeId} {fr : Nat × Nat} {j : Nat} {v : Value} (h : W.heap[H]? = some (.cells cs t fr)) (hv : cs[j]? = some v) : W.cell? ⟨H, j, none⟩ = some v := by simp [World.cell?, h, hv]
theorem frozen_of {W : World} {H : Nat} {cs : Array Value} {t : TypeId} {j : Nat} (h : W.heap[H]? = some (.cells cs t (0, 0))) : W.frozen? ⟨H, j, none⟩ = false := by simp [World.frozen?, h]
theorem res64 {tmps : Array Value} {W : World} {H : Nat} {a b c d e f : Value} (h2 : tmps[8]?.getD undef = .pointer (some ⟨H, 0, none⟩)) (h : W.heap[H]? = some (.cells #[a, b, c, d, e, f] 45 (0, 0))) :
    (results Try.f64 tmps).run Try.prog W = .ok (.agg #[a, b, c, d, e, f]) W := by
  have c0 : W.cell? ⟨H, 0, none⟩ = some a := cell_of h rfl
  have c1 : W.cell? ⟨H, 1, none⟩ = some b := cell_of h rfl
  have c2 : W.cell? ⟨H, 2, none⟩ = some c := cell_of h rfl
  have c3 : W.cell? ⟨H, 3, none⟩ = some d := cell_of h rfl
  have c4 : W.cell? ⟨H, 4, none⟩ = some e := cell_of h rfl
  have c5 : W.cell? ⟨H, 5, none⟩ = some f := cell_of h rfl
  simp [results, Try.results64, go_sem, h2, c0, c1, c2, c3, c4, c5]
theorem res65 {tmps : Array Value} {W : World} {H : Nat} {a b c d e f : Value} (h2 : tmps[9]?.getD undef = .pointer (some ⟨H, 0, none⟩)) (h : W.heap[H]? = some (.cells #[a, b, c, d, e, f] 45 (0, 0))) :
    (results Try.f65 tmps).run Try.prog W = .ok (.agg #[a, b, c, d, e, f]) W := by
  have c0 : W.cell? ⟨H, 0, none⟩ = some a := cell_of h rfl
  have c1 : W.cell? ⟨H, 1, none⟩ = some b := cell_of h rfl
  have c2 : W.cell? ⟨H, 2, none⟩ = some c := cell_of h rfl
  have c3 : W.cell? ⟨H, 3, none⟩ = some d := cell_of h rfl
  have c4 : W.cell? ⟨H, 4, none⟩ = some e := cell_of h rfl
  have c5 : W.cell? ⟨H, 5, none⟩ = some f := cell_of h rfl
  simp [results, Try.results65, go_sem, h2, c0, c1, c2, c3, c4, c5]

set_option maxHeartbeats 2000000 in
theorem c64 (l : Line) (by_ from_ : Int) (over : Bool) (w : World) :
    Calls Try.prog 64 #[.agg l.arr, .int .i64 by_, .int .i64 from_, .bool over] w fun e w' => e = .returned (.agg (lieSide l by_ from_ over).arr) ∧ Below w.heap.size w w' := by
  obtain ⟨x, y, u⟩ := l
  unfold Line.arr lieSide CT.Side.arr
  dsimp only
  have hb : ∀ a b : Obj, Below w.heap.size w ((w.alloc a).alloc b) := fun a b => ((Below.refl _ w).alloc (Nat.le_refl _) a).alloc (by simp) b
  have hh : ∀ (a : Obj) (cs : Array Value), ((w.alloc a).alloc (.cells cs 45)).heap[w.heap.size + 1]? = some (.cells cs 45 (0, 0)) := fun a cs => by
    have h := heap_alloc_new (w.alloc a) (.cells cs 45)
    rw [World.size_alloc] at h
    exact h
  have HB := Lib.hid hb
  have HH := Lib.hid hh
  clear hb hh
  cases over with
  | true =>
    go_enter Try.func64, Try.ntmps64
    go_wp2_with (fail)
    exact ⟨rfl, _, res64 rfl (HH.out _ _), rfl, HB.out _ _⟩
  | false =>
    go_enter Try.func64, Try.ntmps64
    go_wp2_with (fail)
    exact ⟨rfl, _, res64 rfl (HH.out _ _), rfl, HB.out _ _⟩

set_option maxHeartbeats 2000000 in
theorem c65 (l : Line) (by_ from_ : Int) (over : Bool) (Bs : Nat) (w : World) (h : w.cell? ⟨Bs, 0, none⟩ = some (.func (.func 64) #[] #[])) :
    Calls Try.prog 65 #[.agg l.arr, .int .i64 by_, .int .i64 from_, .bool over, .pointer (some ⟨Bs, 0, none⟩)] w fun e w' => e = .returned (.agg (lieSide l by_ from_ (!over)).arr) ∧ Below w.heap.size w w' := by
  have H64 := Lib.hid (fun W => c64 l by_ from_ (!over) W)
  obtain ⟨x, y, u⟩ := l
  unfold Line.arr lieSide CT.Side.arr at *
  dsimp only at *
  generalize hA : (w.alloc (.cells #[.int .i64 x, .int .i64 y, .int .u32 u] 27)) = wA
  have hb1 : Below w.heap.size w wA := by rw [← hA]; exact (Below.refl _ w).alloc (Nat.le_refl _) _
  have hb2 : Below w.heap.size w (wA.alloc (.cells #[.int .i64 0, .int .i64 0, .int .u32 0, .int .i64 0, .int .i64 0, .int .i64 0] 45)) := hb1.alloc hb1.size _
  have hs : wA.heap.size = w.heap.size + 1 := by rw [← hA]; simp
  have hh := heap_alloc_new wA (.cells #[.int .i64 0, .int .i64 0, .int .u32 0, .int .i64 0, .int .i64 0, .int .i64 0] 45)
  rw [hs] at hh
  rw [← hA] at hb2 hh
  have HB := Lib.hid hb2
  have HH := Lib.hid hh
  clear hb1 hb2 hs hh hA
  have hc := (HB.out.cell (p := ⟨Bs, 0, none⟩) (World.block_lt_of_cell? w _ h)).trans h
  obtain ⟨b, hbe⟩ : ∃ b, (!over) = b := ⟨_, rfl⟩
  rw [hbe] at H64
  rw [hbe]
  have Hbe := Lib.hid hbe
  have tb : (!over) = b := hbe
  clear hbe
  go_enter Try.func65, Try.ntmps65
  go_wp2_with (fail)

  refine (H64.out _).mono ?_
  rintro e w3 ⟨rfl, hb3⟩
  have hz := (hb3.block _ (Array.getElem?_eq_some_iff.1 HH.out).1).trans HH.out
  have HB3 := Lib.hid (HB.out.trans (hb3.mono HB.out.size))
  have HZ := Lib.hid hz
  have z0 : w3.cell? ⟨w.heap.size + 1, 0, none⟩ = some (.int .i64 0) := cell_of hz rfl
  have y0 : w3.frozen? ⟨w.heap.size + 1, 0, none⟩ = false := frozen_of hz
  have z1 : w3.cell? ⟨w.heap.size + 1, 1, none⟩ = some (.int .i64 0) := cell_of hz rfl
  have y1 : w3.frozen? ⟨w.heap.size + 1, 1, none⟩ = false := frozen_of hz
  have z2 : w3.cell? ⟨w.heap.size + 1, 2, none⟩ = some (.int .u32 0) := cell_of hz rfl
  have y2 : w3.frozen? ⟨w.heap.size + 1, 2, none⟩ = false := frozen_of hz
  have z3 : w3.cell? ⟨w.heap.size + 1, 3, none⟩ = some (.int .i64 0) := cell_of hz rfl
  have y3 : w3.frozen? ⟨w.heap.size + 1, 3, none⟩ = false := frozen_of hz
  have z4 : w3.cell? ⟨w.heap.size + 1, 4, none⟩ = some (.int .i64 0) := cell_of hz rfl
  have y4 : w3.frozen? ⟨w.heap.size + 1, 4, none⟩ = false := frozen_of hz
  have z5 : w3.cell? ⟨w.heap.size + 1, 5, none⟩ = some (.int .i64 0) := cell_of hz rfl
  have y5 : w3.frozen? ⟨w.heap.size + 1, 5, none⟩ = false := frozen_of hz
  clear hz hb3
  go_wp2_with (fail)
  all_goals
    refine ⟨rfl, _, res65 rfl (laid6 HZ.out), rfl, ?_⟩
    exact (((((HB3.out.setCell (p := ⟨w.heap.size + 1, 0, none⟩) (Nat.le_succ _) _).setCell (p := ⟨w.heap.size + 1, 1, none⟩) (Nat.le_succ _) _).setCell (p := ⟨w.heap.size + 1, 2, none⟩) (Nat.le_succ _) _).setCell (p := ⟨w.heap.size + 1, 3, none⟩) (Nat.le_succ _) _).setCell (p := ⟨w.heap.size + 1, 4, none⟩) (Nat.le_succ _) _).setCell (p := ⟨w.heap.size + 1, 5, none⟩) (Nat.le_succ _) _
end Go.Proofs.Ytmlcjiabnmdfeaa
