/- Contract of collapse.edge. -/
import Derived.Test.YtmlcjiabnmdfeaaM
namespace Go.Proofs.Ytmlcjiabnmdfeaa
open Go Go.RowKit Go.Shelf CT
set_option linter.unusedVariables false

/-- ten values laid in a block -/
theorem laid10 {W : World} {H : Nat} {t : TypeId} {u0 u1 u2 u3 u4 u5 u6 u7 u8 u9 v0 v1 v2 v3 v4 v5 v6 v7 v8 v9 : Value} (h : W.heap[H]? = some (.cells #[u0, u1, u2, u3, u4, u5, u6, u7, u8, u9] t (0, 0))) :
    ((((((((((W.setCell ⟨H, 0, none⟩ v0).setCell ⟨H, 1, none⟩ v1).setCell ⟨H, 2, none⟩ v2).setCell ⟨H, 3, none⟩ v3).setCell ⟨H, 4, none⟩ v4).setCell ⟨H, 5, none⟩ v5).setCell ⟨H, 6, none⟩ v6).setCell ⟨H, 7, none⟩ v7).setCell ⟨H, 8, none⟩ v8).setCell ⟨H, 9, none⟩ v9).heap[H]? = some (.cells #[v0, v1, v2, v3, v4, v5, v6, v7, v8, v9] t (0, 0)) := by
  have h0 : (W.setCell ⟨H, 0, none⟩ v0).heap[H]? = some (.cells #[v0, u1, u2, u3, u4, u5, u6, u7, u8, u9] t (0, 0)) := heap_set_self h 0 v0
  have h1 : ((W.setCell ⟨H, 0, none⟩ v0).setCell ⟨H, 1, none⟩ v1).heap[H]? = some (.cells #[v0, v1, u2, u3, u4, u5, u6, u7, u8, u9] t (0, 0)) := heap_set_self h0 1 v1
  have h2 : (((W.setCell ⟨H, 0, none⟩ v0).setCell ⟨H, 1, none⟩ v1).setCell ⟨H, 2, none⟩ v2).heap[H]? = some (.cells #[v0, v1, v2, u3, u4, u5, u6, u7, u8, u9] t (0, 0)) := heap_set_self h1 2 v2
  have h3 : ((((W.setCell ⟨H, 0, none⟩ v0).setCell ⟨H, 1, none⟩ v1).setCell ⟨H, 2, none⟩ v2).setCell ⟨H, 3, none⟩ v3).heap[H]? = some (.cells #[v0, v1, v2, v3, u4, u5, u6, u7, u8, u9] t (0, 0)) := heap_set_self h2 3 v3
  have h4 : (((((W.setCell ⟨H, 0, none⟩ v0).setCell ⟨H, 1, none⟩ v1).setCell ⟨H, 2, none⟩ v2).setCell ⟨H, 3, none⟩ v3).setCell ⟨H, 4, none⟩ v4).heap[H]? = some (.cells #[v0, v1, v2, v3, v4, u5, u6, u7, u8, u9] t (0, 0)) := heap_set_self h3 4 v4
  have h5 : ((((((W.setCell ⟨H, 0, none⟩ v0).setCell ⟨H, 1, none⟩ v1).setCell ⟨H, 2, none⟩ v2).setCell ⟨H, 3, none⟩ v3).setCell ⟨H, 4, none⟩ v4).setCell ⟨H, 5, none⟩ v5).heap[H]? = some (.cells #[v0, v1, v2, v3, v4, v5, u6, u7, u8, u9] t (0, 0)) := heap_set_self h4 5 v5
  have h6 : (((((((W.setCell ⟨H, 0, none⟩ v0).setCell ⟨H, 1, none⟩ v1).setCell ⟨H, 2, none⟩ v2).setCell ⟨H, 3, none⟩ v3).setCell ⟨H, 4, none⟩ v4).setCell ⟨H, 5, none⟩ v5).setCell ⟨H, 6, none⟩ v6).heap[H]? = some (.cells #[v0, v1, v2, v3, v4, v5, v6, u7, u8, u9] t (0, 0)) := heap_set_self h5 6 v6
  have h7 : ((((((((W.setCell ⟨H, 0, none⟩ v0).setCell ⟨H, 1, none⟩ v1).setCell ⟨H, 2, none⟩ v2).setCell ⟨H, 3, none⟩ v3).setCell ⟨H, 4, none⟩ v4).setCell ⟨H, 5, none⟩ v5).setCell ⟨H, 6, none⟩ v6).setCell ⟨H, 7, none⟩ v7).heap[H]? = some (.cells #[v0, v1, v2, v3, v4, v5, v6, v7, u8, u9] t (0, 0)) := heap_set_self h6 7 v7
  have h8 : (((((((((W.setCell ⟨H, 0, none⟩ v0).setCell ⟨H, 1, none⟩ v1).setCell ⟨H, 2, none⟩ v2).setCell ⟨H, 3, none⟩ v3).setCell ⟨H, 4, none⟩ v4).setCell ⟨H, 5, none⟩ v5).setCell ⟨H, 6, none⟩ v6).setCell ⟨H, 7, none⟩ v7).setCell ⟨H, 8, none⟩ v8).heap[H]? = some (.cells #[v0, v1, v2, v3, v4, v5, v6, v7, v8, u9] t (0, 0)) := heap_set_self h7 8 v8
  have h9 : ((((((((((W.setCell ⟨H, 0, none⟩ v0).setCell ⟨H, 1, none⟩ v1).setCell ⟨H, 2, none⟩ v2).setCell ⟨H, 3, none⟩ v3).setCell ⟨H, 4, none⟩ v4).setCell ⟨H, 5, none⟩ v5).setCell ⟨H, 6, none⟩ v6).setCell ⟨H, 7, none⟩ v7).setCell ⟨H, 8, none⟩ v8).setCell ⟨H, 9, none⟩ v9).heap[H]? = some (.cells #[v0, v1, v2, v3, v4, v5, v6, v7, v8, v9] t (0, 0)) := heap_set_self h8 9 v9
  exact h9
theorem res44 {tmps : Array Value} {W : World} {H : Nat} {v0 v1 v2 v3 v4 v5 v6 v7 v8 v9 : Value} (h2 : tmps[8]?.getD undef = .pointer (some ⟨H, 0, none⟩)) (h : W.heap[H]? = some (.cells #[v0, v1, v2, v3, v4, v5, v6, v7, v8, v9] 47 (0, 0))) :
    (results Try.f44 tmps).run Try.prog W = .ok (.agg #[v0, v1, v2, v3, v4, v5, v6, v7, v8, v9]) W := by
  have c0 : W.cell? ⟨H, 0, none⟩ = some v0 := cell_of h rfl
  have c1 : W.cell? ⟨H, 1, none⟩ = some v1 := cell_of h rfl
  have c2 : W.cell? ⟨H, 2, none⟩ = some v2 := cell_of h rfl
  have c3 : W.cell? ⟨H, 3, none⟩ = some v3 := cell_of h rfl
  have c4 : W.cell? ⟨H, 4, none⟩ = some v4 := cell_of h rfl
  have c5 : W.cell? ⟨H, 5, none⟩ = some v5 := cell_of h rfl
  have c6 : W.cell? ⟨H, 6, none⟩ = some v6 := cell_of h rfl
  have c7 : W.cell? ⟨H, 7, none⟩ = some v7 := cell_of h rfl
  have c8 : W.cell? ⟨H, 8, none⟩ = some v8 := cell_of h rfl
  have c9 : W.cell? ⟨H, 9, none⟩ = some v9 := cell_of h rfl
  simp [results, Try.results44, go_sem, h2, c0, c1, c2, c3, c4, c5, c6, c7, c8, c9]

/-- an edge that is there, of what is asked for -/
def edgeOf (r c : Int) (lies : Bool) (l : List CT.Side) : Edge := ⟨r, c, lies, (winY l).style, (winY l).width, (winY l).color, (winY l).by_, (winY l).row, (winY l).col, l.length⟩
set_option maxRecDepth 100000 in
set_option maxHeartbeats 1000000 in
theorem c44 (r c : Int) (lies : Bool) (A : Option Addr) (l : List CT.Side) (cp : Nat) (w : World) (hx : CT.Sides w A l) (hl : l.length ≤ 17592186044416) (hwf : ∀ x ∈ l, x.wf) :
    Calls Try.prog 44 #[.int .i64 r, .int .i64 c, .bool lies, .slice A l.length cp] w fun e w' => e = .returned (.agg (edgeOf r c lies l).arr) ∧ Below w.heap.size w w' := by
  have hb0 : Below w.heap.size w (w.alloc (.cells #[.int .i64 0, .int .i64 0, .bool false, .int .i64 0, .int .i64 0, .int .u32 0, .int .i64 0, .int .i64 0, .int .i64 0, .int .i64 0] 47)) := (Below.refl _ _).alloc (Nat.le_refl _) _
  have H61 := Lib.hid (c15 A l cp (w.alloc (.cells #[.int .i64 0, .int .i64 0, .bool false, .int .i64 0, .int .i64 0, .int .u32 0, .int .i64 0, .int .i64 0, .int .i64 0, .int .i64 0] 47)) (hx.below hb0) hl hwf)
  have HB := Lib.hid hb0
  have HZ := Lib.hid (heap_alloc_new w (.cells #[.int .i64 0, .int .i64 0, .bool false, .int .i64 0, .int .i64 0, .int .u32 0, .int .i64 0, .int .i64 0, .int .i64 0, .int .i64 0] 47))
  unfold edgeOf Edge.arr
  generalize winY l = s at *
  generalize winF l = ff at *
  obtain ⟨n, hn⟩ : ∃ n : Nat, l.length = n := ⟨_, rfl⟩
  rw [hn] at H61 ⊢
  obtain ⟨s0, s1, s2, s3, s4, s5⟩ := s
  unfold CT.Side.arr at H61
  dsimp only at H61 ⊢
  clear hx hl hwf hb0 hn
  go_enter Try.func44, Try.ntmps44
  go_wp2_with (fail)
  refine H61.out.mono ?_
  rintro e w2 ⟨rfl, hb⟩
  have hd : Below w2.heap.size w2 (w2.alloc (.cells #[.int .i64 s0, .int .i64 s1, .int .u32 s2, .int .i64 s3, .int .i64 s4, .int .i64 s5] 45)) := (Below.refl _ _).alloc (Nat.le_refl _) _
  have hb2 := hb.trans (hd.mono hb.size)
  have HB2 := Lib.hid (HB.out.trans (hb2.mono HB.out.size))
  have hz := (hb2.block _ (Array.getElem?_eq_some_iff.1 HZ.out).1).trans HZ.out
  have HZ2 := Lib.hid hz
  have z0 : (w2.alloc (.cells #[.int .i64 s0, .int .i64 s1, .int .u32 s2, .int .i64 s3, .int .i64 s4, .int .i64 s5] 45)).cell? ⟨w.heap.size, 0, none⟩ = some (.int .i64 0) := cell_of hz rfl
  have y0 : (w2.alloc (.cells #[.int .i64 s0, .int .i64 s1, .int .u32 s2, .int .i64 s3, .int .i64 s4, .int .i64 s5] 45)).frozen? ⟨w.heap.size, 0, none⟩ = false := frozen_of hz
  have z1 : (w2.alloc (.cells #[.int .i64 s0, .int .i64 s1, .int .u32 s2, .int .i64 s3, .int .i64 s4, .int .i64 s5] 45)).cell? ⟨w.heap.size, 1, none⟩ = some (.int .i64 0) := cell_of hz rfl
  have y1 : (w2.alloc (.cells #[.int .i64 s0, .int .i64 s1, .int .u32 s2, .int .i64 s3, .int .i64 s4, .int .i64 s5] 45)).frozen? ⟨w.heap.size, 1, none⟩ = false := frozen_of hz
  have z2 : (w2.alloc (.cells #[.int .i64 s0, .int .i64 s1, .int .u32 s2, .int .i64 s3, .int .i64 s4, .int .i64 s5] 45)).cell? ⟨w.heap.size, 2, none⟩ = some (.bool false) := cell_of hz rfl
  have y2 : (w2.alloc (.cells #[.int .i64 s0, .int .i64 s1, .int .u32 s2, .int .i64 s3, .int .i64 s4, .int .i64 s5] 45)).frozen? ⟨w.heap.size, 2, none⟩ = false := frozen_of hz
  have z3 : (w2.alloc (.cells #[.int .i64 s0, .int .i64 s1, .int .u32 s2, .int .i64 s3, .int .i64 s4, .int .i64 s5] 45)).cell? ⟨w.heap.size, 3, none⟩ = some (.int .i64 0) := cell_of hz rfl
  have y3 : (w2.alloc (.cells #[.int .i64 s0, .int .i64 s1, .int .u32 s2, .int .i64 s3, .int .i64 s4, .int .i64 s5] 45)).frozen? ⟨w.heap.size, 3, none⟩ = false := frozen_of hz
  have z4 : (w2.alloc (.cells #[.int .i64 s0, .int .i64 s1, .int .u32 s2, .int .i64 s3, .int .i64 s4, .int .i64 s5] 45)).cell? ⟨w.heap.size, 4, none⟩ = some (.int .i64 0) := cell_of hz rfl
  have y4 : (w2.alloc (.cells #[.int .i64 s0, .int .i64 s1, .int .u32 s2, .int .i64 s3, .int .i64 s4, .int .i64 s5] 45)).frozen? ⟨w.heap.size, 4, none⟩ = false := frozen_of hz
  have z5 : (w2.alloc (.cells #[.int .i64 s0, .int .i64 s1, .int .u32 s2, .int .i64 s3, .int .i64 s4, .int .i64 s5] 45)).cell? ⟨w.heap.size, 5, none⟩ = some (.int .u32 0) := cell_of hz rfl
  have y5 : (w2.alloc (.cells #[.int .i64 s0, .int .i64 s1, .int .u32 s2, .int .i64 s3, .int .i64 s4, .int .i64 s5] 45)).frozen? ⟨w.heap.size, 5, none⟩ = false := frozen_of hz
  have z6 : (w2.alloc (.cells #[.int .i64 s0, .int .i64 s1, .int .u32 s2, .int .i64 s3, .int .i64 s4, .int .i64 s5] 45)).cell? ⟨w.heap.size, 6, none⟩ = some (.int .i64 0) := cell_of hz rfl
  have y6 : (w2.alloc (.cells #[.int .i64 s0, .int .i64 s1, .int .u32 s2, .int .i64 s3, .int .i64 s4, .int .i64 s5] 45)).frozen? ⟨w.heap.size, 6, none⟩ = false := frozen_of hz
  have z7 : (w2.alloc (.cells #[.int .i64 s0, .int .i64 s1, .int .u32 s2, .int .i64 s3, .int .i64 s4, .int .i64 s5] 45)).cell? ⟨w.heap.size, 7, none⟩ = some (.int .i64 0) := cell_of hz rfl
  have y7 : (w2.alloc (.cells #[.int .i64 s0, .int .i64 s1, .int .u32 s2, .int .i64 s3, .int .i64 s4, .int .i64 s5] 45)).frozen? ⟨w.heap.size, 7, none⟩ = false := frozen_of hz
  have z8 : (w2.alloc (.cells #[.int .i64 s0, .int .i64 s1, .int .u32 s2, .int .i64 s3, .int .i64 s4, .int .i64 s5] 45)).cell? ⟨w.heap.size, 8, none⟩ = some (.int .i64 0) := cell_of hz rfl
  have y8 : (w2.alloc (.cells #[.int .i64 s0, .int .i64 s1, .int .u32 s2, .int .i64 s3, .int .i64 s4, .int .i64 s5] 45)).frozen? ⟨w.heap.size, 8, none⟩ = false := frozen_of hz
  have z9 : (w2.alloc (.cells #[.int .i64 s0, .int .i64 s1, .int .u32 s2, .int .i64 s3, .int .i64 s4, .int .i64 s5] 45)).cell? ⟨w.heap.size, 9, none⟩ = some (.int .i64 0) := cell_of hz rfl
  have y9 : (w2.alloc (.cells #[.int .i64 s0, .int .i64 s1, .int .u32 s2, .int .i64 s3, .int .i64 s4, .int .i64 s5] 45)).frozen? ⟨w.heap.size, 9, none⟩ = false := frozen_of hz
  clear hz hb hd hb2 HZ HB H61
  go_wp2_with (fail)
  have hL := laid10 (v0 := .int .i64 r) (v1 := .int .i64 c) (v2 := .bool lies) (v3 := .int .i64 s0) (v4 := .int .i64 s1) (v5 := .int .u32 s2) (v6 := .int .i64 s3) (v7 := .int .i64 s4) (v8 := .int .i64 s5) (v9 := .int .i64 n) HZ2.out
  refine ⟨rfl, _, res44 rfl hL, rfl, ?_⟩
  exact ((((((((((HB2.out.setCell (p := ⟨w.heap.size, 0, none⟩) (Nat.le_refl _) _).setCell (p := ⟨w.heap.size, 1, none⟩) (Nat.le_refl _) _).setCell (p := ⟨w.heap.size, 2, none⟩) (Nat.le_refl _) _).setCell (p := ⟨w.heap.size, 3, none⟩) (Nat.le_refl _) _).setCell (p := ⟨w.heap.size, 4, none⟩) (Nat.le_refl _) _).setCell (p := ⟨w.heap.size, 5, none⟩) (Nat.le_refl _) _).setCell (p := ⟨w.heap.size, 6, none⟩) (Nat.le_refl _) _).setCell (p := ⟨w.heap.size, 7, none⟩) (Nat.le_refl _) _).setCell (p := ⟨w.heap.size, 8, none⟩) (Nat.le_refl _) _).setCell (p := ⟨w.heap.size, 9, none⟩) (Nat.le_refl _) _)
end Go.Proofs.Ytmlcjiabnmdfeaa
