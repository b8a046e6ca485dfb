/- How grid.Slots ends. -/
import Derived.Test.YtmlcjiabnmdfeaaFA
namespace Go.Proofs.Ytmlcjiabnmdfeaa
open Go Go.RowKit Go.Shelf CT
set_option linter.unusedVariables false
attribute [local go_sem] Oper.semAt_some

theorem res25 {tmps : Array Value} {W : World} {H0 : Nat} {A : Option Addr} {n c : Nat} {e : Int} (h6 : tmps[6]?.getD undef = .pointer (some ⟨H0, 0, none⟩)) (h7 : tmps[7]?.getD undef = .pointer (some ⟨H0 + 1, 0, none⟩)) (b0 : Boxed W H0 63 (.slice A n c)) (b1 : Boxed W (H0 + 1) 35 (.int .i64 e)) :
    (results Try.f25 tmps).run Try.prog W = .ok (.tuple #[.slice A n c, .int .i64 e]) W := by
  have c0 := b0.cell
  have c1 := b1.cell
  simp [results, Try.results25, go_sem, h6, h7, c0, c1]

theorem new_cell {W : World} {v : Value} {t : TypeId} {B : Nat} (h : B = W.heap.size) : (W.alloc (.cells #[v] t)).cell? ⟨B, 0, none⟩ = some v := by subst h; exact (Boxed.new W t v).cell
/-- what the row of tests says -/
theorem c39b (b : Bool) (lo hi n : Int) (B : Nat) (w : World) (h : w.cell? ⟨B, 0, none⟩ = some (.int .i64 n)) (hb : decide (lo ≤ n ∧ n ≤ hi) = b) :
    Calls Try.prog 39 #[.int .i64 lo, .int .i64 hi, .slice (some ⟨B, 0, none⟩) 1 1] w fun e w' => e = .returned (.bool b) ∧ w = w' := by
  subst hb
  exact c39 lo hi n B w h

theorem place_laid (W : World) (v : Value) (p : Place) (u : Value) : Below W.heap.size W (((W.alloc (.cells #[v] 3)).alloc (.cells p.arr 43)).alloc (.cells #[u] 3)) ∧ Boxed (((W.alloc (.cells #[v] 3)).alloc (.cells p.arr 43)).alloc (.cells #[u] 3)) W.heap.size 3 v ∧ GR.One Place.cells 43 (((W.alloc (.cells #[v] 3)).alloc (.cells p.arr 43)).alloc (.cells #[u] 3)) (W.heap.size + 1) p ∧ (((W.alloc (.cells #[v] 3)).alloc (.cells p.arr 43)).alloc (.cells #[u] 3)).heap.size = W.heap.size + 3 := by
  refine ⟨(((Below.refl _ W).alloc (Nat.le_refl _) _).alloc (by simp) _).alloc (by simp; omega) _, ((Boxed.new W 3 v).alloc _).alloc _, ?_, by simp⟩
  have h := GR.One.new (enc := Place.cells) 43 (W.alloc (.cells #[v] 3)) p
  have e : (W.alloc (.cells #[v] 3)).heap.size = W.heap.size + 1 := by simp
  rw [e] at h
  exact h.turn ((Below.refl _ _).alloc (Nat.le_refl _) _)

variable {w W : World} {H0 R C : Nat} {vs : Nat → Value} {n : Nat → Nat} {f : Nat → Nat → Int} {ps : List Place} {Ds : List Nat}
theorem slots_fail (hS : SlW w W H0 R vs n f) (hM : Marks W (H0 + 6) Ds) (hH : H0 = w.heap.size) (hok : okS ps R C = false) {tmps : Array Value} (h6 : tmps[6]?.getD undef = .pointer (some ⟨H0, 0, none⟩)) (h7 : tmps[7]?.getD undef = .pointer (some ⟨H0 + 1, 0, none⟩)) :
    LeavesInM Fence.wide 3 Try.prog Try.f25 tmps (SlotsSaid ps R C w) (Ds.map coll) .returning ((W.setCell ⟨H0, 0, none⟩ (.slice none 0 0)).setCell ⟨H0 + 1, 0, none⟩ (.int .i64 70)) := by
  have hM2 := (hM.set (v := .slice none 0 0) hS.b0.cell).set (v := .int .i64 70) (hS.b1.other (B' := H0) (by omega) _).cell
  refine leaves_coll Ds _ hM2 fun W' hW' => ?_
  have b0 := hW'.boxed ((hS.b0.set (.slice none 0 0)).other (B' := H0 + 1) (by omega) (.int .i64 70))
  have b1 := hW'.boxed ((hS.b1.other (B' := H0) (by omega) (.slice none 0 0)).set (.int .i64 70))
  refine ⟨_, res25 h6 h7 b0 b1, ⟨fun h => (by rw [hok] at h; cases h), fun _ => rfl⟩, ?_⟩
  subst hH
  exact ((hS.bl.setCell (p := ⟨w.heap.size, 0, none⟩) (Nat.le_refl _) _).setCell (p := ⟨w.heap.size + 1, 0, none⟩) (by show w.heap.size ≤ w.heap.size + 1; omega) _).trans (hW'.below.mono (by omega))
theorem slots_done (hS : SlW w W H0 R vs (fun _ => C) (whoTo ps ps.length)) (hM : Marks W (H0 + 6) Ds) (hH : H0 = w.heap.size) (hok : okS ps R C = true) {tmps : Array Value} (h6 : tmps[6]?.getD undef = .pointer (some ⟨H0, 0, none⟩)) (h7 : tmps[7]?.getD undef = .pointer (some ⟨H0 + 1, 0, none⟩)) :
    LeavesInM Fence.wide 3 Try.prog Try.f25 tmps (SlotsSaid ps R C w) (Ds.map coll) .returning ((W.setCell ⟨H0, 0, none⟩ (.slice (some ⟨H0 + 4, 0, none⟩) R R)).setCell ⟨H0 + 1, 0, none⟩ (.int .i64 0)) := by
  have hM2 := (hM.set (v := .slice (some ⟨H0 + 4, 0, none⟩) R R) hS.b0.cell).set (v := .int .i64 0) (hS.b1.other (B' := H0) (by omega) _).cell
  refine leaves_coll Ds _ hM2 fun W' hW' => ?_
  have b0 := hW'.boxed ((hS.b0.set (.slice (some ⟨H0 + 4, 0, none⟩) R R)).other (B' := H0 + 1) (by omega) (.int .i64 0))
  have b1 := hW'.boxed ((hS.b1.other (B' := H0) (by omega) (.slice (some ⟨H0 + 4, 0, none⟩) R R)).set (.int .i64 0))
  have hT : Tab ((W.setCell ⟨H0, 0, none⟩ (.slice (some ⟨H0 + 4, 0, none⟩) R R)).setCell ⟨H0 + 1, 0, none⟩ (.int .i64 0)) H0 (H0 + 4) R vs (fun _ => C) (whoTo ps ps.length) := by
    have k : ∀ b, b ≠ H0 → b ≠ H0 + 1 → ((W.setCell ⟨H0, 0, none⟩ (.slice (some ⟨H0 + 4, 0, none⟩) R R)).setCell ⟨H0 + 1, 0, none⟩ (.int .i64 0)).heap[b]? = W.heap[b]? := fun b h1 h2 => (heap_set_other _ 0 _ h2).trans (heap_set_other _ 0 _ h1)
    obtain ⟨cur, hc, h1, h2⟩ := hS.tab.blk
    exact ⟨hS.tab.le, ⟨cur, (k _ (by omega) (by omega)).trans hc, h1, h2⟩, fun r hr => GR.own_keep (hS.tab.row r hr) fun g hg _ => k g (by have := hS.nb r hr g hg; omega) (by have := hS.nb r hr g hg; omega), hS.tab.dist, hS.tab.ne⟩
  refine ⟨_, res25 h6 h7 b0 b1, ⟨fun _ => ⟨H0 + 4, vs, rfl, by rw [← hH]; exact hW'.tab hT⟩, fun h => (by rw [hok] at h; cases h)⟩, ?_⟩
  subst hH
  exact ((hS.bl.setCell (p := ⟨w.heap.size, 0, none⟩) (Nat.le_refl _) _).setCell (p := ⟨w.heap.size + 1, 0, none⟩) (by show w.heap.size ≤ w.heap.size + 1; omega) _).trans (hW'.below.mono (by omega))
theorem okP_nofit {k : Nat} (h : fitP (ps[k]?.getD default) R C = false) : okP ps R C k = false := by unfold okP; rw [h]; rfl
end Go.Proofs.Ytmlcjiabnmdfeaa
