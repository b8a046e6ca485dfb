/- The contract of edges.Begins: for wrong bands an error, for right bands where each begins. -/
import Derived.Test.YtgpcoljgpgamdaaB
namespace Go.Proofs.Ytgpcoljgpgamdaa
open Go.RowKit Go.Shelf
attribute [local go_sem] Oper.semAt_some

theorem Try.info2 : (Try.prog.info? 2).map (fun i => (i.zero, i.size, i.bytes)) = some (some (.int .i64 0), 1, 8) := by kernel_rfl

/-- **'out = append(out, ..)' in a loop's body**: as Boxed.appended, the box anywhere; a set of blocks that holds neither the box nor the row. -/
theorem boxed_appendedK {W w1 : World} {n₀ B : Nat} {S : Nat → Prop} {t e : TypeId} {size : Nat} {v v' : Value} {k m : Nat} {xs ys : List Value} {tmp : Obj}
    (hv : Boxed W B t v) (hte : t ≠ e) (hrow : W.ownsRow n₀ e size v k xs) (hS : ∀ k, S k → k < n₀) (hn₀ : n₀ ≤ W.heap.size) (hB : ¬ S B)
    (hown' : w1.ownsRow n₀ e size v' m ys) (hgrow : (W.alloc tmp).grownBy w1 v.ownBlock) :
    Boxed w1 B t v ∧ Boxed (w1.setCell ⟨B, 0, none⟩ v') B t v' ∧ (w1.setCell ⟨B, 0, none⟩ v').ownsRow n₀ e size v' m ys ∧ KeepsOthers W (w1.setCell ⟨B, 0, none⟩ v') ∧ Keeps S W (w1.setCell ⟨B, 0, none⟩ v') := by
  have hv1 : Boxed w1 B t v := (hv.alloc tmp).kept hgrow (hv.not_row hte hrow)
  refine ⟨hv1, hv1.set v', hown'.kept (grownBy_setCell' w1 B v') (.inr (hv1.not_row hte hown').symm), ?_, ?_⟩
  · refine ((KeepsOthers.alloc W tmp).trans (KeepsOthers.of_grownBy hgrow fun j o ej hj => ?_)).trans (KeepsOthers.setCell _ _ _)
    rcases (hrow.alloc tmp).2 with ⟨rfl, _⟩ | ⟨g, cap, cur, rfl, _, hgb, _⟩
    · simp [Value.ownBlock] at ej
    · obtain rfl : g = j := by simpa [Value.ownBlock] using ej
      rw [hgb] at hj; cases hj; rfl
  · have hb : Below n₀ W w1 := ((Below.refl n₀ W).alloc hn₀ tmp).grown hgrow (by simp; omega) fun j ej => by
      rcases hrow.2 with ⟨rfl, _⟩ | ⟨g, cap, cur, rfl, hb, _, _⟩
      · simp [Value.ownBlock] at ej
      · obtain rfl : g = j := by simpa [Value.ownBlock] using ej
        exact hb
    exact (Keeps.of_below hb hS).setCell (p := ⟨B, 0, none⟩) hB v'

theorem ownFrom_keeps {β : Type} {S : Nat → Prop} {B : Nat} {w₀ : World} (hS : ∀ k, S k → k < w₀.heap.size) (hB : ∀ k, S k → k < B) : OwnFrom B (fun (_ : β) W => Keeps S w₀ W) :=
  fun _ _ _ _ hs hg hr => hs.trans ⟨hg.os, hg.tape, hg.output, hg.size, fun k hk => hg.block k (Nat.lt_of_lt_of_le (hS k hk) hs.size) (fun e => by have := (hr k e.symm).1; have := hB k hk; omega)⟩

theorem Keeps.below {S : Nat → Prop} {B : Nat} {w w' : World} (h : Keeps S w w') (hS : ∀ k, k < B → S k) : Below B w w' :=
  ⟨h.os, h.tape, h.output, h.size, fun k hk => h.block k (hS k hk)⟩

/-- A row that is owned, read. -/
theorem ints_of_own {w : World} {base n : Nat} {e : TypeId} {v : Value} {xs : List Int} (h : w.ownsRow base e 1 v n (xs.map (Value.int .i64))) (hn : xs.length = n) :
    ∃ A c, v = .slice A n c ∧ n ≤ c ∧ c ≤ maxLen ∧ Ints w A xs ∧ ∀ ad, A = some ad → base ≤ ad.block := by
  rcases h.2 with ⟨rfl, rfl⟩ | ⟨g, cap, cur, rfl, hg, hb, h1, h2, h3, h4⟩
  · exact ⟨none, 0, rfl, Nat.le_refl _, Nat.zero_le _, fun j hj => by omega, fun ad e => by cases e⟩
  · refine ⟨_, cap, rfl, h1, h2, fun j hj => ⟨g, 0, rfl, ?_⟩, fun ad e => by cases e; exact hg⟩
    have hj' : j < cur.size := by omega
    have h5 : (cur.toList.take (n * 1))[j]? = (xs.map (Value.int .i64))[j]? := by rw [h4]
    rw [List.getElem?_take, if_pos (by omega), List.getElem?_map] at h5
    unfold World.cell?
    rw [hb]
    simp only [Nat.zero_add, Option.isSome_none, Bool.false_eq_true, if_false]
    rw [← Array.getElem?_toList, h5]
    simp [hj]

end Go.Proofs.Ytgpcoljgpgamdaa
