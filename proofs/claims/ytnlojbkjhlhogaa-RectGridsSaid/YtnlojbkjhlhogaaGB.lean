/- Appends to a row of rectangles of the call's own. -/
import Derived.Test.YtnlojbkjhlhogaaYB
import Derived.Test.YtnlojbkjhlhogaaGA
namespace Go.Proofs.Ytnlojbkjhlhogaa
open Go Go.RowKit IV
set_option linter.unusedVariables false

theorem row_news {w : World} {M : Nat} {r : Rect} (hm : RRow w M r) : ∀ j u, (flat [r])[j]? = some u → w.cell? ((⟨M, 0, none⟩ : Addr).add j) = some u := by
  intro j u hu
  have hj : j < 4 := by have := (List.getElem?_eq_some_iff.1 hu).1; rw [flat_length] at this; simpa using this
  rw [addr_add', Nat.zero_add]
  have e : (flat [r])[j]? = r.cells[j]? := by simp [flat]
  rw [e] at hu
  rw [← hu]
  match j, hj with
  | 0, _ => simp [World.cell?, hm.at_, Rect.arr, Rect.cells]
  | 1, _ => simp [World.cell?, hm.at_, Rect.arr, Rect.cells]
  | 2, _ => simp [World.cell?, hm.at_, Rect.arr, Rect.cells]
  | 3, _ => simp [World.cell?, hm.at_, Rect.arr, Rect.cells]
theorem grown_base {base : Nat} {X W1 : World} {v : Value} {n : Nat} {l : List Value} (hown : X.ownsRow base 23 4 v n l) (hg : X.grownBy W1 v.ownBlock) (hb : base ≤ X.heap.size) : Below base X W1 :=
  ⟨hg.os, hg.tape, hg.output, hg.size, fun q hq => hg.block q (Nat.lt_of_lt_of_le hq hb) (fun e => by have := (own_block1 hown e.symm).1; omega)⟩
theorem wpList_app_rect {ops : Array Oper} {rest : List Oper} {o : Oper} {a : Act} {w : World} {Q : Exit → Act → World → Prop} (hgd : o.guard = none) (base : Nat) (x z : Operand) (ho : o.op = .call { callee := .builtin .append, args := #[x, z], argTypes := #[30, 30] })
    (v : Value) (n : Nat) (l : List Rect) (hx : a.eval x = v) (hown : w.ownsRow base 23 4 v n (flat l)) (M : Nat) (r : Rect) (hz : a.eval z = .slice (some ⟨M, 0, none⟩) 1 1) (hm : RRow w M r) (hn : n ≤ 1000000) (hbase : base ≤ w.heap.size)
    (h : ∀ v' W', W'.ownsRow base 23 4 v' (n + 1) (flat (l ++ [r])) → Below base w W' → wpList Try.prog ops Q rest (a.put o.dst v') W') : wpList Try.prog ops Q (o :: rest) a w := by
  obtain ⟨i0, hi, hz0, hz1, hz2⟩ := info_parts info23
  exact wpList_append_own_at w hgd x z 30 ho base 23 i0 _ 4 32 Try.underlying30 hi hz0 hz1 hz2 rfl (by decide) v n (flat l) hx hown ⟨M, 0, none⟩ 1 1 (flat [r]) hz (flat_length [r]) (row_news hm) (flat_one [r]) (by unfold maxLen; omega) (by omega) hbase
    fun v' W' h1 h2 _ h3 => h v' W' (by rw [flat_append]; exact h1) (grown_base hown h2 hbase)

theorem rects_news' {w : World} {ad : Addr} {m : List Rect} (h : Rects w (some ad) m) : ∀ j u, (flat m)[j]? = some u → w.cell? (ad.add j) = some u := rects_news h
section
variable {o : Oper} {a : Act} {w : World} {K : Act → World → Prop} {Q : Exit → Act → World → Prop}
theorem wp_make_rects (base : Nat) (x z : Operand) (cap : Nat) (ho : o.op = .makeSlice 30 x z) (hx : a.eval x = .int .i64 0) (hz : a.eval z = .int .i64 cap) (hcap : 0 < cap ∧ cap ≤ 1000) (hbase : base ≤ w.heap.size)
    (h : ∀ W', W'.ownsRow base 23 4 (.slice (some ⟨w.heap.size, 0, none⟩) 0 cap) 0 [] → w.grownBy W' none → K (a.put o.dst (.slice (some ⟨w.heap.size, 0, none⟩) 0 cap)) W') : o.wp Try.prog a w K Q := by
  obtain ⟨i0, hi, hz0, hz1, hz2⟩ := info_parts info23
  obtain ⟨W', hr, hown, hg⟩ := run_makeSlice_owned (P := Try.prog) w base 30 23 i0 _ 4 Try.underlying30 hi hz0 hz1 .i64 .i64 cap (by omega) (by rw [hz2]; omega) (by unfold maxLen; omega) hbase
  have hr' : (Instr.makeSlice 30 (.int .i64 0) (.int .i64 cap)).run Try.prog w = .ok (.slice (some ⟨w.heap.size, 0, none⟩) 0 cap) W' := hr
  unfold Oper.wp execOp
  simp only [ho, hx, hz, Sem.run_bind, Sem.run_pure, Result.andThen_ok, hr']
  exact h W' hown hg
theorem wp_app_fits (base : Nat) (x z : Operand) (cap : Nat) (ho : o.op = .call { callee := .builtin .append, args := #[x, z], argTypes := #[30, 30] }) (g n : Nat) (l : List Rect) (hx : a.eval x = .slice (some ⟨g, 0, none⟩) n cap)
    (hown : w.ownsRow base 23 4 (.slice (some ⟨g, 0, none⟩) n cap) n (flat l)) (ad : Addr) (c mm : Nat) (m : List Rect) (hmm : m.length = mm) (hz : a.eval z = .slice (some ad) mm c) (hm : Rects w (some ad) m) (kk : Nat) (hkk : n + mm = kk) (hroom : kk ≤ cap)
    (h : ∀ W', W'.ownsRow base 23 4 (.slice (some ⟨g, 0, none⟩) kk cap) kk (flat (l ++ m)) → w.grownBy W' (some g) → K (a.put o.dst (.slice (some ⟨g, 0, none⟩) kk cap)) W') : o.wp Try.prog a w K Q := by
  subst hmm
  subst hkk
  obtain ⟨i0, hi, hz0, hz1, hz2⟩ := info_parts info23
  obtain ⟨W', hr, ho', hg⟩ := run_append_fits (P := Try.prog) w base 30 o.type 23 i0 4 Try.underlying30 hi hz1 g n cap (flat l) hown ad m.length c (flat m) (flat_length m) (rects_news hm) (flat_one m) hroom
  unfold Oper.wp execOp
  simp only [ho, resolve, invoke, builtin, Sem.run_bind, Sem.run_pure, Result.andThen_ok, List.map_toArray, List.map_cons, List.map_nil, hx, hz, hr]
  exact h W' (by rw [flat_append]; exact ho') hg
end
theorem Ints.take {w : World} {A : Option Addr} {xs : List Int} (h : Ints w A xs) (n : Nat) : Ints w A (xs.take n) := fun j hj => by
  have h1 : j < n ∧ j < xs.length := by rw [List.length_take] at hj; omega
  obtain ⟨b, o, hA, hr⟩ := h j h1.2
  refine ⟨b, o, hA, ?_⟩
  rw [List.getElem?_take_of_lt h1.1]
  exact hr
end Go.Proofs.Ytnlojbkjhlhogaa
