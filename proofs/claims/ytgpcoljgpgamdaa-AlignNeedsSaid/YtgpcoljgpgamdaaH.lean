/- The iterator that align.based makes: it hands on the cells that stand on their rows' line, in order. -/
import Derived.Test.YtgpcoljgpgamdaaG
import Derived.RangeFuncFrom
namespace Go.Proofs.Ytgpcoljgpgamdaa
open Go.RowKit Go.Shelf
attribute [local go_sem] Oper.semAt_some
set_option linter.unusedVariables false

/-- a cell that stands on its row's line -/
def isB (c : Cell) : Bool := (c.al == 0) && c.hb

set_option maxRecDepth 100000 in
theorem based36 (c : Cell) (w : World) : Calls Try.prog 36 #[.agg c.arr] w fun e w' => e = .returned (.bool (isB c)) ∧ Below w.heap.size w w' := by
  have hB : Below w.heap.size w (w.alloc (.cells c.arr 41)) := (Below.refl _ w).alloc (Nat.le_refl _) _
  have HB := Lib.hid hB
  clear hB
  obtain ⟨node, row, col, rws, cols, mn, mx, high, base, hb, al⟩ := c
  unfold Cell.arr isB at *
  dsimp only at *
  by_cases h : al = 0
  · subst h
    go_enter Try.func36, Try.ntmps36
    go_wp2
    go_ret
    exact ⟨by simp, HB.out⟩
  · have t : (al == 0) = false := by rw [beq_eq_false_iff_ne]; exact h
    clear h
    go_enter Try.func36, Try.ntmps36
    go_wp2
    go_ret
    exact ⟨by rw [t]; rfl, HB.out⟩

theorem based23 (A : Option Addr) (n c : Nat) (w : World) :
    Calls Try.prog 23 #[.slice A n c] w fun e w' => e = .returned (.func (.func 35) #[] #[.pointer (some ⟨w.heap.size, 0, none⟩)]) ∧ w.alloc (.cells #[.slice A n c] 22) = w' := by
  go_enter Try.func23, Try.ntmps23
  go_wp2
  go_ret
  exact ⟨rfl, rfl⟩

/-- the places of cells that stand on a line -/
abbrev Bx (xs : List Cell) := { j : Nat // j < xs.length ∧ isB (xs[j]?.getD default) = true }
def basedTo (xs : List Cell) : Nat → List (Bx xs)
  | 0 => []
  | k + 1 => if h : k < xs.length ∧ isB (xs[k]?.getD default) = true then basedTo xs k ++ [⟨k, h⟩] else basedTo xs k
theorem basedTo_yes {xs : List Cell} {k : Nat} (h : k < xs.length ∧ isB (xs[k]?.getD default) = true) : basedTo xs (k + 1) = basedTo xs k ++ [⟨k, h⟩] := by simp only [basedTo]; rw [dif_pos h]
theorem basedTo_no {xs : List Cell} {k : Nat} (h : isB (xs[k]?.getD default) = false) : basedTo xs (k + 1) = basedTo xs k := by simp only [basedTo]; rw [dif_neg (by rw [h]; simp)]
theorem basedTo_len (xs : List Cell) : ∀ k, (basedTo xs k).length ≤ k
  | 0 => Nat.le_refl _
  | k + 1 => by
    have ih := basedTo_len xs k
    simp only [basedTo]
    split
    · simp; omega
    · omega
def encX (xs : List Cell) (x : Bx xs) : Array Value := #[.int .i64 (x.1 : Nat), .agg (xs[x.1]?.getD default).arr]

theorem CellAt.keeps {S : Nat → Prop} {w w' : World} {b o : Nat} {s : Cell} (h : CellAt w b o s) (hk : Keeps S w w') (hb : S b) : CellAt w' b o s := h.same (hk.block b hb)

set_option maxRecDepth 100000 in
set_option maxHeartbeats 2000000 in
/-- based's closure -/
theorem c35w (n l Bs : Nat) (S : Nat → Prop) (A : Option Addr) (xs : List Cell) (c : Nat) (hl : xs.length ≤ 17592186044416)
    (hSA : ∀ b off, A = some ⟨b, off, none⟩ → 0 < xs.length → S b) (J Jx : List (Bx xs) → World → Prop) (hn : 1 ≤ n) (hSlt : ∀ W W', (∀ k, S k → k < W.heap.size) → Below W.heap.size W W' → Keeps S W W')
    (hJa : ∀ s W W', J s W → Below W.heap.size W W' → J s W')
    (hY : ∀ pre x W, J pre W → pre.length < xs.length → YieldAt Fence.wide (n - 1) Try.prog l (encX xs x) W fun e W' =>
      (e = .returned (.bool true) ∧ J (pre ++ [x]) W' ∧ Keeps S W W') ∨ (e = .returned (.bool false) ∧ Jx (pre ++ [x]) W'))
    (W : World) (hS : ∀ k, S k → k < W.heap.size) (hBs : W.cell? ⟨Bs, 0, none⟩ = some (.slice A xs.length c)) (hx : Cells W A xs) (h0 : J [] W) :
    CallsIn Fence.wide n Try.prog 35 #[.func (.yield l) #[] #[], .pointer (some ⟨Bs, 0, none⟩)] W fun e W' => (∃ v, e = .returned v) ∧
      ((∃ ys, ys = basedTo xs xs.length ∧ J ys W') ∨ (∃ pre, (∃ k, k ≤ xs.length ∧ pre = basedTo xs k) ∧ Jx pre W')) := by
  have Hx := Lib.hid hx
  have HJ0 := Lib.hid h0
  have HSA := Lib.hid hSA
  have HS := Lib.hid hS
  have HSlt := Lib.hid hSlt
  have HJa := Lib.hid hJa
  clear hx h0 hSA hS hSlt hJa
  refine callsIn_of_wp Try.func35 rfl trivial ?_ rfl
  simp only [Try.ntmps35, List.size_toArray, List.length_cons, List.length_nil, Nat.reduceAdd, Nat.reduceSub, Array.replicate_succ, Array.replicate_zero, List.push_toArray, List.append_toArray, List.nil_append, List.cons_append]
  gi_wp2
  refine wpIn_scope_wide ?_
  gi_wp2_with (refine wpIn_label ?_)
  gi_loopw [7] (fun i wr => ∃ k : Nat, k ≤ xs.length ∧ i = .int .i64 k ∧ Hid (J (basedTo xs k) wr) ∧ Hid (Keeps S W wr)) (fun i _ => xs.length - (intOf i).toNat)
  case atStart => exact ⟨0, Nat.zero_le _, rfl, HJ0, Lib.hid (Keeps.refl _ _)⟩
  case round =>
    obtain ⟨k, hk, rfl, hJs, hnx⟩ := hrel
    clear hBs
    by_cases hlt : k < xs.length
    · obtain ⟨x, b, off, hxk, rfl, hc⟩ := Hx.out.get k hlt
      have hc' := hc.keeps hnx.out (HSA.out b off rfl (by omega))
      have C := Lib.hid (based36 x (wr.alloc (.cells x.arr 41)))
      have hnew := Lib.hid (heap_alloc_new wr (.cells x.arr 41))
      have hBa : Hid (Below wr.heap.size wr (wr.alloc (.cells x.arr 41))) := Lib.hid ((Below.refl _ wr).alloc (Nat.le_refl _) _)
      have hSr : ∀ k, S k → k < wr.heap.size := fun k hk => Nat.lt_of_lt_of_le (HS.out k hk) hnx.out.size
      have HSr := Lib.hid hSr
      clear hSr hc
      cases hb : isB x with
      | true =>
        have hin : k < xs.length ∧ isB (xs[k]?.getD default) = true := ⟨hlt, by rw [hxk.out]; exact hb⟩
        have Hin := Lib.hid (basedTo_yes hin)
        rw [hb] at C
        have HYk := Lib.hid (fun W2 (hB : Below wr.heap.size wr W2) => hY (basedTo xs k) ⟨k, hin⟩ W2 (HJa.out _ _ _ hJs.out hB) (by have := basedTo_len xs k; omega))
        have He : Hid (encX xs ⟨k, hin⟩ = #[.int .i64 k, .agg x.arr]) := Lib.hid (by unfold encX; dsimp only; rw [hxk.out])
        clear hb hY
        obtain ⟨node, row, col, rws, cols, mn, mx, high, base, hbb, al⟩ := x
        unfold Cell.arr at *
        obtain ⟨q0, q1, q2, q3, q4, q5, q6, q7, q8, q9, q10⟩ := hc'
        dsimp only at *
        gi_wp2_with (fail)
        refine ⟨trivial, (callsIn_wide.2 C.out).mono ?_⟩
        rintro e w2 ⟨rfl, hb2⟩
        have hk2 := (hb2.block wr.heap.size (by simp)).trans hnew.out
        have hB2 := hBa.out.trans (hb2.mono (by simp))
        have z0 : w2.cell? ⟨wr.heap.size, 0, none⟩ = some (.int .i64 node) := by simp [World.cell?, hk2]
        have z1 : w2.cell? ⟨wr.heap.size, 1, none⟩ = some (.int .i64 row) := by simp [World.cell?, hk2]
        have z2 : w2.cell? ⟨wr.heap.size, 2, none⟩ = some (.int .i64 col) := by simp [World.cell?, hk2]
        have z3 : w2.cell? ⟨wr.heap.size, 3, none⟩ = some (.int .i64 rws) := by simp [World.cell?, hk2]
        have z4 : w2.cell? ⟨wr.heap.size, 4, none⟩ = some (.int .i64 cols) := by simp [World.cell?, hk2]
        have z5 : w2.cell? ⟨wr.heap.size, 5, none⟩ = some (.int .i64 mn) := by simp [World.cell?, hk2]
        have z6 : w2.cell? ⟨wr.heap.size, 6, none⟩ = some (.int .i64 mx) := by simp [World.cell?, hk2]
        have z7 : w2.cell? ⟨wr.heap.size, 7, none⟩ = some (.int .i64 high) := by simp [World.cell?, hk2]
        have z8 : w2.cell? ⟨wr.heap.size, 8, none⟩ = some (.int .i64 base) := by simp [World.cell?, hk2]
        have z9 : w2.cell? ⟨wr.heap.size, 9, none⟩ = some (.bool hbb) := by simp [World.cell?, hk2]
        have z10 : w2.cell? ⟨wr.heap.size, 10, none⟩ = some (.int .i64 al) := by simp [World.cell?, hk2]
        have hnx2 := hnx.out.trans (HSlt.out wr w2 HSr.out hB2)
        obtain ⟨fn, tmps, assign, body, hy, hR⟩ := HYk.out w2 hB2
        have HR := Lib.hid hR
        have Hnx2 := Lib.hid hnx2
        rw [He.out] at hy
        clear hR hnx2 hb2 hk2 hB2 q0 q1 q2 q3 q4 q5 q6 q7 q8 q9 q10
        gi_wp2_with (fail)
        refine HR.out.mono ?_
        rintro e W3 (⟨rfl, hJ3, hk3⟩ | ⟨rfl, hJx3⟩)
        · have HJ3 := Lib.hid hJ3
          have Hk3 := Lib.hid (Hnx2.out.trans hk3)
          clear hJ3 hk3 z0 z1 z2 z3 z4 z5 z6 z7 z8 z9 z10 hy
          gi_wp2
          go_roundw
          case rel => exact ⟨k + 1, by omega, by simp, by rw [Hin.out]; exact HJ3, Hk3⟩
          case measure => simp [intOf]; omega
        · have HJ3 := Lib.hid hJx3
          clear hJx3 z0 z1 z2 z3 z4 z5 z6 z7 z8 z9 z10 hy
          gi_wp2
          rw [Exit.noGoto_ret]
          refine bodyPost_ret (results_none rfl _ _ _) rfl ?_
          exact ⟨⟨_, rfl⟩, .inr ⟨_, ⟨k + 1, by omega, Hin.out.symm⟩, HJ3.out⟩⟩
      | false =>
        have Hno := Lib.hid (basedTo_no (xs := xs) (k := k) (by rw [hxk.out]; exact hb))
        rw [hb] at C
        clear hb hY
        obtain ⟨node, row, col, rws, cols, mn, mx, high, base, hbb, al⟩ := x
        unfold Cell.arr at *
        obtain ⟨q0, q1, q2, q3, q4, q5, q6, q7, q8, q9, q10⟩ := hc'
        dsimp only at *
        gi_wp2_with (fail)
        refine ⟨trivial, (callsIn_wide.2 C.out).mono ?_⟩
        rintro e w2 ⟨rfl, hb2⟩
        have hB2 := hBa.out.trans (hb2.mono (by simp))
        have hnx2 := hnx.out.trans (HSlt.out wr w2 HSr.out hB2)
        have HJ3 : Hid (J (basedTo xs k) w2) := Lib.hid (HJa.out _ _ _ hJs.out hB2)
        have Hnx2 := Lib.hid hnx2
        clear hnx2 hb2 hB2 q0 q1 q2 q3 q4 q5 q6 q7 q8 q9 q10
        gi_wp2
        go_roundw
        case rel => exact ⟨k + 1, by omega, by simp, by rw [Hno.out]; exact HJ3, Hnx2⟩
        case measure => simp [intOf]; omega
    · obtain rfl : k = xs.length := by omega
      clear hY
      gi_wp2
      unfold Exit.noGoto
      go_end0
      exact ⟨⟨_, rfl⟩, .inl ⟨_, rfl, hJs.out⟩⟩

end Go.Proofs.Ytgpcoljgpgamdaa
