/- rect.pairs, and the iterator that it gives: pairs of rectangles, in order. -/
import Derived.Test.YtnlojbkjhlhogaaH
import Derived.RangeFuncFrom
import Derived.RangeFuncNested
import Derived.RangeFuncBound
import Derived.RangeFuncCalls
import Derived.RangeFuncLeaves
import Derived.Shelf.Abstract
import Derived.Shelf.RegionOpen
import Derived.OwnWalkIn
import Derived.TacticsInMore
import Derived.LoopNIn
import Derived.LoopIn
namespace Go.Proofs.Ytnlojbkjhlhogaa
open Go Go.RowKit Go.Shelf IV
attribute [local go_sem] Oper.semAt_some
set_option linter.unusedVariables false

theorem c37 (A : Option Addr) (n c : Nat) (w : World) :
    Calls Try.prog 37 #[.slice A n c] w fun e w' => e = .returned (.func (.func 44) #[] #[.pointer (some ⟨w.heap.size, 0, none⟩)]) ∧ w.alloc (.cells #[.slice A n c] 30) = w' := by
  go_enter Try.func37, Try.ntmps37
  go_wp2
  go_ret
  exact ⟨rfl, rfl⟩

/-- blocks of cells are as they were -/
structure KC (W W' : World) : Prop where
  size : W.heap.size ≤ W'.heap.size
  same : ∀ (k : Nat) (c : Array Value) (t : TypeId) (f : Nat × Nat), W.heap[k]? = some (.cells c t f) → W'.heap[k]? = some (.cells c t f)
theorem KC.refl (W : World) : KC W W := ⟨Nat.le_refl _, fun _ _ _ _ h => h⟩
theorem KC.trans {A B C : World} (h : KC A B) (k : KC B C) : KC A C := ⟨Nat.le_trans h.size k.size, fun i c t f e => k.same i c t f (h.same i c t f e)⟩
theorem KC.of_below {W W' : World} (h : Below W.heap.size W W') : KC W W' := ⟨h.size, fun k c t f e => (h.block k (Array.getElem?_eq_some_iff.1 e).1).trans e⟩
theorem KC.cell {W W' : World} (h : KC W W') {p : Addr} {v : Value} (hp : p.spot = none) (hc : W.cell? p = some v) : W'.cell? p = some v := by
  unfold World.cell? at hc ⊢
  cases hb : W.heap[p.block]? with
  | none => rw [hb] at hc; simp at hc
  | some o =>
    cases o with
    | cells c t f => rw [h.same _ _ _ _ hb]; rw [hb] at hc; exact hc
    | _ => rw [hb] at hc; simp at hc
theorem KC.putObj (W : World) (l : Nat) (o o' : Obj) (hl : W.heap[l]? = some o) (ho : o.isCells = false) : KC W (W.putObj l o') := by
  refine ⟨by simp [World.putObj], fun k c t f e => ?_⟩
  by_cases hk : k = l
  · subst hk; rw [hl] at e; cases e; cases ho
  · have hg := grownBy_putObj' W l o'
    exact (hg.block k (Array.getElem?_eq_some_iff.1 e).1 (fun e' => hk (by cases e'; rfl))).trans e
theorem RectAt.kc {W W' : World} {b o : Nat} {r : Rect} (h : RectAt W b o r) (k : KC W W') : RectAt W' b o r :=
  ⟨k.cell rfl h.1, k.cell rfl h.2.1, k.cell rfl h.2.2.1, k.cell rfl h.2.2.2⟩
theorem Rects.kc {W W' : World} {A : Option Addr} {l : List Rect} (h : Rects W A l) (k : KC W W') : Rects W' A l := fun j hj =>
  let ⟨b, off, hA, hc⟩ := h j hj
  ⟨b, off, hA, hc.kc k⟩

def pairRow (l : List Rect) (i : Nat) : Nat → List (Rect × Rect)
  | 0 => []
  | k + 1 => pairRow l i k ++ [(l[i]?.getD default, l[k]?.getD default)]
def pairTo (l : List Rect) : Nat → List (Rect × Rect)
  | 0 => []
  | i + 1 => pairTo l i ++ pairRow l i i
theorem pairRow_len (l : List Rect) (i : Nat) : ∀ k, (pairRow l i k).length = k
  | 0 => rfl
  | k + 1 => by rw [pairRow, List.length_append, pairRow_len l i k]; rfl
theorem pairTo_len (l : List Rect) : ∀ i, (pairTo l i).length ≤ i * i
  | 0 => by simp [pairTo]
  | i + 1 => by
    have := pairTo_len l i
    rw [pairTo, List.length_append, pairRow_len, Nat.mul_succ, Nat.succ_mul]; omega
theorem pairRow_mem {l : List Rect} {i : Nat} {p : Rect × Rect} : ∀ {k}, p ∈ pairRow l i k ↔ ∃ q, q < k ∧ p = (l[i]?.getD default, l[q]?.getD default)
  | 0 => by simp [pairRow]
  | k + 1 => by
    rw [pairRow, List.mem_append, pairRow_mem, List.mem_singleton]
    constructor
    · rintro (⟨q, h1, h2⟩ | h)
      · exact ⟨q, by omega, h2⟩
      · exact ⟨k, by omega, h⟩
    · rintro ⟨q, h1, h2⟩
      by_cases e : q = k
      · subst e; exact .inr h2
      · exact .inl ⟨q, by omega, h2⟩
theorem pairTo_mem {l : List Rect} {p : Rect × Rect} : ∀ {n}, p ∈ pairTo l n ↔ ∃ i q, q < i ∧ i < n ∧ p = (l[i]?.getD default, l[q]?.getD default)
  | 0 => by simp [pairTo]
  | n + 1 => by
    rw [pairTo, List.mem_append, pairTo_mem, pairRow_mem]
    constructor
    · rintro (⟨i, q, h1, h2, h3⟩ | ⟨q, h1, h2⟩)
      · exact ⟨i, q, h1, by omega, h3⟩
      · exact ⟨n, q, h1, by omega, h2⟩
    · rintro ⟨i, q, h1, h2, h3⟩
      by_cases e : i = n
      · subst e; exact .inr ⟨q, h1, h3⟩
      · exact .inl ⟨i, q, h1, by omega, h3⟩
def encP (p : Rect × Rect) : Array Value := #[.agg p.1.arr, .agg p.2.arr]

set_option maxRecDepth 100000 in
set_option maxHeartbeats 2000000 in
/-- the iterator -/
theorem c44w (n lp Bs : Nat) (A : Option Addr) (xs : List Rect) (c : Nat) (hl : xs.length ≤ 1000) (hc : xs.length ≤ c) (J Jx : List (Rect × Rect) → World → Prop) (hn : 1 ≤ n)
    (hJa : ∀ s W W', J s W → Below W.heap.size W W' → J s W')
    (hY : ∀ pre x W, J pre W → pre.length < xs.length * xs.length → YieldAt Fence.wide (n - 1) Try.prog lp (encP x) W fun e W' =>
      (e = .returned (.bool true) ∧ J (pre ++ [x]) W' ∧ KC W W') ∨ (e = .returned (.bool false) ∧ Jx (pre ++ [x]) W'))
    (W : World) (hBs : W.cell? ⟨Bs, 0, none⟩ = some (.slice A xs.length c)) (hx : Rects W A xs) (h0 : J [] W) :
    CallsIn Fence.wide n Try.prog 44 #[.func (.yield lp) #[] #[], .pointer (some ⟨Bs, 0, none⟩)] W fun e W' => (∃ v, e = .returned v) ∧
      ((∃ ys, ys = pairTo xs xs.length ∧ J ys W') ∨ (∃ pre, (∃ i k, i < xs.length ∧ k < i ∧ pre = pairTo xs i ++ pairRow xs i (k + 1)) ∧ Jx pre W')) := by
  have Hx := Lib.hid hx
  have HBs := Lib.hid hBs
  have HJ0 := Lib.hid h0
  have HJa := Lib.hid hJa
  clear hx h0 hJa
  refine callsIn_of_wp Try.func44 rfl trivial ?_ rfl
  simp only [Try.ntmps44, List.size_toArray, List.length_cons, List.length_nil, Nat.reduceAdd, Nat.reduceSub, Array.replicate_succ, Array.replicate_zero, List.push_toArray, List.append_toArray, List.nil_append, List.cons_append]
  gi_wp2
  clear hBs
  gi_loopw [9] (fun a wr => ∃ i : Nat, i ≤ xs.length ∧ a = .int .i64 i ∧ Hid (J (pairTo xs i) wr) ∧ Hid (KC W wr)) (fun a _ => xs.length - (intOf a).toNat)
  case atStart => exact ⟨0, Nat.zero_le _, rfl, HJ0, Lib.hid (KC.refl _)⟩
  case round =>
    obtain ⟨i, hi, rfl, hJi, hni⟩ := hrel
    by_cases hlt : i < xs.length
    · have ti : decide ((i : Int) < (xs.length : Int)) = true := decide_eq_true (by omega)
      obtain ⟨a, b, off, hai, rfl, hca⟩ := (Hx.out.kc hni.out).get i hlt
      have hbs1 := hni.out.cell rfl HBs.out
      have hnew := Lib.hid (show RRow (wr.alloc (.cells a.arr 23)) wr.heap.size a from RRow.new wr a)
      have hBa : Hid (Below wr.heap.size wr (wr.alloc (.cells a.arr 23))) := Lib.hid ((Below.refl _ wr).alloc (Nat.le_refl _) _)
      obtain ⟨x, y, u, v⟩ := a
      obtain ⟨q0, q1, q2, q3⟩ := hca
      unfold Rect.arr at hnew hBa
      dsimp only at q0 q1 q2 q3 hnew hBa
      have hbs2 := Lib.cell?_alloc_some (.cells #[.int .i64 x, .int .i64 y, .int .i64 u, .int .i64 v] 23) hbs1
      gi_wp2_with (fail)
      have HJ1 : Hid (J (pairTo xs i ++ pairRow xs i 0) (wr.alloc (.cells #[.int .i64 x, .int .i64 y, .int .i64 u, .int .i64 v] 23))) := Lib.hid (by rw [pairRow, List.append_nil]; exact HJa.out _ _ _ hJi.out hBa.out)
      have HK1 := Lib.hid (hni.out.trans (KC.of_below hBa.out))
      clear hbs1 hbs2 q0 q1 q2 q3 hJi hni hBa
      generalize hw1 : wr.alloc (.cells #[.int .i64 x, .int .i64 y, .int .i64 u, .int .i64 v] 23) = w1 at *
      generalize wr.heap.size = Ba at *
      clear hw1
      gi_loopw [18] (fun a w2 => ∃ k : Nat, k ≤ i ∧ a = .int .i64 k ∧ Hid (J (pairTo xs i ++ pairRow xs i k) w2) ∧ Hid (KC w1 w2)) (fun a _ => i - (intOf a).toNat)
      case atStart => exact ⟨0, Nat.zero_le _, rfl, HJ1, Lib.hid (KC.refl _)⟩
      case round =>
        obtain ⟨k, hk, rfl, hJk, hnk⟩ := hrel
        by_cases hlk : k < i
        · have tk : decide ((k : Int) < (i : Int)) = true := decide_eq_true (by omega)
          obtain ⟨a2, b2, off2, hak, hA2, hcb⟩ := (Hx.out.kc (HK1.out.trans hnk.out)).get k (by omega)
          cases hA2
          have hra : RRow wr Ba ⟨x, y, u, v⟩ := ⟨hnk.out.same _ _ _ _ hnew.out.at_⟩
          have Hin : Hid (pairRow xs i (k + 1) = pairRow xs i k ++ [(⟨x, y, u, v⟩, a2)]) := Lib.hid (by rw [pairRow, hai.out, hak.out])
          have hnb := RRow.new wr a2
          have hBb : Below wr.heap.size wr (wr.alloc (.cells a2.arr 23)) := (Below.refl _ wr).alloc (Nat.le_refl _) _
          have hra2 := hra.turn hBb
          have HJ2 := Lib.hid (HJa.out _ _ _ hJk.out hBb)
          have HK2 := Lib.hid (hnk.out.trans (KC.of_below hBb))
          have hmul : i * i ≤ i * xs.length := Nat.mul_le_mul_left _ (by omega)
          have hmul2 : (i + 1) * xs.length ≤ xs.length * xs.length := Nat.mul_le_mul_right _ (by omega)
          have hpl := pairTo_len xs i
          rw [Nat.succ_mul] at hmul2
          have HYk := hY (pairTo xs i ++ pairRow xs i k) (⟨x, y, u, v⟩, a2) _ HJ2.out (by rw [List.length_append, pairRow_len]; omega)
          rw [List.append_assoc, ← Hin.out] at HYk
          have Hra2 := Lib.hid hra2
          have Hnb := Lib.hid hnb
          unfold encP at HYk
          obtain ⟨x', y', u', v'⟩ := a2
          obtain ⟨q0, q1, q2, q3⟩ := hcb
          unfold Rect.arr at Hnb Hra2 HJ2 HK2 HYk
          dsimp only at q0 q1 q2 q3 Hnb Hra2 HJ2 HK2 HYk
          have hbl := hra.lt
          have m0 : (wr.alloc (.cells #[.int .i64 x', .int .i64 y', .int .i64 u', .int .i64 v'] 23)).cell? ⟨Ba, 0, none⟩ = some (.int .i64 x) := Hra2.out.cells.1
          have m1 : (wr.alloc (.cells #[.int .i64 x', .int .i64 y', .int .i64 u', .int .i64 v'] 23)).cell? ⟨Ba, 1, none⟩ = some (.int .i64 y) := Hra2.out.cells.2.1
          have m2 : (wr.alloc (.cells #[.int .i64 x', .int .i64 y', .int .i64 u', .int .i64 v'] 23)).cell? ⟨Ba, 2, none⟩ = some (.int .i64 u) := Hra2.out.cells.2.2.1
          have m3 : (wr.alloc (.cells #[.int .i64 x', .int .i64 y', .int .i64 u', .int .i64 v'] 23)).cell? ⟨Ba, 3, none⟩ = some (.int .i64 v) := Hra2.out.cells.2.2.2
          obtain ⟨fn, tmps, assign, body, hy, hR⟩ := HYk
          have HR := Lib.hid hR
          clear hR hra hnb hBb hra2 hmul hmul2 hpl hJk hnk
          gi_wp2_with (fail)
          refine HR.out.mono ?_
          rintro e W3 (⟨rfl, hJ3, hk3⟩ | ⟨rfl, hJx3⟩)
          · have HJ3 := Lib.hid hJ3
            have Hk3 := Lib.hid (HK2.out.trans hk3)
            clear hJ3 hk3 m0 m1 m2 m3 q0 q1 q2 q3 hy
            gi_wp2
            go_roundw
            case rel => exact ⟨k + 1, by omega, by simp, HJ3, Hk3⟩
            case measure => simp [intOf]; omega
          · have HJ3 := Lib.hid hJx3
            clear hJx3 m0 m1 m2 m3 q0 q1 q2 q3 hy
            gi_wp2
            refine bodyPost_ret (results_none rfl _ _ _) rfl ?_
            exact ⟨⟨_, rfl⟩, .inr ⟨_, ⟨i, k, hlt, hlk, rfl⟩, HJ3.out⟩⟩
        · obtain rfl : k = i := by omega
          have tk : decide ((k : Int) < (k : Int)) = false := decide_eq_false (by omega)
          have HJ3 : Hid (J (pairTo xs (k + 1)) wr) := hJk
          have Hk3 := Lib.hid (HK1.out.trans hnk.out)
          gi_wp2
          go_roundw
          case rel => exact ⟨k + 1, by omega, by simp, HJ3, Hk3⟩
          case measure => simp [intOf]; omega
    · obtain rfl : i = xs.length := by omega
      have ti : decide ((xs.length : Int) < (xs.length : Int)) = false := decide_eq_false (by omega)
      gi_wp2
      go_end0
      exact ⟨⟨_, rfl⟩, .inl ⟨_, rfl, hJi.out⟩⟩

end Go.Proofs.Ytnlojbkjhlhogaa
