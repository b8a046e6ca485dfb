/- Contracts of slices.Values, slices.AppendSeq, slices.Collect at sides: a new slice that holds them. -/
import Derived.Test.YtffnnfdlelaonaaDR
import Derived.Test.YtffnnfdlelaonaaGR
import Derived.Test.YtffnnfdlelaonaaP
namespace Go.Proofs.Ytffnnfdlelaonaa
open Go Go.RowKit Go.Shelf
set_option linter.unusedVariables false
attribute [local go_sem] Oper.semAt_some

theorem side_len : ∀ x : Side, (Side.cells x).length = 6 := fun _ => rfl
theorem side_one : ∀ x : Side, ∀ u ∈ Side.cells x, u.oneCell' = true := fun x u hu => by
  simp only [Side.cells, List.mem_cons, List.not_mem_nil, or_false] at hu
  rcases hu with rfl | rfl | rfl | rfl | rfl | rfl <;> rfl
abbrev MS (w : World) (A : Option Addr) (xs : List Side) : Prop := GR.Many Side.cells 6 w A xs
theorem ms_sides {w : World} {A : Option Addr} {xs : List Side} (h : MS w A xs) : Sides w A xs := fun j hj => by
  obtain ⟨b, off, hA, hat, _⟩ := h j hj
  exact ⟨b, off, hA, hat 0 _ rfl, hat 1 _ rfl, hat 2 _ rfl, hat 3 _ rfl, hat 4 _ rfl, hat 5 _ rfl⟩
theorem sides_ms {w : World} {A : Option Addr} {xs : List Side} (h : Sides w A xs) : MS w A xs := fun j hj => by
  obtain ⟨b, off, hA, hat⟩ := h j hj
  refine ⟨b, off, hA, fun r u hu => ?_, World.block_lt_of_cell? w _ hat.1⟩
  obtain ⟨q0, q1, q2, q3, q4, q5⟩ := hat
  match r, hu with
  | 0, hu => cases hu; exact q0
  | 1, hu => cases hu; exact q1
  | 2, hu => cases hu; exact q2
  | 3, hu => cases hu; exact q3
  | 4, hu => cases hu; exact q4
  | 5, hu => cases hu; exact q5

/-- slices.Values -/
theorem c30 (A : Option Addr) (n c : Nat) (w : World) :
    Calls Try.prog 30 #[.slice A n c] w fun e w' => e = .returned (.func (.func 37) #[] #[.pointer (some ⟨w.heap.size, 0, none⟩)]) ∧ w.alloc (.cells #[.slice A n c] 25) = w' := by
  go_enter Try.func30, Try.ntmps30
  go_wp2
  go_ret
  exact ⟨rfl, rfl⟩

def encV (s : Side) : Array Value := #[.agg s.arr]
set_option maxRecDepth 100000 in
set_option maxHeartbeats 2000000 in
/-- the iterator -/
theorem c37w (n l Bs : Nat) (S : Nat → Prop) (A : Option Addr) (xs : List Side) (c : Nat) (hl : xs.length ≤ 1000) (hc : xs.length ≤ c)
    (hSA : ∀ b off, A = some ⟨b, off, none⟩ → 0 < xs.length → S b) (J Jx : List Side → World → Prop) (hn : 1 ≤ n) (hJa : ∀ s W W', J s W → Below W.heap.size W W' → J s W')
    (hY : ∀ pre x W, J pre W → pre.length < xs.length → YieldAt Fence.wide (n - 1) Try.prog l (encV x) W fun e W' =>
      (e = .returned (.bool true) ∧ J (pre ++ [x]) W' ∧ Keeps S W W') ∨ (e = .returned (.bool false) ∧ Jx (pre ++ [x]) W'))
    (W : World) (hS : ∀ k, S k → k < W.heap.size) (hBs : W.cell? ⟨Bs, 0, none⟩ = some (.slice A xs.length c)) (hx : MS W A xs) (h0 : J [] W) :
    CallsIn Fence.wide n Try.prog 37 #[.func (.yield l) #[] #[], .pointer (some ⟨Bs, 0, none⟩)] W fun e W' => (∃ v, e = .returned v) ∧
      ((∃ ys, ys = xs ∧ J ys W') ∨ (∃ pre, True ∧ Jx pre W')) := by
  have Hx := Lib.hid hx
  have HJ0 := Lib.hid h0
  have HJa := Lib.hid hJa
  have HS := Lib.hid hS
  have HSA := Lib.hid hSA
  clear hx h0 hJa hS hSA
  refine callsIn_of_wp Try.func37 rfl trivial ?_ rfl
  simp only [Try.ntmps37, List.size_toArray, List.length_cons, List.length_nil, Nat.reduceAdd, Nat.reduceSub, Array.replicate_succ, Array.replicate_zero, List.push_toArray, List.append_toArray, List.nil_append, List.cons_append]
  gi_wp2
  clear hBs
  gi_loopw [7] (fun a wr => ∃ k : Nat, k ≤ xs.length ∧ a = .int .i64 k ∧ Hid (J (xs.take k) wr) ∧ Hid (Keeps S W wr)) (fun a _ => xs.length - (intOf a).toNat)
  case atStart => exact ⟨0, Nat.zero_le _, rfl, HJ0, Lib.hid (Keeps.refl _ _)⟩
  case round =>
    obtain ⟨k, hk, rfl, hJk, hnk⟩ := hrel
    by_cases hlt : k < xs.length
    · have ti : decide ((k : Int) < (xs.length : Int)) = true := decide_eq_true (by omega)
      obtain ⟨x, b, off, hxk, rfl, hat, hbl⟩ := Hx.out.get k hlt
      have hat := hat.same (hnk.out.block b (HSA.out b off rfl (by omega)))
      have hnb := Row.new wr x
      have hBb : Below wr.heap.size wr (wr.alloc (.cells x.arr 30)) := (Below.refl _ wr).alloc (Nat.le_refl _) _
      have HJ2 := Lib.hid (HJa.out _ _ _ hJk.out hBb)
      have hK2 : Keeps S W (wr.alloc (.cells x.arr 30)) := hnk.out.trans (Keeps.of_below hBb (fun k hk => Nat.lt_of_lt_of_le (HS.out k hk) hnk.out.size))
      have HK2 := Lib.hid hK2
      have Hin : Hid (xs.take (k + 1) = xs.take k ++ [x]) := Lib.hid (by rw [List.take_add_one, ← hxk.out, List.getElem?_eq_getElem hlt]; rfl)
      have HYk := hY (xs.take k) x _ HJ2.out (by rw [List.length_take]; omega)
      rw [← Hin.out] at HYk
      have Hnb := Lib.hid hnb
      unfold encV at HYk
      obtain ⟨s0, s1, s2, s3, s4, s5⟩ := x
      have q0 : wr.cell? ⟨b, off + k * 6, none⟩ = some (.int .i64 s0) := hat 0 _ rfl
      have q1 : wr.cell? ⟨b, off + k * 6 + 1, none⟩ = some (.int .i64 s1) := hat 1 _ rfl
      have q2 : wr.cell? ⟨b, off + k * 6 + 2, none⟩ = some (.int .u32 s2) := hat 2 _ rfl
      have q3 : wr.cell? ⟨b, off + k * 6 + 3, none⟩ = some (.int .i64 s3) := hat 3 _ rfl
      have q4 : wr.cell? ⟨b, off + k * 6 + 4, none⟩ = some (.int .i64 s4) := hat 4 _ rfl
      have q5 : wr.cell? ⟨b, off + k * 6 + 5, none⟩ = some (.int .i64 s5) := hat 5 _ rfl
      unfold Side.arr at Hnb HJ2 HK2 HYk
      dsimp only at Hnb HJ2 HK2 HYk
      obtain ⟨m0, m1, m2, m3, m4, m5⟩ := Hnb.out.side
      dsimp only at m0 m1 m2 m3 m4 m5
      obtain ⟨fn, tmps, assign, body, hy, hR⟩ := HYk
      have HR := Lib.hid hR
      clear hR hat hnb hBb hK2 hY
      gi_wp2
      refine HR.out.mono ?_
      rintro e W3 (⟨rfl, hJ3, hk3⟩ | ⟨rfl, hJx3⟩)
      · have HJ3 := Lib.hid hJ3
        have Hk3 := Lib.hid (HK2.out.trans hk3)
        clear hJ3 hk3 q0 q1 q2 q3 q4 q5 m0 m1 m2 m3 m4 m5
        gi_wp2
        go_roundw
        case rel => exact ⟨k + 1, by omega, by simp, HJ3, Hk3⟩
        case measure => simp [intOf]; omega
      · have HJ3 := Lib.hid hJx3
        clear hJx3 q0 q1 q2 q3 q4 q5 m0 m1 m2 m3 m4 m5
        gi_wp2
        refine bodyPost_ret (results_none rfl _ _ _) rfl ?_
        exact ⟨⟨_, rfl⟩, .inr ⟨_, trivial, HJ3.out⟩⟩
    · obtain rfl : k = xs.length := by omega
      have ti : decide ((xs.length : Int) < (xs.length : Int)) = false := decide_eq_false (by omega)
      have HJ := Lib.hid (show J xs wr by have := hJk.out; rwa [List.take_length] at this)
      clear hY
      gi_wp2
      go_end0
      exact ⟨⟨_, rfl⟩, .inl ⟨_, rfl, HJ.out⟩⟩

theorem c37_stops (n : Nat) (hn : 1 ≤ n) (Bs : Nat) (S : Nat → Prop) (A : Option Addr) (xs : List Side) (c : Nat) (hl : xs.length ≤ 1000) (hc : xs.length ≤ c)
    (hSA : ∀ b off, A = some ⟨b, off, none⟩ → 0 < xs.length → S b) (w : World) (hS : ∀ k, S k → k < w.heap.size) (hBs : w.cell? ⟨Bs, 0, none⟩ = some (.slice A xs.length c)) (hx : MS w A xs) :
    SeqStopsK Fence.wide n Try.prog 37 #[.pointer (some ⟨Bs, 0, none⟩)] encV (Keeps S) (fun ys => ys = xs) (fun _ => True) xs.length w := fun l J Jx W hW hJ hJx hY h0 => by
  have hc2 : W.cell? ⟨Bs, 0, none⟩ = some (.slice A xs.length c) := (hW.cell (p := ⟨Bs, 0, none⟩) (World.block_lt_of_cell? w _ hBs)).trans hBs
  exact c37w n l Bs S A xs c hl hc hSA J Jx hn (fun s X Y hs hB => hJ s X Y none hs ⟨hB.os, hB.tape, hB.output, hB.size, fun k hk _ => hB.block k hk⟩ (fun r e => by cases e)) hY W (fun k hk => Nat.lt_of_lt_of_le (hS k hk) hW.size) hc2 (hx.below hW) h0

end Go.Proofs.Ytffnnfdlelaonaa
