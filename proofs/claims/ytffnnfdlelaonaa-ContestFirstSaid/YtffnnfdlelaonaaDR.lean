/- Contract of contest.order that tells also that no draw is taken back; and a law of a range over a function that tells of the world what one likes. -/
import Derived.Test.YtffnnfdlelaonaaD
import Derived.Sort.Grow
namespace Go.Proofs.Ytffnnfdlelaonaa.DR
open Go Go.RowKit Go.Shelf
set_option linter.unusedVariables false
attribute [local go_sem] Oper.semAt_some

structure BD (B : Nat) (w w' : World) : Prop extends Below B w w' where
  drawn : w.drawn ≤ w'.drawn
theorem BD.refl (B : Nat) (w : World) : BD B w w := ⟨Below.refl _ _, Nat.le_refl _⟩
theorem BD.trans {B : Nat} {a b c : World} (h : BD B a b) (k : BD B b c) : BD B a c := ⟨h.toBelow.trans k.toBelow, Nat.le_trans h.drawn k.drawn⟩
theorem BD.mono {B B' : Nat} {w w' : World} (h : BD B w w') (hB : B' ≤ B) : BD B' w w' := ⟨h.toBelow.mono hB, h.drawn⟩
theorem BD.drew {B : Nat} {a w : World} (h : BD B a w) : BD B a w.drew := ⟨h.toBelow.drew, Nat.le_trans h.drawn (Nat.le_succ _)⟩
theorem BD.alloc {B : Nat} {a w : World} (h : BD B a w) (hB : B ≤ w.heap.size) (o : Obj) : BD B a (w.alloc o) := ⟨h.toBelow.alloc hB o, h.drawn⟩
theorem BD.setCell {B : Nat} {a w : World} (h : BD B a w) {p : Addr} (hp : B ≤ p.block) (u : Value) : BD B a (w.setCell p u) := ⟨h.toBelow.setCell hp u, h.drawn⟩
theorem bdK_b {n₀ : Nat} {w : World} (hn : n₀ ≤ w.heap.size) (W : World) (l : Nat) (o o' : Obj) (hl : w.heap.size ≤ l) (h : W.heap[l]? = some o) (h1 : o.isCells = false) (h2 : o.isWalk = false) : BD n₀ W (W.putObj l o') := ⟨belowK_b hn W l o o' hl h h1 h2, Nat.le_refl _⟩

section
variable {F : Fence} {n : Nat} {P : Program}
/-- an iterator that asks of the world what the caller's invariant tells, and leaves the world as the rounds left it -/
def SeqFree {α : Type} (F : Fence) (n : Nat) (P : Program) (g : Nat) (lb : Array Value) (encs : α → Array Value) (Kp : World → Prop) (S Sp : List α → Prop) (N : Nat) : Prop :=
  ∀ (l : Nat) (J Jx : List α → World → Prop) (W : World), (∀ pre W1, J pre W1 → Kp W1) →
    (∀ pre x W1, J pre W1 → pre.length < N → YieldAt F (n - 1) P l (encs x) W1 fun e W' => (e = .returned (.bool true) ∧ J (pre ++ [x]) W') ∨ (e = .returned (.bool false) ∧ Jx (pre ++ [x]) W')) →
    J [] W → CallsIn F n P g (#[.func (.yield l) #[] #[]] ++ lb) W fun e W' => (∃ v, e = .returned v) ∧ ((∃ xs, S xs ∧ J xs W') ∨ ∃ pre, Sp pre ∧ Jx pre W')
/-- how a round may end -/
def freePost {α : Type} (B : Nat) (I : List α → World → Prop) (Ix : Code → List α → World → Prop) (xs : List α) (W : World) : Exit → Act → World → Prop
  | .normal, _, W' => KeepsFrom B W W' ∧ I xs W'
  | .ret, _, W' => KeepsFrom B W W' ∧ Ix .ret xs W'
  | .exit id, _, W' => KeepsFrom B W W' ∧ Ix (.exit id) xs W'
  | .goto t, _, W' => KeepsFrom B W W' ∧ Ix (.goto t) xs W'
  | .panic _, _, _ => False
  | .outgrown, _, _ => False
theorem wpIn_rangeFunc_free {α : Type} {g : Operand} {ps : Array Tmp} {assign body : Code} {Q : Exit → Act → World → Prop} {a : Act} {w : World}
    (hro : F.round = none) (h1 : 1 ≤ n) {gf : Nat} {lb : Array Value} (hg : a.eval g = .func (.func gf) #[] lb) (hFg : F.fn gf) (eg : ∀ args w, (callFunc gf args).run P w = .ok (.enter gf args) w)
    {encs : α → Array Value} {Kp : World → Prop} {S Sp : List α → Prop} {N : Nat} (hseq : SeqFree F (n - 1) P gf lb encs Kp S Sp N) (hps : ∀ x, (encs x).size = ps.size)
    (I : List α → World → Prop) (Ix : Code → List α → World → Prop) (hIK : ∀ pre W, I pre W → Kp W)
    (hI : ∀ s W l o', I s W → w.heap.size ≤ l → (∃ r, W.heap[l]? = some (.loop r)) → I s (W.putObj l o')) (hIx : ∀ c s W l o', Ix c s W → w.heap.size ≤ l → (∃ r, W.heap[l]? = some (.loop r)) → Ix c s (W.putObj l o'))
    (h0 : ∀ r, I [] ((w.alloc (.deferred (some []))).alloc (.loop r))) (a₁ : α → Act)
    (hassign : ∀ (l : Nat) (x : α) (W : World) (K : Act → World → Prop), K (a₁ x) W →
      assign.wpIn (F.inRound l) (n - 1 - 1) P (Exit.then K (fun _ _ _ => False)) { tmps := (ps.zip (encs x)).foldl (fun t (p, v) => t.setIfInBounds p v) a.tmps, defers := [] } W)
    (hbody : ∀ (l : Nat) (pre : List α) (x : α) (W : World), I pre W → pre.length < N → body.wpIn (F.inRound l) (n - 1 - 1) P (freePost w.heap.size I Ix (pre ++ [x]) W) (a₁ x) W)
    (hdone : ∀ (D : Nat) (xs : List α) (W : World), w.heap.size ≤ D → S xs → I xs W → W.heap[D]? = some (.deferred (some [])) → Q .normal { a with defers := { target := .collected D, args := #[] } :: a.defers } W)
    (hstop : ∀ (D : Nat) (c : Code) (pre : List α) (W : World), w.heap.size ≤ D → Sp pre → Ix c pre W → W.heap[D]? = some (.deferred (some [])) → c.wpIn F n P Q { a with defers := { target := .collected D, args := #[] } :: a.defers } W) :
    (Code.rangeFunc g ps assign body).wpIn F n P Q a w := by
  refine wpIn_rangeFunc fun fn hfn => ?_
  rw [hro]
  -- the two blocks of the loop's own: where deferred calls gather (D), the loop's record (L)
  obtain ⟨D, hD⟩ : ∃ D, D = w.heap.size := ⟨_, rfl⟩
  obtain ⟨rec, hrec⟩ : ∃ rec : LoopState → Option Code → Loop, rec = fun st pe => { state := st, pending := pe, fn, tmps := a.tmps, params := ps, assign, body, defers := w.heap.size } := ⟨_, rfl⟩
  obtain ⟨W1, hW1⟩ : ∃ W1, (w.alloc (.deferred (some []))).alloc (.loop (rec .ready none)) = W1 := ⟨_, rfl⟩
  have hL : W1.heap[D + 1]? = some (.loop (rec .ready none)) := by
    have h := World.alloc_heap_new (w.alloc (.deferred (some []))) (.loop (rec .ready none))
    rw [World.size_alloc, hW1, ← hD] at h; exact h
  have hK : W1.heap[D]? = some (.deferred (some [])) := by
    rw [← hW1, hD]; exact (Below.heap_alloc _ _ _ (by simp)).trans (World.alloc_heap_new w _)
  have hI1 : I [] W1 := by rw [← hW1]; exact h0 _
  -- of D and L: as they stand between rounds
  obtain ⟨At, hAt⟩ : ∃ At : LoopState → Option Code → World → Prop, At = fun st pe W => W.heap[D + 1]? = some (.loop (rec st pe)) ∧ W.heap[D]? = some (.deferred (some [])) := ⟨_, rfl⟩
  have put : ∀ {W : World} {st st' : LoopState} {pe pe' : Option Code}, At st pe W → At st' pe' (W.putObj (D + 1) (.loop (rec st' pe'))) := fun {W st st' pe pe'} h => by
    rw [hAt] at h ⊢
    exact ⟨World.putObj_heap_same (Array.getElem?_eq_some_iff.1 h.1).1, (World.putObj_heap_other (by omega)).trans h.2⟩
  have hA1 : At .ready none W1 := by rw [hAt]; exact ⟨hL, hK⟩
  refine ⟨D + 1, [{ target := .collected D, args := #[] }], W1, { target := .fn (.func gf) lb, args := #[.func (.yield (D + 1)) #[] #[]] }, W1, gf, #[.func (.yield (D + 1)) #[] #[]] ++ lb, W1, ?_, ?_, ?_, ?_, fun _ => h1, ?_⟩
  · rw [hD, ← hW1, hrec]; exact run_enterLoop_outer _ _ _ _ _
  · simp only [resolve, hg]
    simp [go_sem]
  · intro f' hf'; simp [Target.leads] at hf'; subst hf'; exact hFg
  · simp [invoke, go_sem, eg]
  refine (hseq (D + 1) (fun pre W => I pre W ∧ At .ready none W) (fun pre W => ∃ c, Ix c pre W ∧ At .done (some c) W) W1 (fun pre W h => hIK pre W h.1) ?_ ⟨hI1, hA1⟩).mono ?_
  · rintro pre x W ⟨hi, hat⟩ hlen
    have hl : W.heap[D + 1]? = some (.loop (rec .ready none)) := by rw [hAt] at hat; exact hat.1
    have hy := run_yield (P := P) (args := encs x) hl (by rw [hrec]; exact hps x)
    rw [hrec] at hy
    refine ⟨fn, _, assign, body, hy, roundIn_of_wpIn hfn (hassign _ x W _ ⟨_, run_beginRound hl (by rw [hrec]), ?_⟩)⟩
    have hb := put (st' := .busy) (pe' := none) hat
    refine wpIn_mono (hbody _ pre x _ (hI _ _ _ _ hi (by omega) ⟨_, hl⟩) hlen) ?_
    have close : ∀ (jump : Option Code) (W3 : World), KeepsFrom w.heap.size (W.putObj (D + 1) (.loop (rec .busy none))) W3 →
        At .busy none W3 ∧ (Instr.endRound (D + 1) jump).run P W3 = .ok (.bool jump.isNone) (W3.putObj (D + 1) (.loop (rec (if jump.isNone then .ready else .done) jump))) := fun jump W3 hk => by
      have h3 : At .busy none W3 := by
        rw [hAt] at hb ⊢
        exact ⟨hk.same _ _ (by omega) hb.1 rfl, hk.same _ _ (by omega) hb.2 rfl⟩
      have h4 : W3.heap[D + 1]? = some (.loop (rec .busy none)) := by rw [hAt] at h3; exact h3.1
      have h5 := run_endRound (P := P) jump (by rw [hrec] at h4; exact h4)
      rw [hrec]
      exact ⟨h3, h5⟩
    have hb' : (W.putObj (D + 1) (.loop { rec .ready none with state := .busy })) = W.putObj (D + 1) (.loop (rec .busy none)) := by rw [hrec]
    have out : ∀ (c : Code) (W3 : World), KeepsFrom w.heap.size (W.putObj (D + 1) (.loop (rec .busy none))) W3 → Ix c (pre ++ [x]) W3 →
        (Instr.endRound (D + 1) (some c)).run P W3 = .ok (.bool false) (W3.putObj (D + 1) (.loop (rec .done (some c)))) ∧ Ix c (pre ++ [x]) (W3.putObj (D + 1) (.loop (rec .done (some c)))) ∧ At .done (some c) (W3.putObj (D + 1) (.loop (rec .done (some c)))) := fun c W3 hk hx => by
      obtain ⟨h3, h5⟩ := close (some c) W3 hk
      exact ⟨h5, hIx _ _ _ _ _ hx (by omega) ⟨_, by rw [hAt] at h3; exact h3.1⟩, put h3⟩
    rintro e a3 W3 hp
    cases e with
    | normal =>
      obtain ⟨hk, hi3⟩ := hp
      obtain ⟨h3, h5⟩ := close none W3 (hb' ▸ hk)
      exact ⟨_, _, h5, .inl ⟨rfl, hI _ _ _ _ hi3 (by omega) ⟨_, by rw [hAt] at h3; exact h3.1⟩, put h3⟩⟩
    | ret => obtain ⟨h5, h6, h7⟩ := out .ret W3 (hb' ▸ hp.1) hp.2; exact ⟨_, _, h5, .inr ⟨rfl, .ret, h6, h7⟩⟩
    | exit id => obtain ⟨h5, h6, h7⟩ := out (.exit id) W3 (hb' ▸ hp.1) hp.2; exact ⟨_, _, h5, .inr ⟨rfl, .exit id, h6, h7⟩⟩
    | goto t => obtain ⟨h5, h6, h7⟩ := out (.goto t) W3 (hb' ▸ hp.1) hp.2; exact ⟨_, _, h5, .inr ⟨rfl, .goto t, h6, h7⟩⟩
    | panic ch => exact hp.elim
    | outgrown => exact hp.elim
  · rintro e W2 ⟨⟨v, rfl⟩, ⟨xs, hS, hi, hat⟩ | ⟨pre, hSp, c, hi, hat⟩⟩
    · have hl : W2.heap[D + 1]? = some (.loop (rec .ready none)) := by rw [hAt] at hat; exact hat.1
      have he := run_endLoop (P := P) hl (by rw [hrec]; simp)
      rw [hrec] at he
      refine ⟨none, _, he, ?_⟩
      exact hdone D xs _ (by omega) hS (hI _ _ _ _ hi (by omega) ⟨_, hl⟩) ((World.putObj_heap_other (by omega)).trans (by rw [hAt] at hat; exact hat.2))
    · have hl : W2.heap[D + 1]? = some (.loop (rec .done (some c))) := by rw [hAt] at hat; exact hat.1
      have he := run_endLoop (P := P) hl (by rw [hrec]; simp)
      rw [hrec] at he
      refine ⟨some c, _, he, ?_⟩
      exact hstop D c pre _ (by omega) hSp (hIx _ _ _ _ _ hi (by omega) ⟨_, hl⟩) ((World.putObj_heap_other (by omega)).trans (by rw [hAt] at hat; exact hat.2))
end

/-- steps' closure -/
theorem c39f (F : Fence) (n : Nat) (h39 : F.fn 39) (hro : F.round = none) (hn : 1 ≤ n) (Ba Bb : Nat) (r0 r1 r2 r3 r4 r5 r6 r7 q0 q1 q2 q3 q4 q5 q6 q7 : Int) :
    SeqFree F n Try.prog 39 #[.pointer (some ⟨Ba, 0, none⟩), .pointer (some ⟨Bb, 0, none⟩)] encP (fun W => W.heap[Ba]? = some (.cells #[.int .i64 r0, .int .i64 r1, .int .i64 r2, .int .i64 r3, .int .i64 r4, .int .i64 r5, .int .i64 r6, .int .i64 r7] 59 (0, 0)) ∧ W.heap[Bb]? = some (.cells #[.int .i64 q0, .int .i64 q1, .int .i64 q2, .int .i64 q3, .int .i64 q4, .int .i64 q5, .int .i64 q6, .int .i64 q7] 59 (0, 0)))
      (fun ys => ys = upto (pair [r0, r1, r2, r3, r4, r5, r6, r7] [q0, q1, q2, q3, q4, q5, q6, q7]) 8) (fun pre => ∃ k, k ≤ 8 ∧ pre = upto (pair [r0, r1, r2, r3, r4, r5, r6, r7] [q0, q1, q2, q3, q4, q5, q6, q7]) k) 8 := by
  intro l J Jx W hJK hY h0
  obtain ⟨c0, c1, c2, c3, c4, c5, c6, c7⟩ := cells8 (hJK _ _ h0).1
  have HJ0 := Lib.hid h0
  have HJK := Lib.hid hJK
  have HY := Lib.hid hY
  clear h0 hJK hY
  refine callsIn_of_wp Try.func39 rfl h39 ?_ hro
  simp only [Try.ntmps39, List.size_toArray, List.length_cons, List.length_nil, Nat.reduceAdd, Nat.reduceSub, Array.replicate_succ, Array.replicate_zero, List.push_toArray, List.append_toArray, List.nil_append, List.cons_append]
  gi_wp2
  gi_loopw [7] (fun i wr => ∃ k : Nat, k ≤ 8 ∧ i = .int .i64 k ∧ Hid (J (upto (pair [r0, r1, r2, r3, r4, r5, r6, r7] [q0, q1, q2, q3, q4, q5, q6, q7]) k) wr)) (fun i _ => 8 - (intOf i).toNat)
  case atStart => exact ⟨0, Nat.zero_le _, rfl, HJ0⟩
  case round =>
    clear c0 c1 c2 c3 c4 c5 c6 c7
    obtain ⟨k, hk, rfl, hJs⟩ := hrel
    by_cases hlt : k < 8
    · have hi := idx59 r0 r1 r2 r3 r4 r5 r6 r7 k hlt
      have hc := cell8 q0 q1 q2 q3 q4 q5 q6 q7 (HJK.out _ _ hJs.out).2 k hlt
      obtain ⟨fn, tmps, assign, body, hy, hR⟩ := HY.out _ (pair [r0, r1, r2, r3, r4, r5, r6, r7] [q0, q1, q2, q3, q4, q5, q6, q7] k) wr hJs.out (by rw [upto_length]; exact hlt)
      have HR := Lib.hid hR
      clear hR
      dsimp only [encP, pair] at hy
      generalize nth [r0, r1, r2, r3, r4, r5, r6, r7] k = x at *
      generalize nth [q0, q1, q2, q3, q4, q5, q6, q7] k = y at *
      gi_wp2
      refine HR.out.mono ?_
      rintro e W3 (⟨rfl, hJ3⟩ | ⟨rfl, hJx3⟩)
      · have HJ3 := Lib.hid hJ3
        clear hJ3 hc
        gi_wp2
        go_roundw
        case rel => exact ⟨k + 1, by omega, by simp, by rw [upto_succ]; exact HJ3⟩
        case measure => simp [intOf]; omega
      · have HJ3 := Lib.hid hJx3
        clear hJx3 hc
        gi_wp2
        refine bodyPost_ret (results_none rfl _ _ _) rfl ?_
        exact ⟨⟨_, rfl⟩, .inr ⟨_, ⟨k + 1, by omega, (upto_succ _ _).symm⟩, HJ3.out⟩⟩
    · obtain rfl : k = 8 := by omega
      gi_wp2
      go_end0
      exact ⟨⟨_, rfl⟩, .inl ⟨_, rfl, hJs.out⟩⟩

def OrdI (w : World) (B : Nat) (b : Nat) (R Q : Obj) (pre : List (Int × Int)) (W : World) : Prop := Boxed W B 3 (.int .i64 1) ∧ BD w.heap.size w W ∧ AllEq pre ∧ W.heap[b]? = some R ∧ W.heap[b + 1]? = some Q
def OrdX (w : World) (B : Nat) (c : Code) (pre : List (Int × Int)) (W : World) : Prop := c = .exit 0 ∧ ∃ ini x y v, pre = ini ++ [(x, y)] ∧ AllEq ini ∧ x ≠ y ∧ v = (if x < y then (-1 : Int) else 1) ∧ Boxed W B 3 (.int .i64 v) ∧ BD w.heap.size w W
theorem boxed_put {W : World} {B l : Nat} {t : TypeId} {v : Value} {o' : Obj} (h : Boxed W B t v) (hl : B ≠ l) : Boxed (W.putObj l o') B t v := (World.putObj_heap_other hl).trans h
theorem bd_put {w W : World} {C l : Nat} {o' : Obj} (h : BD w.heap.size w W) (hC : w.heap.size ≤ C) (hl : C ≤ l) (hr : ∃ r, W.heap[l]? = some (.loop r)) : BD w.heap.size w (W.putObj l o') := by
  obtain ⟨r, hr⟩ := hr
  refine ⟨h.toBelow.trans ⟨rfl, rfl, rfl, (grownBy_putObj' W l o').size, fun k hk => World.putObj_heap_other (by omega)⟩, h.drawn⟩

/-- what holds between the operations of order's second statement -/
def OrdInv (W0 : World) (b2 b3 : Nat) (sa ta R Q : Array Value) (done : Nat → Bool) (a : Act) (W : World) : Prop :=
  ∃ v5 v6 v10 v11 v12 v13 : Value, a = { tmps := #[.agg sa, .agg ta, .pointer (some ⟨b2, 0, none⟩), .pointer (some ⟨b3, 0, none⟩), .int .i64 0, v5, v6, undef, undef, undef, v10, v11, v12, v13, undef, undef, undef, undef, undef, undef, undef, undef, undef, undef, undef, undef, undef, undef, undef], defers := [] } ∧
    BD W0.heap.size W0 W ∧ (done 0 = true → v10 = .agg sa) ∧ (done 1 = true → v11 = .agg R) ∧ (done 2 = true → v12 = .agg ta) ∧ (done 3 = true → v13 = .agg Q) ∧
    (done 4 = true → ∃ B, v5 = .pointer (some ⟨B, 0, none⟩) ∧ W0.heap.size ≤ B ∧ W.heap[B]? = some (.cells (if done 6 then R else #[.int .i64 0, .int .i64 0, .int .i64 0, .int .i64 0, .int .i64 0, .int .i64 0, .int .i64 0, .int .i64 0]) 59 (0, 0)) ∧ (done 5 = true → v6 ≠ .pointer (some ⟨B, 0, none⟩))) ∧
    (done 5 = true → ∃ B, v6 = .pointer (some ⟨B, 0, none⟩) ∧ W0.heap.size ≤ B ∧ W.heap[B]? = some (.cells (if done 7 then Q else #[.int .i64 0, .int .i64 0, .int .i64 0, .int .i64 0, .int .i64 0, .int .i64 0, .int .i64 0, .int .i64 0]) 59 (0, 0))) ∧
    (done 6 = true → done 4 = true) ∧ (done 7 = true → done 5 = true)

theorem below_setRow {B0 B : Nat} {W : World} {cs : Array Value} (hs : B0 ≤ W.heap.size) (hB : B0 ≤ B) : BD B0 W (W.setRow B cs) :=
  ⟨⟨rfl, rfl, rfl, by simp, fun k hk => setRow_other _ _ _ _ (by omega)⟩, Nat.le_refl _⟩

theorem c33 (s : Side) (w : World) (hr : right s = true) (hc : s.wf) : Calls Try.prog 33 #[.agg s.arr] w fun e w' => e = .returned (.agg (rankA s)) ∧ BD w.heap.size w w' := by
  have hw := right_width hr
  have hra : rankA s = #[.int .i64 (if s.style = 1 then 0 else 1), .int .i64 (if s.style = 0 then 1 else 0), .int .i64 (-s.width), .int .i64 (if s.style = 1 ∨ s.style = 0 then 0 else s.style), .int .i64 s.by_, .int .i64 s.row, .int .i64 s.col, .int .i64 s.color] := rfl
  rw [hra]
  clear hra hr
  obtain ⟨sty, wid, co, by_, row, col⟩ := s
  unfold Side.wf at hc
  dsimp only at hw hc ⊢
  unfold Side.arr
  dsimp only
  have hB : Below w.heap.size w w := Below.refl _ _
  by_cases h1 : sty = 1
  · subst h1
    go_enter Try.func33, Try.ntmps33
    go_wp2
    refine bodyPost_ret (v := .agg #[.int .i64 0, .int .i64 0, .int .i64 (-wid), .int .i64 0, .int .i64 by_, .int .i64 row, .int .i64 col, .int .i64 co]) (by simp [results, Try.results33, go_sem]) rfl ⟨rfl, ?_⟩
    exact ⟨(((Below.refl _ _).alloc (Nat.le_refl _) _).alloc (by simp) _).alloc (by simp; omega) _, Nat.le_refl _⟩
  · by_cases h0 : sty = 0
    · subst h0
      go_enter Try.func33, Try.ntmps33
      go_wp2
      refine bodyPost_ret (v := .agg #[.int .i64 1, .int .i64 1, .int .i64 (-wid), .int .i64 0, .int .i64 by_, .int .i64 row, .int .i64 col, .int .i64 co]) (by simp [results, Try.results33, go_sem]) rfl ⟨rfl, ?_⟩
      exact ⟨(((Below.refl _ _).alloc (Nat.le_refl _) _).alloc (by simp) _).alloc (by simp; omega) _, Nat.le_refl _⟩
    · have e1 : (if sty = 1 then (0 : Int) else 1) = 1 := by rw [if_neg h1]
      have e2 : (if sty = 0 then (1 : Int) else 0) = 0 := by rw [if_neg h0]
      have e3 : (if sty = 1 ∨ sty = 0 then (0 : Int) else sty) = sty := by rw [if_neg (by omega)]
      rw [e1, e2, e3]
      have t1 : (sty == 1) = false := by rw [beq_eq_false_iff_ne]; exact h1
      have t0 : (sty == 0) = false := by rw [beq_eq_false_iff_ne]; exact h0
      clear e1 e2 e3 h0 h1
      go_enter Try.func33, Try.ntmps33
      go_wp2
      refine bodyPost_ret (v := .agg #[.int .i64 1, .int .i64 0, .int .i64 (-wid), .int .i64 sty, .int .i64 by_, .int .i64 row, .int .i64 col, .int .i64 co]) (by simp [results, Try.results33, go_sem]) rfl ⟨rfl, ?_⟩
      exact ⟨(((Below.refl _ _).alloc (Nat.le_refl _) _).alloc (by simp) _).alloc (by simp; omega) _, Nat.le_refl _⟩

theorem c33' (s : Side) (hs : right s = true) (hcs : s.wf) : ∃ r0 r1 r2 r3 r4 r5 r6 r7 : Int, Hid (rank s = [r0, r1, r2, r3, r4, r5, r6, r7]) ∧ Hid (∀ W, Calls Try.prog 33 #[.agg s.arr] W fun e w' => e = .returned (.agg #[.int .i64 r0, .int .i64 r1, .int .i64 r2, .int .i64 r3, .int .i64 r4, .int .i64 r5, .int .i64 r6, .int .i64 r7]) ∧ BD W.heap.size W w') :=
  ⟨_, _, _, _, _, _, _, _, Lib.hid rfl, fun W => c33 s W hs hcs⟩

set_option maxRecDepth 100000 in
set_option maxHeartbeats 2000000 in
theorem c26_first (w : World) (s0 s1 s2 s3 s4 s5 t0 t1 t2 t3 t4 t5 r0 r1 r2 r3 r4 r5 r6 r7 q0 q1 q2 q3 q4 q5 q6 q7 : Int)
    (Hs : Hid (∀ W, Calls Try.prog 33 #[.agg #[.int .i64 s0, .int .i64 s1, .int .u32 s2, .int .i64 s3, .int .i64 s4, .int .i64 s5]] W fun e w' => e = .returned (.agg #[.int .i64 r0, .int .i64 r1, .int .i64 r2, .int .i64 r3, .int .i64 r4, .int .i64 r5, .int .i64 r6, .int .i64 r7]) ∧ BD W.heap.size W w'))
    (Ht : Hid (∀ W, Calls Try.prog 33 #[.agg #[.int .i64 t0, .int .i64 t1, .int .u32 t2, .int .i64 t3, .int .i64 t4, .int .i64 t5]] W fun e w' => e = .returned (.agg #[.int .i64 q0, .int .i64 q1, .int .i64 q2, .int .i64 q3, .int .i64 q4, .int .i64 q5, .int .i64 q6, .int .i64 q7]) ∧ BD W.heap.size W w')) :
    Calls Try.prog 26 #[.agg #[.int .i64 s0, .int .i64 s1, .int .u32 s2, .int .i64 s3, .int .i64 s4, .int .i64 s5], .agg #[.int .i64 t0, .int .i64 t1, .int .u32 t2, .int .i64 t3, .int .i64 t4, .int .i64 t5]] w fun e w' => e = .returned (.int .i64 (ordl [r0, r1, r2, r3, r4, r5, r6, r7] [q0, q1, q2, q3, q4, q5, q6, q7])) ∧ BD w.heap.size w w' := by
  refine (callsIn_wide (n := 3)).1 ?_
  refine callsIn_of_wp_marks Try.func26 rfl trivial ?_ rfl
  simp only [Try.ntmps26, List.size_toArray, List.length_cons, List.length_nil, Nat.reduceAdd, Nat.reduceSub, Array.replicate_succ, Array.replicate_zero, List.push_toArray, List.append_toArray, List.nil_append, List.cons_append]
  gi_wp2
  refine wpIn_scope_wide ?_
  gi_wp2_with fail
  refine wpIn_wide.2 ?_
  obtain ⟨W0, hW0⟩ : ∃ W0, (w.alloc (.cells #[.int .i64 s0, .int .i64 s1, .int .u32 s2, .int .i64 s3, .int .i64 s4, .int .i64 s5] 30)).alloc (.cells #[.int .i64 t0, .int .i64 t1, .int .u32 t2, .int .i64 t3, .int .i64 t4, .int .i64 t5] 30) = W0 := ⟨_, rfl⟩
  have g2 : W0.heap[w.heap.size]? = some (.cells #[.int .i64 s0, .int .i64 s1, .int .u32 s2, .int .i64 s3, .int .i64 s4, .int .i64 s5] 30 (0, 0)) := by rw [← hW0]; exact (Below.heap_alloc _ _ _ (by simp)).trans (heap_alloc_new w _)
  have g3 : W0.heap[w.heap.size + 1]? = some (.cells #[.int .i64 t0, .int .i64 t1, .int .u32 t2, .int .i64 t3, .int .i64 t4, .int .i64 t5] 30 (0, 0)) := by
    have := heap_alloc_new (w.alloc (.cells #[.int .i64 s0, .int .i64 s1, .int .u32 s2, .int .i64 s3, .int .i64 s4, .int .i64 s5] 30)) (.cells #[.int .i64 t0, .int .i64 t1, .int .u32 t2, .int .i64 t3, .int .i64 t4, .int .i64 t5] 30)
    rw [World.size_alloc, hW0] at this; exact this
  rw [hW0]
  refine wp_region_done (by kernel_rfl) (by kernel_rfl) (OrdInv W0 w.heap.size (w.heap.size + 1) #[.int .i64 s0, .int .i64 s1, .int .u32 s2, .int .i64 s3, .int .i64 s4, .int .i64 s5] #[.int .i64 t0, .int .i64 t1, .int .u32 t2, .int .i64 t3, .int .i64 t4, .int .i64 t5] #[.int .i64 r0, .int .i64 r1, .int .i64 r2, .int .i64 r3, .int .i64 r4, .int .i64 r5, .int .i64 r6, .int .i64 r7] #[.int .i64 q0, .int .i64 q1, .int .i64 q2, .int .i64 q3, .int .i64 q4, .int .i64 q5, .int .i64 q6, .int .i64 q7]) ?_ ?_ ?_
  · exact ⟨_, _, _, _, _, _, rfl, (BD.refl _ _).drew, fun h => by simp at h, fun h => by simp at h, fun h => by simp at h, fun h => by simp at h, fun h => by simp at h, fun h => by simp at h, fun h => by simp at h, fun h => by simp at h⟩
  · rintro done i o a W ho hd he ⟨v5, v6, v10, v11, v12, v13, rfl, hB, i0, i1, i2, i3, i4, i5, i6, i7⟩ K hK
    have l2 : w.heap.size < W0.heap.size := (Array.getElem?_eq_some_iff.1 g2).1
    have l3 : w.heap.size + 1 < W0.heap.size := (Array.getElem?_eq_some_iff.1 g3).1
    have gW2 := (hB.block _ l2).trans g2
    have gW3 := (hB.block _ l3).trans g3
    rcases i with _ | _ | _ | _ | _ | _ | _ | _ | i
    · obtain rfl := Option.some.inj ho
      refine wpOp_plain ho rfl ?_
      refine wp_load_row 30 _ rfl w.heap.size rfl 30 _ _ _ gW2 Try.underlying30 rfl (by kernel_rfl) ?_
      refine hK _ _ ⟨v5, v6, _, v11, v12, v13, rfl, hB, fun _ => rfl, fun h => i1 h, fun h => i2 h, fun h => i3 h, fun h => i4 h, fun h => i5 h, fun h => i6 h, fun h => i7 h⟩
    · obtain rfl := Option.some.inj ho
      obtain rfl := i0 (he ⟨0, .data⟩ (by simp) rfl)
      refine wpOp_plain ho rfl ?_
      clear ho hd he
      go_wp2_with (go_at_call 33; refine (Hs.out _).mono ?_; rintro e w1 ⟨rfl, hb⟩)
      exact ⟨v5, v6, _, _, v12, v13, rfl, hB.trans (hb.mono hB.size), fun _ => rfl, fun _ => rfl, fun h => i2 h, fun h => i3 h, (fun h => by obtain ⟨B, e1, e2, e3, e4⟩ := i4 h; exact ⟨B, e1, e2, (hb.block B (Array.getElem?_eq_some_iff.1 e3).1).trans e3, e4⟩), (fun h => by obtain ⟨B, e1, e2, e3⟩ := i5 h; exact ⟨B, e1, e2, (hb.block B (Array.getElem?_eq_some_iff.1 e3).1).trans e3⟩), fun h => i6 h, fun h => i7 h⟩
    · obtain rfl := Option.some.inj ho
      refine wpOp_plain ho rfl ?_
      refine wp_load_row 30 _ rfl (w.heap.size + 1) rfl 30 _ _ _ gW3 Try.underlying30 rfl (by kernel_rfl) ?_
      refine hK _ _ ⟨v5, v6, v10, v11, _, v13, rfl, hB, fun h => i0 h, fun h => i1 h, fun _ => rfl, fun h => i3 h, fun h => i4 h, fun h => i5 h, fun h => i6 h, fun h => i7 h⟩
    · obtain rfl := Option.some.inj ho
      obtain rfl := i2 (he ⟨2, .data⟩ (by simp) rfl)
      refine wpOp_plain ho rfl ?_
      clear ho hd he
      go_wp2_with (go_at_call 33; refine (Ht.out _).mono ?_; rintro e w1 ⟨rfl, hb⟩)
      exact ⟨v5, v6, v10, v11, _, _, rfl, hB.trans (hb.mono hB.size), fun h => i0 h, fun h => i1 h, fun _ => rfl, fun _ => rfl, (fun h => by obtain ⟨B, e1, e2, e3, e4⟩ := i4 h; exact ⟨B, e1, e2, (hb.block B (Array.getElem?_eq_some_iff.1 e3).1).trans e3, e4⟩), (fun h => by obtain ⟨B, e1, e2, e3⟩ := i5 h; exact ⟨B, e1, e2, (hb.block B (Array.getElem?_eq_some_iff.1 e3).1).trans e3⟩), fun h => i6 h, fun h => i7 h⟩
    · obtain rfl := Option.some.inj ho
      refine wpOp_plain ho rfl ?_
      have h6 : done 6 = false := by cases h : done 6 with
        | false => rfl
        | true => exact absurd (i6 h) (by rw [hd]; simp)
      clear ho he
      go_wp2
      have hb : Below W.heap.size W (W.alloc (.cells #[.int .i64 0, .int .i64 0, .int .i64 0, .int .i64 0, .int .i64 0, .int .i64 0, .int .i64 0, .int .i64 0] 59)) := (Below.refl _ _).alloc (Nat.le_refl _) _
      exact ⟨_, v6, v10, v11, v12, v13, rfl, hB.alloc hB.size _, fun h => i0 h, fun h => i1 h, fun h => i2 h, fun h => i3 h, fun _ => ⟨W.heap.size, rfl, hB.size, by rw [more_ne _ (by decide), h6]; exact heap_alloc_new W _, fun h => by obtain ⟨B, e1, e2, e3⟩ := i5 h; intro e; rw [e1] at e; have := (Array.getElem?_eq_some_iff.1 e3).1; simp at e <;> omega⟩, (fun h => by obtain ⟨B, e1, e2, e3⟩ := i5 h; exact ⟨B, e1, e2, (hb.block B (Array.getElem?_eq_some_iff.1 e3).1).trans e3⟩), fun _ => rfl, fun h => i7 h⟩
    · obtain rfl := Option.some.inj ho
      refine wpOp_plain ho rfl ?_
      have h7 : done 7 = false := by cases h : done 7 with
        | false => rfl
        | true => exact absurd (i7 h) (by rw [hd]; simp)
      clear ho he
      go_wp2
      have hb : Below W.heap.size W (W.alloc (.cells #[.int .i64 0, .int .i64 0, .int .i64 0, .int .i64 0, .int .i64 0, .int .i64 0, .int .i64 0, .int .i64 0] 59)) := (Below.refl _ _).alloc (Nat.le_refl _) _
      exact ⟨v5, _, v10, v11, v12, v13, rfl, hB.alloc hB.size _, fun h => i0 h, fun h => i1 h, fun h => i2 h, fun h => i3 h, (fun h => by obtain ⟨B, e1, e2, e3, e4⟩ := i4 h; exact ⟨B, e1, e2, (hb.block B (Array.getElem?_eq_some_iff.1 e3).1).trans e3, fun _ e => by have := (Array.getElem?_eq_some_iff.1 e3).1; simp at e <;> omega⟩), fun _ => ⟨W.heap.size, rfl, hB.size, by rw [more_ne _ (by decide), h7]; exact heap_alloc_new W _⟩, fun h => i6 h, fun _ => rfl⟩
    · obtain rfl := Option.some.inj ho
      obtain rfl := i1 (he ⟨1, .data⟩ (by simp) rfl)
      obtain ⟨B, rfl, e2, e3, e4⟩ := i4 (he ⟨4, .data⟩ (by simp) rfl)
      rw [hd] at e3
      refine wpOp_plain ho rfl ?_
      refine wp_store_row 59 _ _ rfl B _ rfl rfl 59 _ e3 (by kernel_rfl) rfl (by simp [Value.oneCell']) ?_
      have d5 := he ⟨5, .phase⟩ (by simp) rfl
      obtain ⟨B', rfl, f2, f3⟩ := i5 d5
      have hne : B' ≠ B := fun e => e4 d5 (by rw [e])
      refine hK _ _ ⟨_, _, v10, _, v12, v13, rfl, hB.trans (below_setRow hB.size e2), i0, i1, i2, i3, fun _ => ⟨B, rfl, e2, by rw [more_self]; exact setRow_heap _ _ _ _ _ _ e3, fun _ => e4 d5⟩, fun _ => ⟨B', rfl, f2, by rw [more_ne _ (by decide), setRow_other _ _ _ _ hne]; exact f3⟩, fun _ => he ⟨4, .data⟩ (by simp) rfl, i7⟩
    · obtain rfl := Option.some.inj ho
      obtain rfl := i3 (he ⟨3, .data⟩ (by simp) rfl)
      obtain ⟨B, rfl, e2, e3⟩ := i5 (he ⟨5, .data⟩ (by simp) rfl)
      rw [hd] at e3
      refine wpOp_plain ho rfl ?_
      refine wp_store_row 59 _ _ rfl B _ rfl rfl 59 _ e3 (by kernel_rfl) rfl (by simp [Value.oneCell']) ?_
      have d5 := he ⟨5, .data⟩ (by simp) rfl
      obtain ⟨B', rfl, f2, f3, f4⟩ := i4 (he ⟨4, .phase⟩ (by simp) rfl)
      have hne : B' ≠ B := fun e => f4 d5 (by rw [e])
      refine hK _ _ ⟨_, _, v10, v11, v12, _, rfl, hB.trans (below_setRow hB.size e2), i0, i1, i2, i3, fun _ => ⟨B', rfl, f2, by rw [more_ne _ (by decide), setRow_other _ _ _ _ hne]; exact f3, fun _ => f4 d5⟩, fun _ => ⟨B, rfl, e2, by rw [more_self]; exact setRow_heap _ _ _ _ _ _ e3⟩, i6, fun _ => d5⟩
    · exact absurd (Array.getElem?_eq_some_iff.1 ho).1 (by simp)
  · rintro done a W hall ⟨v5, v6, v10, v11, v12, v13, rfl, hB, i0, i1, i2, i3, i4, i5, i6, i7⟩
    obtain ⟨B5, rfl, e2, e3, e4⟩ := i4 (hall 4 (by simp))
    obtain ⟨B6, rfl, f2, f3⟩ := i5 (hall 5 (by simp))
    rw [hall 6 (by simp)] at e3
    rw [hall 7 (by simp)] at f3
    simp only [if_true] at e3 f3
    clear i0 i1 i2 i3 i4 i5 i6 i7 hall
    obtain ⟨c0, c1, c2, c3, c4, c5, c6, c7⟩ := cells8 e3
    obtain ⟨d0, d1, d2, d3, d4, d5, d6, d7⟩ := cells8 f3
    have E3 := Lib.hid e3
    have F3 := Lib.hid f3
    clear e3 f3 g2 g3
    have hBw : BD w.heap.size w W := (show BD w.heap.size w W0 by rw [← hW0]; exact ((BD.refl _ w).alloc (Nat.le_refl _) _).alloc (by simp) _).trans (hB.mono (by rw [← hW0, World.size_alloc, World.size_alloc]; omega))
    have hq := eq59 r0 r1 r2 r3 r4 r5 r6 r7 q0 q1 q2 q3 q4 q5 q6 q7 W
    by_cases hrq : [r0, r1, r2, r3, r4, r5, r6, r7] = [q0, q1, q2, q3, q4, q5, q6, q7]
    · rw [decide_eq_true hrq] at hq
      have ho : ordl [r0, r1, r2, r3, r4, r5, r6, r7] [q0, q1, q2, q3, q4, q5, q6, q7] = 0 := if_pos hrq
      have HO := Lib.hid ho
      clear ho
      clear hrq
      gi_wp2
      rw [Exit.noGoto_ret]
      exact ⟨_, results_tmp rfl _ _ _, by rw [HO.out]; rfl, hBw⟩
    · rw [decide_eq_false hrq] at hq
      have ho : ordl [r0, r1, r2, r3, r4, r5, r6, r7] [q0, q1, q2, q3, q4, q5, q6, q7] = lexl [r0, r1, r2, r3, r4, r5, r6, r7] [q0, q1, q2, q3, q4, q5, q6, q7] := if_neg hrq
      have HO := Lib.hid ho
      clear ho
      have HN := Lib.hid hrq
      have l5 := (Array.getElem?_eq_some_iff.1 E3.out).1
      have l6 := (Array.getElem?_eq_some_iff.1 F3.out).1
      have E4 := (Below.heap_alloc W (.cells #[.int .i64 1] 3) B5 l5).trans E3.out
      have F4 := (Below.heap_alloc W (.cells #[.int .i64 1] 3) B6 l6).trans F3.out
      obtain ⟨k0, k1, k2, k3, k4, k5, k6, k7⟩ := cells8 E4
      obtain ⟨m0, m1, m2, m3, m4, m5, m6, m7⟩ := cells8 F4
      clear hrq E4 F4
      gi_wp2_with (first | (refine ⟨trivial, ?_⟩; gi_at_call 34; refine (callsIn_wide.2 (c34 _ _ _)).mono ?_; rintro e w1 ⟨rfl, rfl⟩) | (refine wpIn_label ?_))
      have hs0 : w.heap.size + 2 = W0.heap.size := by rw [← hW0]; simp
      have hsW := hBw.size
      obtain ⟨W1, hW1⟩ : ∃ W1, (((W.alloc (Obj.cells #[Value.int IntKind.i64 1] 3)).alloc (Obj.cells #[.int .i64 r0, .int .i64 r1, .int .i64 r2, .int .i64 r3, .int .i64 r4, .int .i64 r5, .int .i64 r6, .int .i64 r7] 59)).alloc (Obj.cells #[.int .i64 q0, .int .i64 q1, .int .i64 q2, .int .i64 q3, .int .i64 q4, .int .i64 q5, .int .i64 q6, .int .i64 q7] 59)) = W1 := ⟨_, rfl⟩
      have hsz : W1.heap.size = W.heap.size + 3 := by rw [← hW1]; simp
      have hBW : BD W.heap.size W W1 := by
        rw [← hW1]; exact (((BD.refl _ W).alloc (Nat.le_refl _) _).alloc (by simp) _).alloc (by simp; omega) _
      have hB1 : BD w.heap.size w W1 := hBw.trans (hBW.mono hBw.size)
      have x7 : Boxed W1 W.heap.size 3 (.int .i64 1) := by rw [← hW1]; exact (((Boxed.new W 3 _).alloc _).alloc _)
      have x8 : W1.heap[W.heap.size + 1]? = some (.cells #[.int .i64 r0, .int .i64 r1, .int .i64 r2, .int .i64 r3, .int .i64 r4, .int .i64 r5, .int .i64 r6, .int .i64 r7] 59 (0, 0)) := by
        have := heap_alloc_new (W.alloc (Obj.cells #[Value.int IntKind.i64 1] 3)) (Obj.cells #[.int .i64 r0, .int .i64 r1, .int .i64 r2, .int .i64 r3, .int .i64 r4, .int .i64 r5, .int .i64 r6, .int .i64 r7] 59)
        rw [World.size_alloc] at this
        rw [← hW1]
        exact (Below.heap_alloc _ _ _ (by simp)).trans this
      have x9 : W1.heap[W.heap.size + 1 + 1]? = some (.cells #[.int .i64 q0, .int .i64 q1, .int .i64 q2, .int .i64 q3, .int .i64 q4, .int .i64 q5, .int .i64 q6, .int .i64 q7] 59 (0, 0)) := by
        have := heap_alloc_new ((W.alloc (Obj.cells #[Value.int IntKind.i64 1] 3)).alloc (Obj.cells #[.int .i64 r0, .int .i64 r1, .int .i64 r2, .int .i64 r3, .int .i64 r4, .int .i64 r5, .int .i64 r6, .int .i64 r7] 59)) (Obj.cells #[.int .i64 q0, .int .i64 q1, .int .i64 q2, .int .i64 q3, .int .i64 q4, .int .i64 q5, .int .i64 q6, .int .i64 q7] 59)
        rw [World.size_alloc, World.size_alloc] at this
        rw [← hW1]
        exact this
      rw [hW1]
      clear hW1 hBW k0 k1 k2 k3 k4 k5 k6 k7 m0 m1 m2 m3 m4 m5 m6 m7 c0 c1 c2 c3 c4 c5 c6 c7 d0 d1 d2 d3 d4 d5 d6 d7
      have hI0 : ∀ r, OrdI w W.heap.size (W.heap.size + 1) (.cells #[.int .i64 r0, .int .i64 r1, .int .i64 r2, .int .i64 r3, .int .i64 r4, .int .i64 r5, .int .i64 r6, .int .i64 r7] 59 (0, 0)) (.cells #[.int .i64 q0, .int .i64 q1, .int .i64 q2, .int .i64 q3, .int .i64 q4, .int .i64 q5, .int .i64 q6, .int .i64 q7] 59 (0, 0)) [] ((W1.alloc (.deferred (some []))).alloc (.loop r)) := fun r =>
        ⟨((x7.alloc _).alloc _), (hB1.alloc hB1.size _).alloc (by have := hB1.size; simp; omega) _, fun p hp => by simp at hp, (Below.heap_alloc _ _ _ (by simp; omega)).trans ((Below.heap_alloc _ _ _ (by omega)).trans x8), (Below.heap_alloc _ _ _ (by simp; omega)).trans ((Below.heap_alloc _ _ _ (by omega)).trans x9)⟩
      refine wpIn_rangeFunc_free (F := Fence.wide) (n := 3) rfl (by omega) (gf := 39) (lb := #[.pointer (some ⟨W.heap.size + 1, 0, none⟩), .pointer (some ⟨W.heap.size + 1 + 1, 0, none⟩)]) rfl trivial (enters_of Try.func39 (by kernel_rfl) rfl)
        (c39f Fence.wide 2 trivial rfl (by omega) (W.heap.size + 1) (W.heap.size + 1 + 1) r0 r1 r2 r3 r4 r5 r6 r7 q0 q1 q2 q3 q4 q5 q6 q7) (fun _ => rfl)
        (OrdI w W.heap.size (W.heap.size + 1) (.cells #[.int .i64 r0, .int .i64 r1, .int .i64 r2, .int .i64 r3, .int .i64 r4, .int .i64 r5, .int .i64 r6, .int .i64 r7] 59 (0, 0)) (.cells #[.int .i64 q0, .int .i64 q1, .int .i64 q2, .int .i64 q3, .int .i64 q4, .int .i64 q5, .int .i64 q6, .int .i64 q7] 59 (0, 0))) (OrdX w W.heap.size)
        (fun pre X h => ⟨h.2.2.2.1, h.2.2.2.2⟩)
        (fun s X l o' h hl hr => ⟨boxed_put h.1 (by omega), bd_put h.2.1 (show w.heap.size ≤ W1.heap.size by omega) hl hr, h.2.2.1, (World.putObj_heap_other (by omega)).trans h.2.2.2.1, (World.putObj_heap_other (by omega)).trans h.2.2.2.2⟩)
        (fun c s X l o' h hl hr => by obtain ⟨e0, ini, x, y, v, e1, e2, e3, e4, e5, e6⟩ := h; exact ⟨e0, ini, x, y, v, e1, e2, e3, e4, boxed_put e5 (by omega), bd_put e6 (show w.heap.size ≤ W1.heap.size by omega) hl hr⟩)
        hI0 ?a1 ?assign ?body ?fin ?stop
      case assign =>
        intro l x W K hK
        have HK := Lib.hid hK
        clear hK
        unfold encP
        gi_wp2
        exact HK.out
      case body =>
        rintro l pre ⟨x, y⟩ X ⟨e0, hBX, heq, hR8, hQ9⟩ hlt
        have HR8 := Lib.hid hR8
        have HQ9 := Lib.hid hQ9
        clear hR8 hQ9
        have f0 := e0.cell
        have g0 := e0.frozen
        have Heq := Lib.hid heq
        clear heq
        by_cases hxy : x = y
        · subst hxy
          gi_wp2
          refine ⟨KeepsFrom.refl _ _, e0, hBX, fun p hp => ?_, HR8.out, HQ9.out⟩
          rcases List.mem_append.1 hp with h | h
          · exact Heq.out p h
          · rw [List.mem_singleton.1 h]
        · have t1 : (x == y) = false := by rw [beq_eq_false_iff_ne]; exact hxy
          have Hxy := Lib.hid hxy
          clear hxy
          by_cases hlt : x < y
          · gi_wp2
            refine ⟨(KeepsOthers.setCell _ _ _).from _, rfl, pre, x, y, -1, rfl, Heq.out, Hxy.out, by rw [if_pos hlt], e0.set _, hBX.trans ⟨((Keeps.refl (fun k => k < w.heap.size) _).setBox W.heap.size (fun h => by omega) _).below fun k hk => hk, Nat.le_refl _⟩⟩
          · gi_wp2
            refine ⟨KeepsFrom.refl _ _, rfl, pre, x, y, 1, rfl, Heq.out, Hxy.out, by rw [if_neg (by omega)], e0, hBX⟩
      case fin =>
        rintro D ys X hD rfl ⟨e0, hBX, heq, _, _⟩ hK
        exact absurd (alleq8 heq) HN.out
      case stop =>
        rintro D c pre X hD ⟨k, hk, rfl⟩ ⟨rfl, ini, x, y, v, hpe, heq, hxy, hv, e0, hBX⟩ hK
        have hl := lexl_first k hk hpe heq hxy
        rw [← hv] at hl
        clear hv
        have f0 := e0.cell
        have hKb := (bdK_b (w := W1) (n₀ := W1.heap.size) (Nat.le_refl _) X D _ (.deferred none) (by omega) hK rfl rfl).mono (B' := w.heap.size) (by omega)
        have HL := Lib.hid hl
        clear hl hpe heq hxy
        gi_wp2
        try rw [Exit.noGoto_ret]
        refine ⟨by simp, .inl ⟨_, _, rfl, run_takeDeferred hK, ?_⟩⟩
        exact ⟨_, results_tmp rfl _ _ _, by rw [HO.out, HL.out]; rfl, hBX.trans hKb⟩


/-- order, and no draw is taken back -/
theorem c26d (s t : Side) (w : World) (hs : right s = true) (hsw : s.wf) (ht : right t = true) (htw : t.wf) :
    Calls Try.prog 26 #[.agg s.arr, .agg t.arr] w fun e w' => e = .returned (.int .i64 (ord s t)) ∧ BD w.heap.size w w' := by
  obtain ⟨r0, r1, r2, r3, r4, r5, r6, r7, hr, Hr⟩ := c33' s hs hsw
  obtain ⟨q0, q1, q2, q3, q4, q5, q6, q7, hq, Hq⟩ := c33' t ht htw
  have h := c26_first w s.style s.width s.color s.by_ s.row s.col t.style t.width t.color t.by_ t.row t.col r0 r1 r2 r3 r4 r5 r6 r7 q0 q1 q2 q3 q4 q5 q6 q7 Hr Hq
  rw [← hr.out, ← hq.out] at h
  exact h
theorem grow_of_bd {w w' : World} (h : BD w.heap.size w w') : ∃ q os, w' = Sort.grow (w.drewN q) os := by
  refine ⟨w'.drawn - w.drawn, w'.heap.extract w.heap.size w'.heap.size, ?_⟩
  have hd := h.drawn
  have hheap : w'.heap = w.heap ++ w'.heap.extract w.heap.size w'.heap.size := by
    apply Array.ext_getElem?
    intro k
    rw [Array.getElem?_append]
    split
    · exact h.block k (by assumption)
    · rename_i hk
      rw [Array.getElem?_extract]
      have hs := h.size
      split
      · congr 1; omega
      · rw [Array.getElem?_eq_none (by omega)]
  obtain ⟨heap', tape', drawn', os', out'⟩ := w'
  obtain ⟨heap, tape, drawn, os, out⟩ := w
  have e1 : os' = os := h.os
  have e2 : tape' = tape := h.tape
  have e3 : out' = out := h.output
  subst e1 e2 e3
  simp only at hheap hd ⊢
  unfold Sort.grow
  simp only [World.drewN]
  rw [← hheap]
  congr 1
  omega

end Go.Proofs.Ytffnnfdlelaonaa.DR
