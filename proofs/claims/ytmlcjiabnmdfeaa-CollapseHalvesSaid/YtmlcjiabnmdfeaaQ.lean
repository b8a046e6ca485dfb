/- Contract of collapse.asked: what is asked for at an edge. -/
import Derived.Test.YtmlcjiabnmdfeaaP
namespace Go.Proofs.Ytmlcjiabnmdfeaa
open Go Go.RowKit Go.Shelf CT
set_option linter.unusedVariables false

theorem run_line {X : World} {XB : Nat} {x : Run} {z0 z1 z2 : Int} (h : X.heap[XB]? = some (.cells x.arr 84 (0, 0))) (k : Nat) (hk : k < 4) (hz : lineOf x.ls k = ⟨z0, z1, z2⟩) :
    X.cell? ⟨XB, 2 + k * 3, none⟩ = some (.int .i64 z0) ∧ X.cell? ⟨XB, 2 + k * 3 + 1, none⟩ = some (.int .i64 z1) ∧ X.cell? ⟨XB, 2 + k * 3 + 2, none⟩ = some (.int .u32 z2) := by
  rcases k with _ | _ | _ | _ | k
  · cases hz; exact ⟨cell_of h rfl, cell_of h rfl, cell_of h rfl⟩
  · cases hz; exact ⟨cell_of h rfl, cell_of h rfl, cell_of h rfl⟩
  · cases hz; exact ⟨cell_of h rfl, cell_of h rfl, cell_of h rfl⟩
  · cases hz; exact ⟨cell_of h rfl, cell_of h rfl, cell_of h rfl⟩
  · omega
theorem cellAsk_len (f : Fr) (p : Int) (k : Nat) : (cellAsk f p k).length ≤ 1 := by
  unfold cellAsk
  split <;> simp

theorem flat_le {α β : Type} {F : α → List β} {c : Nat} : ∀ {l : List α}, (∀ x ∈ l, (F x).length ≤ c) → (l.flatMap F).length ≤ c * l.length
  | [], _ => by simp
  | x :: l, h => by
    rw [List.flatMap_cons, List.length_append, List.length_cons, Nat.mul_succ]
    have := h x (List.mem_cons_self)
    have := flat_le (l := l) fun y hy => h y (List.mem_cons_of_mem _ hy)
    omega
theorem rim_len (f : Fr) (st : Bool) (m : Int) (k : Nat) {W : World} (h : f.In W) : (rim f st m k).length ≤ 21 := by
  have hr : ∀ by_ x, (rimRun st m k by_ x).length ≤ 1 := fun by_ x => by unfold rimRun; split <;> simp
  have h1 : ∀ q ∈ ovr f st, (q.1.flatMap (rimRun st m k q.2)).length ≤ 10 := fun q hq => by
    have hq10 : q.1.length ≤ 10 := by
      have := h.len
      unfold ovr btw at hq
      cases st <;> simp at hq <;> rcases hq with rfl | rfl <;> simp <;> omega
    have := flat_le (F := rimRun st m k q.2) (l := q.1) fun x _ => hr q.2 x
    omega
  have h2 := flat_le h1
  have h3 : (ovr f st).length = 2 := by cases st <;> rfl
  rw [h3] at h2
  unfold rim
  rw [List.length_append, List.length_singleton]
  omega
theorem asked_end {w W W0 : World} {Bo : Nat} {l L : List CT.Side} {v : Value} (hB : Below w.heap.size w W0) (hA : Ask W0 W Bo l) (hBo : W0.heap.size ≤ Bo) (hR : W.ownsRow (Bo + 1) 45 6 v l.length (GR.flat CT.Side.cells l)) (hL : L = l) :
    (∃ A cap, Ending.returned v = .returned (.slice A L.length cap) ∧ GR.Many CT.Side.cells 6 W A L) ∧ Below w.heap.size w W := by
  subst hL
  obtain ⟨A, cap, rfl, _, hm, _⟩ := GR.own_many Side.len hR rfl
  exact ⟨⟨A, cap, rfl, hm⟩, hB.trans ((hA.bl.mono hBo).mono hB.size)⟩

set_option maxRecDepth 100000 in
set_option maxHeartbeats 16000000 in
/-- asked -/
theorem c45 (f : Fr) (st : Bool) (B g base : Nat) (vs : Nat → Value) (n m a b : Int) (k1 k2 Bs : Nat) (W : World) (hF : FrM f W B g base vs) (hK : Kinds f W k1 k2) (hS : st = true → W.heap[Bs]? = some (.cells #[.func (.func 64) #[] #[]] 102 (0, 0))) (ha : a < f.pl.length) (hb : b < f.pl.length) (hlen : f.cl.length = f.pl.length) :
    Calls Try.prog 45 #[.pointer (some ⟨B, 0, none⟩), .agg #[.slice (some ⟨if st = true then k2 else k1, 0, none⟩) 2 2, .slice (some ⟨if st = true then k1 else k2, 0, none⟩) 2 2, .int .i64 (lastOf f st), .int .i64 (aheadOf st), .int .i64 (behindOf st), dFn st Bs], .int .i64 n, .int .i64 m, .int .i64 a, .int .i64 b] W fun e W' =>
      (∃ A cap, e = .returned (.slice A (asked f st n m a b).length cap) ∧ GR.Many CT.Side.cells 6 W' A (asked f st n m a b)) ∧ Below W.heap.size W W' := by
  have hD0 : ∀ w3 Bd, w3.heap[Bd]? = some (.cells #[.slice (some ⟨if st = true then k2 else k1, 0, none⟩) 2 2, .slice (some ⟨if st = true then k1 else k2, 0, none⟩) 2 2, .int .i64 (lastOf f st), .int .i64 (aheadOf st), .int .i64 (behindOf st), dFn st Bs] 104 (0, 0)) → Kinds f w3 k1 k2 → (st = true → w3.heap[Bs]? = some (.cells #[.func (.func 64) #[] #[]] 102 (0, 0))) → DirM f st w3 Bd k1 k2 Bs := fun w3 Bd h1 h2 h3 => ⟨h1, h2, h3⟩
  have hask : asked f st n m a b = cellAsk f a (aheadOf st) ++ (cellAsk f b (behindOf st) ++ (((btw f st).flatMap fun k => k.1.flatMap (askRun st n k.2)) ++ ((if n = 0 then rim f st m (behindOf st) else []) ++ (if n = lastOf f st then rim f st m (aheadOf st) else [])))) := rfl
  have har : ∀ by_ x, askRun st n by_ x = (if x.to_ = n then [dSide st (lineOf x.ls (aheadOf st)) by_ x.from_ false] else []) ++ (if x.from_ = n then [dSide st (lineOf x.ls (behindOf st)) by_ x.from_ false] else []) := fun _ _ => rfl
  have hka : aheadOf st < 4 := by cases st <;> decide
  have hkb : behindOf st < 4 := by cases st <;> decide
  obtain ⟨kB, hkB⟩ : ∃ kB, (if st = true then k2 else k1) = kB := ⟨_, rfl⟩
  obtain ⟨kO, hkO⟩ : ∃ kO, (if st = true then k1 else k2) = kO := ⟨_, rfl⟩
  generalize lastOf f st = la at *
  generalize aheadOf st = ka at *
  generalize behindOf st = kb at *
  rw [hkB, hkO] at hD0 ⊢
  have HD0 := Lib.hid hD0
  have Hask := Lib.hid hask
  have Har0 := Lib.hid har
  have HkB := Lib.hid hkB
  clear hD0 hask har hkB hkO
  obtain ⟨w3, hw3⟩ : ∃ w3, ((W.alloc (.cells #[.pointer (some ⟨B, 0, none⟩)] 66)).alloc (.cells #[.slice (some ⟨kB, 0, none⟩) 2 2, .slice (some ⟨kO, 0, none⟩) 2 2, .int .i64 la, .int .i64 ka, .int .i64 kb, dFn st Bs] 104)).alloc (.cells #[.int .i64 m] 3) = w3 := ⟨_, rfl⟩
  have hb3 : Below W.heap.size W w3 := by rw [← hw3]; exact (((Below.refl _ W).alloc (Nat.le_refl _) _).alloc (by simp) _).alloc (by simp; omega) _
  have hsz : w3.heap.size = W.heap.size + 1 + 1 + 1 := by rw [← hw3]; simp
  have h66 : Boxed w3 W.heap.size 66 (.pointer (some ⟨B, 0, none⟩)) := by rw [← hw3]; exact ((Boxed.new W 66 _).alloc _).alloc _
  have h104 : w3.heap[W.heap.size + 1]? = some (.cells #[.slice (some ⟨kB, 0, none⟩) 2 2, .slice (some ⟨kO, 0, none⟩) 2 2, .int .i64 la, .int .i64 ka, .int .i64 kb, dFn st Bs] 104 (0, 0)) := by
    rw [← hw3]
    have := heap_alloc_new (W.alloc (.cells #[.pointer (some ⟨B, 0, none⟩)] 66)) (.cells #[.slice (some ⟨kB, 0, none⟩) 2 2, .slice (some ⟨kO, 0, none⟩) 2 2, .int .i64 la, .int .i64 ka, .int .i64 kb, dFn st Bs] 104)
    have e : (W.alloc (.cells #[.pointer (some ⟨B, 0, none⟩)] 66)).heap.size = W.heap.size + 1 := by simp
    rw [e] at this
    exact (Below.heap_alloc _ _ _ (by simp)).trans this
  have h3 : Boxed w3 (W.heap.size + 1 + 1) 3 (.int .i64 m) := by
    rw [← hw3]
    have := Boxed.new ((W.alloc (.cells #[.pointer (some ⟨B, 0, none⟩)] 66)).alloc (.cells #[.slice (some ⟨kB, 0, none⟩) 2 2, .slice (some ⟨kO, 0, none⟩) 2 2, .int .i64 la, .int .i64 ka, .int .i64 kb, dFn st Bs] 104)) 3 (.int .i64 m)
    have e : ((W.alloc (.cells #[.pointer (some ⟨B, 0, none⟩)] 66)).alloc (.cells #[.slice (some ⟨kB, 0, none⟩) 2 2, .slice (some ⟨kO, 0, none⟩) 2 2, .int .i64 la, .int .i64 ka, .int .i64 kb, dFn st Bs] 104)).heap.size = W.heap.size + 1 + 1 := by simp
    rw [e] at this
    exact this
  have hS3 : st = true → w3.heap[Bs]? = some (.cells #[.func (.func 64) #[] #[]] 102 (0, 0)) := fun e => (hb3.block _ (Array.getElem?_eq_some_iff.1 (hS e)).1).trans (hS e)
  have hD := HD0.out w3 (W.heap.size + 1) h104 (hK.turn hb3) hS3
  have hF3 := hF.turn hb3
  have hA0 : Ask w3 (w3.alloc (.cells #[.slice none 0 0] 79)) (W.heap.size + 1 + 1 + 1) [] := by
    rw [← hsz]
    exact ⟨⟨_, Boxed.new w3 79 _, GR.own_nil _ _ _ _⟩, (Below.refl _ w3).alloc (Nat.le_refl _) _⟩
  have HA0 := Lib.hid hA0
  have HF := Lib.hid hF3
  have Hf := Lib.hid h66
  have Hm := Lib.hid h3
  have HD := Lib.hid hD
  have HS0 := Lib.hid hS3
  have HB3 := Lib.hid hb3
  have HBo : Hid (w3.heap.size ≤ W.heap.size + 1 + 1 + 1) := Lib.hid (Nat.le_of_eq hsz)
  have D00 : Hid (w3.cell? ⟨W.heap.size + 1, 0, none⟩ = some (.slice (some ⟨kB, 0, none⟩) 2 2)) := Lib.hid (cell_of h104 rfl)
  have D20 : Hid (w3.cell? ⟨W.heap.size + 1, 2, none⟩ = some (.int .i64 la)) := Lib.hid (cell_of h104 rfl)
  have D30 : Hid (w3.cell? ⟨W.heap.size + 1, 3, none⟩ = some (.int .i64 ka)) := Lib.hid (cell_of h104 rfl)
  have D40 : Hid (w3.cell? ⟨W.heap.size + 1, 4, none⟩ = some (.int .i64 kb)) := Lib.hid (cell_of h104 rfl)
  have D50 : Hid (w3.cell? ⟨W.heap.size + 1, 5, none⟩ = some (dFn st Bs)) := Lib.hid (cell_of h104 rfl)
  have HFF : Hid (FrM f W B g base vs) := Lib.hid hF
  clear hF hK hS hb3 hsz h66 h104 h3 hD hF3 hA0 hS3 HD0
  have Ha := Lib.hid ha
  have Hb := Lib.hid hb
  have Hlen := Lib.hid hlen
  have HW3 := Lib.hid hw3
  clear ha hb hlen hw3
  go_enter Try.func45, Try.ntmps45
  go_wp2_with (fail)
  rw [HW3.out]
  clear HW3
  generalize W.heap.size + 1 + 1 + 1 = Bo at *
  generalize W.heap.size + 1 + 1 = Bm at *
  generalize W.heap.size + 1 = Bd at *
  refine (c62 f B g base vs a ka Bo W.heap.size [] w3 _ HF.out Hf.out HBo.out HA0.out hka Ha.out Hlen.out (by simp)).mono ?_
  rintro e w4 ⟨⟨v4, rfl⟩, hA4⟩
  rw [List.nil_append] at hA4
  have HA4 := Lib.hid hA4
  clear hA4
  have d4 : w4.cell? ⟨Bd, 4, none⟩ = some (_) := ((HA4.out.bl.mono HBo.out).cell (p := ⟨Bd, 4, none⟩) (World.block_lt_of_cell? _ _ D40.out)).trans D40.out
  go_wp2_with (fail)
  clear d4
  refine (c62 f B g base vs b kb Bo W.heap.size _ w3 _ HF.out Hf.out HBo.out HA4.out hkb Hb.out Hlen.out (by have := cellAsk_len f a ka; omega)).mono ?_
  rintro e w5 ⟨⟨v5, rfl⟩, hA5⟩
  obtain ⟨l2, hl2⟩ : ∃ l2, cellAsk f a ka ++ cellAsk f b kb = l2 := ⟨_, rfl⟩
  rw [hl2] at hA5
  have HL2 : Hid (l2.length ≤ 2) := Lib.hid (by rw [← hl2, List.length_append]; have := cellAsk_len f a ka; have := cellAsk_len f b kb; omega)
  have Hl2 := Lib.hid hl2
  have HA5 := Lib.hid hA5
  clear hA5 hl2
  have d0 : w5.cell? ⟨Bd, 0, none⟩ = some (_) := ((HA5.out.bl.mono HBo.out).cell (p := ⟨Bd, 0, none⟩) (World.block_lt_of_cell? _ _ D00.out)).trans D00.out
  go_wp2_with (fail)
  clear d0
  go_loopw [34] (fun a wr => ∃ j : Nat, j ≤ 2 ∧ a = .int .i64 j ∧ Hid (Ask w3 wr Bo (l2 ++ ((btw f st).take j).flatMap fun k => k.1.flatMap (askRun st n k.2))) ∧ Hid ((l2 ++ ((btw f st).take j).flatMap fun k => k.1.flatMap (askRun st n k.2)).length ≤ 2 + 20 * j)) (fun a _ => 2 - (intOf a).toNat)
  case atStart => exact ⟨0, by omega, rfl, Lib.hid (by simpa using HA5.out), Lib.hid (by simpa using HL2.out)⟩
  case round =>
    obtain ⟨j, hj, rfl, HAj, HLj⟩ := hrel
    by_cases hlt : j < 2
    · obtain ⟨A, xs, c, by_, g1, g2, hxs, hlx, Hj⟩ := kind_at HD.out.kinds HF.out.in_ st kB j HkB.out.symm hlt
      have e1 := ((HAj.out.bl.mono HBo.out).cell (World.block_lt_of_cell? _ _ g1)).trans g1
      have e2 := ((HAj.out.bl.mono HBo.out).cell (World.block_lt_of_cell? _ _ g2)).trans g2
      clear g1 g2
      have ti : decide ((j : Int) < 2) = true := decide_eq_true (by omega)
      have tj : (j : Int) < 2 := by omega
      have HX := Lib.hid hxs
      clear hxs
      go_wp2_with (fail)
      obtain ⟨lj, hlj⟩ : ∃ lj, l2 ++ ((btw f st).take j).flatMap (fun k => k.1.flatMap (askRun st n k.2)) = lj := ⟨_, rfl⟩
      rw [hlj] at HAj HLj
      have Hlj := Lib.hid hlj
      have hka_ : Below wr.heap.size wr (wr.alloc (.cells #[.slice A xs.length c, .int .i64 by_] 120)) := (Below.refl _ _).alloc (Nat.le_refl _) _
      have HA0_ := Lib.hid (HAj.out.turn hka_)
      have HK0 := Lib.hid (heap_alloc_new wr (.cells #[.slice A xs.length c, .int .i64 by_] 120))
      clear hka_ hlj e1 e2
      generalize wr.alloc (Obj.cells #[.slice A xs.length c, .int .i64 by_] 120) = wk at *
      generalize wr.heap.size = K0 at *
      go_loopw [41] (fun a w2 => ∃ i : Nat, i ≤ xs.length ∧ a = .int .i64 i ∧ Hid (Ask w3 w2 Bo (lj ++ (xs.take i).flatMap (askRun st n by_))) ∧ Hid ((lj ++ (xs.take i).flatMap (askRun st n by_)).length ≤ 2 + 20 * j + 2 * i) ∧ Hid (w2.heap[K0]? = some (.cells #[.slice A xs.length c, .int .i64 by_] 120 (0, 0)))) (fun a _ => xs.length - (intOf a).toNat)
      case atStart => exact ⟨0, by omega, rfl, Lib.hid (by simpa using HA0_.out), Lib.hid (by simpa using HLj.out), HK0⟩
      case round =>
        obtain ⟨i, hi, rfl, HAi, HLi, HKi⟩ := hrel
        by_cases hlt2 : i < xs.length
        · have hBl := HAi.out.bl.mono HBo.out
          obtain ⟨x, bb, off, hxk, rfl, hat, _⟩ := (HX.out.below hBl).get i hlt2
          have ti2 : decide ((i : Int) < (xs.length : Int)) = true := decide_eq_true (by omega)
          have hba : Below wr.heap.size wr (wr.alloc (.cells x.arr 84)) := (Below.refl _ _).alloc (Nat.le_refl _) _
          have HW := Lib.hid hba
          have hst : (xs.take (i + 1)).flatMap (askRun st n by_) = (xs.take i).flatMap (askRun st n by_) ++ askRun st n by_ x := by
            have h1 : xs[i] = x := by have := hxk.out; rw [List.getElem?_eq_getElem hlt2] at this; exact this
            rw [List.take_succ_eq_append_getElem hlt2, List.flatMap_append, h1]; simp
          have Hst0 := Lib.hid hst
          have hHar := Har0.out by_ x
          have HXA : Hid ((wr.alloc (.cells x.arr 84)).heap[wr.heap.size]? = some (.cells x.arr 84 (0, 0))) := Lib.hid (heap_alloc_new _ _)
          have f9 : IntKind.i64.wrap ((i : Int) + 1) = (i : Int) + 1 := IntWalk.i64_in _ (by omega)
          clear hst hba hBl
          obtain ⟨za, hza⟩ : ∃ z, lineOf x.ls ka = z := ⟨_, rfl⟩
          obtain ⟨zb, hzb⟩ : ∃ z, lineOf x.ls kb = z := ⟨_, rfl⟩
          rw [hza, hzb] at hHar
          have HCLa := Lib.hid fun W' hW' => c_side st za by_ x.from_ false Bs W' hW'
          have HCLb := Lib.hid fun W' hW' => c_side st zb by_ x.from_ false Bs W' hW'
          obtain ⟨ya, hya⟩ : ∃ y, dSide st za by_ x.from_ false = y := ⟨_, rfl⟩
          obtain ⟨yb, hyb⟩ : ∃ y, dSide st zb by_ x.from_ false = y := ⟨_, rfl⟩
          rw [hya, hyb] at hHar
          rw [hya] at HCLa
          rw [hyb] at HCLb
          clear hya hyb
          obtain ⟨za0, za1, za2⟩ := za
          obtain ⟨zb0, zb1, zb2⟩ := zb
          obtain ⟨x0, x1, x2, x3, x4, x5, x6, x7, x8, x9, x10, x11, x12, x13⟩ := x
          have Hza := Lib.hid hza
          have Hzb := Lib.hid hzb
          have Har := Lib.hid hHar
          clear hza hzb hHar
          unfold Run.arr at *
          dsimp only at HW HXA Har HCLa HCLb ⊢
          have p0 : wr.cell? ⟨bb, off + i * 14, none⟩ = some (.int .i64 x0) := hat 0 _ rfl
          have p1 : wr.cell? ⟨bb, off + i * 14 + 1, none⟩ = some (.int .i64 x1) := hat 1 _ rfl
          have p2 : wr.cell? ⟨bb, off + i * 14 + 2, none⟩ = some (.int .i64 x2) := hat 2 _ rfl
          have p3 : wr.cell? ⟨bb, off + i * 14 + 3, none⟩ = some (.int .i64 x3) := hat 3 _ rfl
          have p4 : wr.cell? ⟨bb, off + i * 14 + 4, none⟩ = some (.int .u32 x4) := hat 4 _ rfl
          have p5 : wr.cell? ⟨bb, off + i * 14 + 5, none⟩ = some (.int .i64 x5) := hat 5 _ rfl
          have p6 : wr.cell? ⟨bb, off + i * 14 + 6, none⟩ = some (.int .i64 x6) := hat 6 _ rfl
          have p7 : wr.cell? ⟨bb, off + i * 14 + 7, none⟩ = some (.int .u32 x7) := hat 7 _ rfl
          have p8 : wr.cell? ⟨bb, off + i * 14 + 8, none⟩ = some (.int .i64 x8) := hat 8 _ rfl
          have p9 : wr.cell? ⟨bb, off + i * 14 + 9, none⟩ = some (.int .i64 x9) := hat 9 _ rfl
          have p10 : wr.cell? ⟨bb, off + i * 14 + 10, none⟩ = some (.int .u32 x10) := hat 10 _ rfl
          have p11 : wr.cell? ⟨bb, off + i * 14 + 11, none⟩ = some (.int .i64 x11) := hat 11 _ rfl
          have p12 : wr.cell? ⟨bb, off + i * 14 + 12, none⟩ = some (.int .i64 x12) := hat 12 _ rfl
          have p13 : wr.cell? ⟨bb, off + i * 14 + 13, none⟩ = some (.int .u32 x13) := hat 13 _ rfl
          clear hat
          obtain ⟨LI, hLI⟩ : ∃ LI, lj ++ (xs.take i).flatMap (askRun st n by_) = LI := ⟨_, rfl⟩
          have HLI := Lib.hid hLI
          clear hLI
          have uka : (ka : Int) < 4 := by omega
          have ukb : (kb : Int) < 4 := by omega
          by_cases c1 : x1 = n
          · have t1 : (x1 == n) = true := by rw [c1]; exact beq_self_eq_true _
            by_cases c2 : x0 = n
            · have t2 : (x0 == n) = true := by rw [c2]; exact beq_self_eq_true _
              have q0 := cell_of (j := 0) HXA.out rfl
              have q1 := cell_of (j := 1) HXA.out rfl
              have Hst : Hid ((xs.take (i + 1)).flatMap (askRun st n by_) = (xs.take i).flatMap (askRun st n by_) ++ ([ya] ++ [yb])) := Lib.hid (by rw [Hst0.out, Har.out]; simp [c1, c2])
              clear c1 c2
              have HAx := Lib.hid (HAi.out.turn HW.out)
              have HKx := Lib.hid ((HW.out.block _ (Array.getElem?_eq_some_iff.1 HKi.out).1).trans HKi.out)
              rw [HLI.out] at HAx
              obtain ⟨ya0, ya1, ya2, ya3, ya4, ya5⟩ := ya
              unfold CT.Side.arr Line.arr at HCLa
              dsimp only at HCLa
              obtain ⟨yb0, yb1, yb2, yb3, yb4, yb5⟩ := yb
              unfold CT.Side.arr Line.arr at HCLb
              dsimp only at HCLb
              go_wp2_with (fail)
              generalize wr.alloc (.cells #[.int .i64 x0, .int .i64 x1, .int .i64 x2, .int .i64 x3, .int .u32 x4, .int .i64 x5, .int .i64 x6, .int .u32 x7, .int .i64 x8, .int .i64 x9, .int .u32 x10, .int .i64 x11, .int .i64 x12, .int .u32 x13] 84) = wx at *
              generalize wr.heap.size = XB at *
              obtain ⟨v, hv, hrow⟩ := HAx.out.row
              have HV := Lib.hid hv
              have HR := Lib.hid hrow
              have HBL := Lib.hid HAx.out.bl
              have HLF : Hid (LI.length ≤ 900000) := Lib.hid (by have := HLi.out; rw [HLI.out] at this; omega)
              have hDx := (HAx.out.bl.mono HBo.out)
              have D5 : Hid (wx.cell? ⟨Bd, 5, none⟩ = _) := Lib.hid ((hDx.cell (p := ⟨Bd, 5, none⟩) (World.block_lt_of_cell? _ _ D50.out)).trans D50.out)
              have D3 : Hid (wx.cell? ⟨Bd, 3, none⟩ = _) := Lib.hid ((hDx.cell (p := ⟨Bd, 3, none⟩) (World.block_lt_of_cell? _ _ D30.out)).trans D30.out)
              have HSd := Lib.hid fun e => (hDx.block _ (Array.getElem?_eq_some_iff.1 (HS0.out e)).1).trans (HS0.out e)
              obtain ⟨hz0, hz1, hz2⟩ := run_line (x := ⟨x0, x1, x2, x3, x4, x5, x6, x7, x8, x9, x10, x11, x12, x13⟩) HXA.out ka hka Hza.out
              have Z0 := Lib.hid hz0
              have Z1 := Lib.hid hz1
              have Z2 := Lib.hid hz2
              have KB : Hid (_ = some (Value.int .i64 by_)) := Lib.hid (cell_of (j := 1) HKx.out rfl)
              have X0 : Hid (_ = some (Value.int .i64 x0)) := Lib.hid (cell_of (j := 0) HXA.out rfl)
              have HK2 := HKx
              have HX2 := HXA
              clear hv hrow hDx hz0 hz1 hz2
              obtain ⟨I, hI0⟩ : ∃ I : OrdX.Off, I.row = none := ⟨⟨_⟩, rfl⟩
              have HIn : Hid (∀ b : Nat, some b ≠ OrdX.Off.row) := Lib.hid fun b e => by rw [hI0] at e; cases e
              clear hI0
              refine OrdX.wp_region_ordN 14 [(0, true), (1, true), (2, true), (3, true), (4, true), (5, true), (6, true), (7, true), (8, true), (9, true), (10, true), (11, true), (12, true), (13, false), (14, false), (15, false)] (by kernel_rfl) (by kernel_rfl) ?_
              intro Wc hWc
              apply OrdX.OrdAt.op OrdX.on_put rfl rfl rfl
              · intro X hB
                have s := OrdX.rd (hWc.g.tr hB) (HIn.out _) (HV.out.cell)
                go_simp
                try rfl
              · dsimp only [List.set_cons_zero, List.set_cons_succ]
              apply OrdX.OrdAt.op OrdX.on_put rfl rfl rfl
              · intro X hB
                go_simp
                try rfl
              · dsimp only [List.set_cons_zero, List.set_cons_succ]
              apply OrdX.OrdAt.op OrdX.on_put rfl rfl rfl
              · intro X hB
                have s := OrdX.rd (hWc.g.tr hB) (HIn.out _) (D5.out)
                go_simp
                try rfl
              · dsimp only [List.set_cons_zero, List.set_cons_succ]
              apply OrdX.OrdAt.op OrdX.on_put rfl rfl rfl
              · intro X hB
                go_simp
                try rfl
              · dsimp only [List.set_cons_zero, List.set_cons_succ]
              apply OrdX.OrdAt.op OrdX.on_put rfl rfl rfl
              · intro X hB
                have s := OrdX.rd (hWc.g.tr hB) (HIn.out _) (D3.out)
                go_simp
                try rfl
              · dsimp only [List.set_cons_zero, List.set_cons_succ]
              iterate 2
                apply OrdX.OrdAt.op OrdX.on_put rfl rfl rfl
                · intro X hB
                  go_simp
                  try rfl
                · dsimp only [List.set_cons_zero, List.set_cons_succ]
              apply OrdX.OrdAt.op OrdX.on_put rfl rfl rfl
              · intro X hB
                have s := OrdX.rd (hWc.g.tr hB) (HIn.out _) (Z0.out)
                have s1 := OrdX.rd (hWc.g.tr hB) (HIn.out _) (Z1.out)
                have s2 := OrdX.rd (hWc.g.tr hB) (HIn.out _) (Z2.out)
                go_simp
                try rfl
              · dsimp only [List.set_cons_zero, List.set_cons_succ]
              apply OrdX.OrdAt.op OrdX.on_put rfl rfl rfl
              · intro X hB
                go_simp
                try rfl
              · dsimp only [List.set_cons_zero, List.set_cons_succ]
              apply OrdX.OrdAt.op OrdX.on_put rfl rfl rfl
              · intro X hB
                have s := OrdX.rd (hWc.g.tr hB) (HIn.out _) (KB.out)
                go_simp
                try rfl
              · dsimp only [List.set_cons_zero, List.set_cons_succ]
              apply OrdX.OrdAt.op OrdX.on_put rfl rfl rfl
              · intro X hB
                go_simp
                try rfl
              · dsimp only [List.set_cons_zero, List.set_cons_succ]
              apply OrdX.OrdAt.op OrdX.on_put rfl rfl rfl
              · intro X hB
                have s := OrdX.rd (hWc.g.tr hB) (HIn.out _) (X0.out)
                go_simp
                try rfl
              · dsimp only [List.set_cons_zero, List.set_cons_succ]
              apply OrdX.OrdAt.call (f := if st = true then 65 else 64) (args := #[.agg #[.int .i64 za0, .int .i64 za1, .int .u32 za2], .int .i64 by_, .int .i64 x0, .bool false] ++ (if st = true then #[.pointer (some ⟨Bs, 0, none⟩)] else #[])) OrdX.on_put rfl rfl rfl
              · intro X hB
                cases st
                · simp only [dFn, Bool.false_eq_true, if_false]
                  go_simp
                  try rfl
                · simp only [dFn, if_true]
                  go_simp
                  try rfl
              · intro X hB
                refine (HCLa.out X (fun e => ((hWc.g.tr hB).block _ (Array.getElem?_eq_some_iff.1 (HSd.out e)).1 (HIn.out _)).trans (HSd.out e))).mono ?_
                rintro e W1 ⟨rfl, hb⟩
                exact ⟨rfl, hb⟩
              · dsimp only [List.set_cons_zero, List.set_cons_succ]
              refine OrdX.OrdAt.seq rfl rfl ?_
              intro X hB
              go_wp2_with (fail)
              refine ⟨.inr (World.grownBy_alloc X _ _), ?_⟩
              have hbx := hWc.trans (hB.mono hWc.size)
              have hba : Below X.heap.size X (X.alloc (.cells #[.int .i64 ya0, .int .i64 ya1, .int .u32 ya2, .int .i64 ya3, .int .i64 ya4, .int .i64 ya5] 45)) := (Below.refl _ _).alloc (Nat.le_refl _) _
              have hbb := hbx.trans (hba.mono hbx.size)
              have HBB := Lib.hid hbb
              have HM : Hid (GR.One CT.Side.cells 45 (X.alloc (.cells #[.int .i64 ya0, .int .i64 ya1, .int .u32 ya2, .int .i64 ya3, .int .i64 ya4, .int .i64 ya5] 45)) X.heap.size ⟨ya0, ya1, ya2, ya3, ya4, ya5⟩) := Lib.hid (GR.One.new (enc := CT.Side.cells) 45 X ⟨ya0, ya1, ya2, ya3, ya4, ya5⟩)
              clear hbx hba hbb hB hWc
              generalize X.alloc (.cells #[.int .i64 ya0, .int .i64 ya1, .int .u32 ya2, .int .i64 ya3, .int .i64 ya4, .int .i64 ya5] 45) = Y at *
              generalize X.heap.size = M at *
              refine OrdX.OrdAt.seq rfl rfl ?_
              intro X hB
              have hbx := HBB.out.trans (hB.mono HBB.out.size)
              have HVX : Hid (Boxed X Bo 79 v) := Lib.hid ((hbx.block _ HV.out.lt).trans HV.out)
              have HBX := Lib.hid (HBL.out.trans (hbx.mono (Nat.le_of_lt HV.out.lt)))
              have KNX := Lib.hid ((hbx.block _ (Array.getElem?_eq_some_iff.1 HK2.out).1).trans HK2.out)
              have XNX := Lib.hid ((hbx.block _ (Array.getElem?_eq_some_iff.1 HX2.out).1).trans HX2.out)
              refine GR.wp_app_one Side.len Side.one (by decide) (T := 79) (e := 45) (bytes := 48) (by kernel_rfl) info45 rfl (Bo + 1) _ _ rfl v LI.length LI rfl (GR.own_turn HR.out hbx) M 1 _ rfl (HM.out.turn hB) (by have := HLF.out; omega) (by decide) (by have := HVX.out.lt; omega) ?_
              intro v' W1 h1 h2 h3
              obtain ⟨bv, cv, rfl⟩ := own_some h1 (Nat.succ_ne_zero _)
              have KN1 := Lib.hid (row_keep (GR.own_turn HR.out hbx) h3 KNX.out (by decide))
              have XN1 := Lib.hid (row_keep (GR.own_turn HR.out hbx) h3 XNX.out (by decide))
              have H1 := Lib.hid h1
              have H2 := Lib.hid h2
              refine ⟨.inl (by decide), ?_⟩
              clear h1 h2 h3 hbx hB
              simp only [Act.put, List.setIfInBounds_toArray, List.set_cons_zero, List.set_cons_succ]
              refine OrdX.OrdAt.seq rfl rfl ?_
              intro X hB
              have H2X := Lib.hid (H2.out.trans (hB.mono (by have := H2.out.size; have := HVX.out.lt; omega)))
              have HV1 : Boxed X Bo 79 v := (H2X.out.block _ (by omega)).trans HVX.out
              have s := HV1.cell
              have fz := HV1.frozen
              have hown := GR.own_turn H1.out hB
              have HE := Lib.hid (Ask.app HBX.out ⟨_, HVX.out⟩ hown (by simp) H2X.out)
              have KN3 : Hid ((X.setCell ⟨Bo, 0, none⟩ (.slice (some ⟨bv, 0, none⟩) (LI.length + 1) cv)).heap[K0]? = _) := Lib.hid (set_keep HV1 ((hB.block _ (Array.getElem?_eq_some_iff.1 KN1.out).1).trans KN1.out) (by decide))
              have XN3 : Hid ((X.setCell ⟨Bo, 0, none⟩ (.slice (some ⟨bv, 0, none⟩) (LI.length + 1) cv)).heap[XB]? = _) := Lib.hid (set_keep HV1 ((hB.block _ (Array.getElem?_eq_some_iff.1 XN1.out).1).trans XN1.out) (by decide))
              clear hown HV1 hB
              go_wp2_with (fail)
              refine ⟨.inl (by decide), OrdX.OrdAt.done ?_⟩
              intro W9 hW9
              refine OrdX.on_normal ?_
              have HE9 := Lib.hid (HE.out.turn hW9)
              have KN9 := Lib.hid ((hW9.block _ (Array.getElem?_eq_some_iff.1 KN3.out).1).trans KN3.out)
              have XN9 := Lib.hid ((hW9.block _ (Array.getElem?_eq_some_iff.1 XN3.out).1).trans XN3.out)
              clear hW9 HE s fz KNX KN1 KN3 XNX XN1 XN3
              clear HV HR HBL D5 D3 HSd Z0 Z1 Z2 KB X0 HK2 HX2 HLF HBB HM HVX HBX H1 H2 H2X q0 q1
              obtain ⟨LI2, hLI2⟩ : ∃ L, LI ++ [(⟨ya0, ya1, ya2, ya3, ya4, ya5⟩ : CT.Side)] = L := ⟨_, rfl⟩
              rw [hLI2] at HE9
              have HLI2 := Lib.hid hLI2
              have HLL2 : Hid (LI2.length = LI.length + 1) := Lib.hid (by rw [← hLI2, List.length_append, List.length_singleton])
              clear hLI2
              have r0 := cell_of (j := 0) XN9.out rfl
              go_wp2_with (fail)
              obtain ⟨v, hv, hrow⟩ := HE9.out.row
              have HV := Lib.hid hv
              have HR := Lib.hid hrow
              have HBL := Lib.hid HE9.out.bl
              have HLF : Hid (LI2.length ≤ 900000) := Lib.hid (by have := HLL2.out; have := HLi.out; rw [HLI.out] at this; omega)
              have hDx := (HE9.out.bl.mono HBo.out)
              have D5 : Hid (W9.cell? ⟨Bd, 5, none⟩ = _) := Lib.hid ((hDx.cell (p := ⟨Bd, 5, none⟩) (World.block_lt_of_cell? _ _ D50.out)).trans D50.out)
              have D3 : Hid (W9.cell? ⟨Bd, 4, none⟩ = _) := Lib.hid ((hDx.cell (p := ⟨Bd, 4, none⟩) (World.block_lt_of_cell? _ _ D40.out)).trans D40.out)
              have HSd := Lib.hid fun e => (hDx.block _ (Array.getElem?_eq_some_iff.1 (HS0.out e)).1).trans (HS0.out e)
              obtain ⟨hz0, hz1, hz2⟩ := run_line (x := ⟨x0, x1, x2, x3, x4, x5, x6, x7, x8, x9, x10, x11, x12, x13⟩) XN9.out kb hkb Hzb.out
              have Z0 := Lib.hid hz0
              have Z1 := Lib.hid hz1
              have Z2 := Lib.hid hz2
              have KB : Hid (_ = some (Value.int .i64 by_)) := Lib.hid (cell_of (j := 1) KN9.out rfl)
              have X0 : Hid (_ = some (Value.int .i64 x0)) := Lib.hid (cell_of (j := 0) XN9.out rfl)
              have HK2 := KN9
              have HX2 := XN9
              clear hv hrow hDx hz0 hz1 hz2
              obtain ⟨I, hI0⟩ : ∃ I : OrdX.Off, I.row = none := ⟨⟨_⟩, rfl⟩
              have HIn : Hid (∀ b : Nat, some b ≠ OrdX.Off.row) := Lib.hid fun b e => by rw [hI0] at e; cases e
              clear hI0
              refine OrdX.wp_region_ordN 14 [(0, true), (1, true), (2, true), (3, true), (4, true), (5, true), (6, true), (7, true), (8, true), (9, true), (10, true), (11, true), (12, true), (13, false), (14, false), (15, false)] (by kernel_rfl) (by kernel_rfl) ?_
              intro Wc hWc
              apply OrdX.OrdAt.op OrdX.on_put rfl rfl rfl
              · intro X hB
                have s := OrdX.rd (hWc.g.tr hB) (HIn.out _) (HV.out.cell)
                go_simp
                try rfl
              · dsimp only [List.set_cons_zero, List.set_cons_succ]
              apply OrdX.OrdAt.op OrdX.on_put rfl rfl rfl
              · intro X hB
                go_simp
                try rfl
              · dsimp only [List.set_cons_zero, List.set_cons_succ]
              apply OrdX.OrdAt.op OrdX.on_put rfl rfl rfl
              · intro X hB
                have s := OrdX.rd (hWc.g.tr hB) (HIn.out _) (D5.out)
                go_simp
                try rfl
              · dsimp only [List.set_cons_zero, List.set_cons_succ]
              apply OrdX.OrdAt.op OrdX.on_put rfl rfl rfl
              · intro X hB
                go_simp
                try rfl
              · dsimp only [List.set_cons_zero, List.set_cons_succ]
              apply OrdX.OrdAt.op OrdX.on_put rfl rfl rfl
              · intro X hB
                have s := OrdX.rd (hWc.g.tr hB) (HIn.out _) (D3.out)
                go_simp
                try rfl
              · dsimp only [List.set_cons_zero, List.set_cons_succ]
              iterate 2
                apply OrdX.OrdAt.op OrdX.on_put rfl rfl rfl
                · intro X hB
                  go_simp
                  try rfl
                · dsimp only [List.set_cons_zero, List.set_cons_succ]
              apply OrdX.OrdAt.op OrdX.on_put rfl rfl rfl
              · intro X hB
                have s := OrdX.rd (hWc.g.tr hB) (HIn.out _) (Z0.out)
                have s1 := OrdX.rd (hWc.g.tr hB) (HIn.out _) (Z1.out)
                have s2 := OrdX.rd (hWc.g.tr hB) (HIn.out _) (Z2.out)
                go_simp
                try rfl
              · dsimp only [List.set_cons_zero, List.set_cons_succ]
              apply OrdX.OrdAt.op OrdX.on_put rfl rfl rfl
              · intro X hB
                go_simp
                try rfl
              · dsimp only [List.set_cons_zero, List.set_cons_succ]
              apply OrdX.OrdAt.op OrdX.on_put rfl rfl rfl
              · intro X hB
                have s := OrdX.rd (hWc.g.tr hB) (HIn.out _) (KB.out)
                go_simp
                try rfl
              · dsimp only [List.set_cons_zero, List.set_cons_succ]
              apply OrdX.OrdAt.op OrdX.on_put rfl rfl rfl
              · intro X hB
                go_simp
                try rfl
              · dsimp only [List.set_cons_zero, List.set_cons_succ]
              apply OrdX.OrdAt.op OrdX.on_put rfl rfl rfl
              · intro X hB
                have s := OrdX.rd (hWc.g.tr hB) (HIn.out _) (X0.out)
                go_simp
                try rfl
              · dsimp only [List.set_cons_zero, List.set_cons_succ]
              apply OrdX.OrdAt.call (f := if st = true then 65 else 64) (args := #[.agg #[.int .i64 zb0, .int .i64 zb1, .int .u32 zb2], .int .i64 by_, .int .i64 x0, .bool false] ++ (if st = true then #[.pointer (some ⟨Bs, 0, none⟩)] else #[])) OrdX.on_put rfl rfl rfl
              · intro X hB
                cases st
                · simp only [dFn, Bool.false_eq_true, if_false]
                  go_simp
                  try rfl
                · simp only [dFn, if_true]
                  go_simp
                  try rfl
              · intro X hB
                refine (HCLb.out X (fun e => ((hWc.g.tr hB).block _ (Array.getElem?_eq_some_iff.1 (HSd.out e)).1 (HIn.out _)).trans (HSd.out e))).mono ?_
                rintro e W1 ⟨rfl, hb⟩
                exact ⟨rfl, hb⟩
              · dsimp only [List.set_cons_zero, List.set_cons_succ]
              refine OrdX.OrdAt.seq rfl rfl ?_
              intro X hB
              go_wp2_with (fail)
              refine ⟨.inr (World.grownBy_alloc X _ _), ?_⟩
              have hbx := hWc.trans (hB.mono hWc.size)
              have hba : Below X.heap.size X (X.alloc (.cells #[.int .i64 yb0, .int .i64 yb1, .int .u32 yb2, .int .i64 yb3, .int .i64 yb4, .int .i64 yb5] 45)) := (Below.refl _ _).alloc (Nat.le_refl _) _
              have hbb := hbx.trans (hba.mono hbx.size)
              have HBB := Lib.hid hbb
              have HM : Hid (GR.One CT.Side.cells 45 (X.alloc (.cells #[.int .i64 yb0, .int .i64 yb1, .int .u32 yb2, .int .i64 yb3, .int .i64 yb4, .int .i64 yb5] 45)) X.heap.size ⟨yb0, yb1, yb2, yb3, yb4, yb5⟩) := Lib.hid (GR.One.new (enc := CT.Side.cells) 45 X ⟨yb0, yb1, yb2, yb3, yb4, yb5⟩)
              clear hbx hba hbb hB hWc
              generalize X.alloc (.cells #[.int .i64 yb0, .int .i64 yb1, .int .u32 yb2, .int .i64 yb3, .int .i64 yb4, .int .i64 yb5] 45) = Y at *
              generalize X.heap.size = M at *
              refine OrdX.OrdAt.seq rfl rfl ?_
              intro X hB
              have hbx := HBB.out.trans (hB.mono HBB.out.size)
              have HVX : Hid (Boxed X Bo 79 v) := Lib.hid ((hbx.block _ HV.out.lt).trans HV.out)
              have HBX := Lib.hid (HBL.out.trans (hbx.mono (Nat.le_of_lt HV.out.lt)))
              have KNX := Lib.hid ((hbx.block _ (Array.getElem?_eq_some_iff.1 HK2.out).1).trans HK2.out)
              have XNX := Lib.hid ((hbx.block _ (Array.getElem?_eq_some_iff.1 HX2.out).1).trans HX2.out)
              refine GR.wp_app_one Side.len Side.one (by decide) (T := 79) (e := 45) (bytes := 48) (by kernel_rfl) info45 rfl (Bo + 1) _ _ rfl v LI2.length LI2 rfl (GR.own_turn HR.out hbx) M 1 _ rfl (HM.out.turn hB) (by have := HLF.out; omega) (by decide) (by have := HVX.out.lt; omega) ?_
              intro v' W1 h1 h2 h3
              obtain ⟨bv, cv, rfl⟩ := own_some h1 (Nat.succ_ne_zero _)
              have KN1 := Lib.hid (row_keep (GR.own_turn HR.out hbx) h3 KNX.out (by decide))
              have XN1 := Lib.hid (row_keep (GR.own_turn HR.out hbx) h3 XNX.out (by decide))
              have H1 := Lib.hid h1
              have H2 := Lib.hid h2
              refine ⟨.inl (by decide), ?_⟩
              clear h1 h2 h3 hbx hB
              simp only [Act.put, List.setIfInBounds_toArray, List.set_cons_zero, List.set_cons_succ]
              refine OrdX.OrdAt.seq rfl rfl ?_
              intro X hB
              have H2X := Lib.hid (H2.out.trans (hB.mono (by have := H2.out.size; have := HVX.out.lt; omega)))
              have HV1 : Boxed X Bo 79 v := (H2X.out.block _ (by omega)).trans HVX.out
              have s := HV1.cell
              have fz := HV1.frozen
              have hown := GR.own_turn H1.out hB
              have HE := Lib.hid (Ask.app HBX.out ⟨_, HVX.out⟩ hown (by simp) H2X.out)
              have KN3 : Hid ((X.setCell ⟨Bo, 0, none⟩ (.slice (some ⟨bv, 0, none⟩) (LI2.length + 1) cv)).heap[K0]? = _) := Lib.hid (set_keep HV1 ((hB.block _ (Array.getElem?_eq_some_iff.1 KN1.out).1).trans KN1.out) (by decide))
              have XN3 : Hid ((X.setCell ⟨Bo, 0, none⟩ (.slice (some ⟨bv, 0, none⟩) (LI2.length + 1) cv)).heap[XB]? = _) := Lib.hid (set_keep HV1 ((hB.block _ (Array.getElem?_eq_some_iff.1 XN1.out).1).trans XN1.out) (by decide))
              clear hown HV1 hB
              go_wp2_with (fail)
              refine ⟨.inl (by decide), OrdX.OrdAt.done ?_⟩
              intro W9 hW9
              refine OrdX.on_normal ?_
              have HE9 := Lib.hid (HE.out.turn hW9)
              have KN9 := Lib.hid ((hW9.block _ (Array.getElem?_eq_some_iff.1 KN3.out).1).trans KN3.out)
              have XN9 := Lib.hid ((hW9.block _ (Array.getElem?_eq_some_iff.1 XN3.out).1).trans XN3.out)
              clear hW9 HE s fz KNX KN1 KN3 XNX XN1 XN3
              go_wp2_with (fail)
              go_roundw
              case rel =>
                refine ⟨i + 1, by omega, by go_num, ?_, ?_, KN9⟩
                · rw [Hst.out, ← List.append_assoc, HLI.out]; rw [← List.append_assoc, HLI2.out]; exact HE9
                · rw [Hst.out, ← List.append_assoc, HLI.out]; exact Lib.hid (by simp; have := HLi.out; rw [HLI.out] at this; omega)
              case measure => simp [intOf]; omega
            · have t2 : (x0 == n) = false := by rw [beq_eq_false_iff_ne]; exact c2
              have q0 := cell_of (j := 0) HXA.out rfl
              have q1 := cell_of (j := 1) HXA.out rfl
              have Hst : Hid ((xs.take (i + 1)).flatMap (askRun st n by_) = (xs.take i).flatMap (askRun st n by_) ++ [ya]) := Lib.hid (by rw [Hst0.out, Har.out]; simp [c1, c2])
              clear c1 c2
              have HAx := Lib.hid (HAi.out.turn HW.out)
              have HKx := Lib.hid ((HW.out.block _ (Array.getElem?_eq_some_iff.1 HKi.out).1).trans HKi.out)
              rw [HLI.out] at HAx
              obtain ⟨ya0, ya1, ya2, ya3, ya4, ya5⟩ := ya
              unfold CT.Side.arr Line.arr at HCLa
              dsimp only at HCLa
              go_wp2_with (fail)
              generalize wr.alloc (.cells #[.int .i64 x0, .int .i64 x1, .int .i64 x2, .int .i64 x3, .int .u32 x4, .int .i64 x5, .int .i64 x6, .int .u32 x7, .int .i64 x8, .int .i64 x9, .int .u32 x10, .int .i64 x11, .int .i64 x12, .int .u32 x13] 84) = wx at *
              generalize wr.heap.size = XB at *
              obtain ⟨v, hv, hrow⟩ := HAx.out.row
              have HV := Lib.hid hv
              have HR := Lib.hid hrow
              have HBL := Lib.hid HAx.out.bl
              have HLF : Hid (LI.length ≤ 900000) := Lib.hid (by have := HLi.out; rw [HLI.out] at this; omega)
              have hDx := (HAx.out.bl.mono HBo.out)
              have D5 : Hid (wx.cell? ⟨Bd, 5, none⟩ = _) := Lib.hid ((hDx.cell (p := ⟨Bd, 5, none⟩) (World.block_lt_of_cell? _ _ D50.out)).trans D50.out)
              have D3 : Hid (wx.cell? ⟨Bd, 3, none⟩ = _) := Lib.hid ((hDx.cell (p := ⟨Bd, 3, none⟩) (World.block_lt_of_cell? _ _ D30.out)).trans D30.out)
              have HSd := Lib.hid fun e => (hDx.block _ (Array.getElem?_eq_some_iff.1 (HS0.out e)).1).trans (HS0.out e)
              obtain ⟨hz0, hz1, hz2⟩ := run_line (x := ⟨x0, x1, x2, x3, x4, x5, x6, x7, x8, x9, x10, x11, x12, x13⟩) HXA.out ka hka Hza.out
              have Z0 := Lib.hid hz0
              have Z1 := Lib.hid hz1
              have Z2 := Lib.hid hz2
              have KB : Hid (_ = some (Value.int .i64 by_)) := Lib.hid (cell_of (j := 1) HKx.out rfl)
              have X0 : Hid (_ = some (Value.int .i64 x0)) := Lib.hid (cell_of (j := 0) HXA.out rfl)
              have HK2 := HKx
              have HX2 := HXA
              clear hv hrow hDx hz0 hz1 hz2
              obtain ⟨I, hI0⟩ : ∃ I : OrdX.Off, I.row = none := ⟨⟨_⟩, rfl⟩
              have HIn : Hid (∀ b : Nat, some b ≠ OrdX.Off.row) := Lib.hid fun b e => by rw [hI0] at e; cases e
              clear hI0
              refine OrdX.wp_region_ordN 14 [(0, true), (1, true), (2, true), (3, true), (4, true), (5, true), (6, true), (7, true), (8, true), (9, true), (10, true), (11, true), (12, true), (13, false), (14, false), (15, false)] (by kernel_rfl) (by kernel_rfl) ?_
              intro Wc hWc
              apply OrdX.OrdAt.op OrdX.on_put rfl rfl rfl
              · intro X hB
                have s := OrdX.rd (hWc.g.tr hB) (HIn.out _) (HV.out.cell)
                go_simp
                try rfl
              · dsimp only [List.set_cons_zero, List.set_cons_succ]
              apply OrdX.OrdAt.op OrdX.on_put rfl rfl rfl
              · intro X hB
                go_simp
                try rfl
              · dsimp only [List.set_cons_zero, List.set_cons_succ]
              apply OrdX.OrdAt.op OrdX.on_put rfl rfl rfl
              · intro X hB
                have s := OrdX.rd (hWc.g.tr hB) (HIn.out _) (D5.out)
                go_simp
                try rfl
              · dsimp only [List.set_cons_zero, List.set_cons_succ]
              apply OrdX.OrdAt.op OrdX.on_put rfl rfl rfl
              · intro X hB
                go_simp
                try rfl
              · dsimp only [List.set_cons_zero, List.set_cons_succ]
              apply OrdX.OrdAt.op OrdX.on_put rfl rfl rfl
              · intro X hB
                have s := OrdX.rd (hWc.g.tr hB) (HIn.out _) (D3.out)
                go_simp
                try rfl
              · dsimp only [List.set_cons_zero, List.set_cons_succ]
              iterate 2
                apply OrdX.OrdAt.op OrdX.on_put rfl rfl rfl
                · intro X hB
                  go_simp
                  try rfl
                · dsimp only [List.set_cons_zero, List.set_cons_succ]
              apply OrdX.OrdAt.op OrdX.on_put rfl rfl rfl
              · intro X hB
                have s := OrdX.rd (hWc.g.tr hB) (HIn.out _) (Z0.out)
                have s1 := OrdX.rd (hWc.g.tr hB) (HIn.out _) (Z1.out)
                have s2 := OrdX.rd (hWc.g.tr hB) (HIn.out _) (Z2.out)
                go_simp
                try rfl
              · dsimp only [List.set_cons_zero, List.set_cons_succ]
              apply OrdX.OrdAt.op OrdX.on_put rfl rfl rfl
              · intro X hB
                go_simp
                try rfl
              · dsimp only [List.set_cons_zero, List.set_cons_succ]
              apply OrdX.OrdAt.op OrdX.on_put rfl rfl rfl
              · intro X hB
                have s := OrdX.rd (hWc.g.tr hB) (HIn.out _) (KB.out)
                go_simp
                try rfl
              · dsimp only [List.set_cons_zero, List.set_cons_succ]
              apply OrdX.OrdAt.op OrdX.on_put rfl rfl rfl
              · intro X hB
                go_simp
                try rfl
              · dsimp only [List.set_cons_zero, List.set_cons_succ]
              apply OrdX.OrdAt.op OrdX.on_put rfl rfl rfl
              · intro X hB
                have s := OrdX.rd (hWc.g.tr hB) (HIn.out _) (X0.out)
                go_simp
                try rfl
              · dsimp only [List.set_cons_zero, List.set_cons_succ]
              apply OrdX.OrdAt.call (f := if st = true then 65 else 64) (args := #[.agg #[.int .i64 za0, .int .i64 za1, .int .u32 za2], .int .i64 by_, .int .i64 x0, .bool false] ++ (if st = true then #[.pointer (some ⟨Bs, 0, none⟩)] else #[])) OrdX.on_put rfl rfl rfl
              · intro X hB
                cases st
                · simp only [dFn, Bool.false_eq_true, if_false]
                  go_simp
                  try rfl
                · simp only [dFn, if_true]
                  go_simp
                  try rfl
              · intro X hB
                refine (HCLa.out X (fun e => ((hWc.g.tr hB).block _ (Array.getElem?_eq_some_iff.1 (HSd.out e)).1 (HIn.out _)).trans (HSd.out e))).mono ?_
                rintro e W1 ⟨rfl, hb⟩
                exact ⟨rfl, hb⟩
              · dsimp only [List.set_cons_zero, List.set_cons_succ]
              refine OrdX.OrdAt.seq rfl rfl ?_
              intro X hB
              go_wp2_with (fail)
              refine ⟨.inr (World.grownBy_alloc X _ _), ?_⟩
              have hbx := hWc.trans (hB.mono hWc.size)
              have hba : Below X.heap.size X (X.alloc (.cells #[.int .i64 ya0, .int .i64 ya1, .int .u32 ya2, .int .i64 ya3, .int .i64 ya4, .int .i64 ya5] 45)) := (Below.refl _ _).alloc (Nat.le_refl _) _
              have hbb := hbx.trans (hba.mono hbx.size)
              have HBB := Lib.hid hbb
              have HM : Hid (GR.One CT.Side.cells 45 (X.alloc (.cells #[.int .i64 ya0, .int .i64 ya1, .int .u32 ya2, .int .i64 ya3, .int .i64 ya4, .int .i64 ya5] 45)) X.heap.size ⟨ya0, ya1, ya2, ya3, ya4, ya5⟩) := Lib.hid (GR.One.new (enc := CT.Side.cells) 45 X ⟨ya0, ya1, ya2, ya3, ya4, ya5⟩)
              clear hbx hba hbb hB hWc
              generalize X.alloc (.cells #[.int .i64 ya0, .int .i64 ya1, .int .u32 ya2, .int .i64 ya3, .int .i64 ya4, .int .i64 ya5] 45) = Y at *
              generalize X.heap.size = M at *
              refine OrdX.OrdAt.seq rfl rfl ?_
              intro X hB
              have hbx := HBB.out.trans (hB.mono HBB.out.size)
              have HVX : Hid (Boxed X Bo 79 v) := Lib.hid ((hbx.block _ HV.out.lt).trans HV.out)
              have HBX := Lib.hid (HBL.out.trans (hbx.mono (Nat.le_of_lt HV.out.lt)))
              have KNX := Lib.hid ((hbx.block _ (Array.getElem?_eq_some_iff.1 HK2.out).1).trans HK2.out)
              have XNX := Lib.hid ((hbx.block _ (Array.getElem?_eq_some_iff.1 HX2.out).1).trans HX2.out)
              refine GR.wp_app_one Side.len Side.one (by decide) (T := 79) (e := 45) (bytes := 48) (by kernel_rfl) info45 rfl (Bo + 1) _ _ rfl v LI.length LI rfl (GR.own_turn HR.out hbx) M 1 _ rfl (HM.out.turn hB) (by have := HLF.out; omega) (by decide) (by have := HVX.out.lt; omega) ?_
              intro v' W1 h1 h2 h3
              obtain ⟨bv, cv, rfl⟩ := own_some h1 (Nat.succ_ne_zero _)
              have KN1 := Lib.hid (row_keep (GR.own_turn HR.out hbx) h3 KNX.out (by decide))
              have XN1 := Lib.hid (row_keep (GR.own_turn HR.out hbx) h3 XNX.out (by decide))
              have H1 := Lib.hid h1
              have H2 := Lib.hid h2
              refine ⟨.inl (by decide), ?_⟩
              clear h1 h2 h3 hbx hB
              simp only [Act.put, List.setIfInBounds_toArray, List.set_cons_zero, List.set_cons_succ]
              refine OrdX.OrdAt.seq rfl rfl ?_
              intro X hB
              have H2X := Lib.hid (H2.out.trans (hB.mono (by have := H2.out.size; have := HVX.out.lt; omega)))
              have HV1 : Boxed X Bo 79 v := (H2X.out.block _ (by omega)).trans HVX.out
              have s := HV1.cell
              have fz := HV1.frozen
              have hown := GR.own_turn H1.out hB
              have HE := Lib.hid (Ask.app HBX.out ⟨_, HVX.out⟩ hown (by simp) H2X.out)
              have KN3 : Hid ((X.setCell ⟨Bo, 0, none⟩ (.slice (some ⟨bv, 0, none⟩) (LI.length + 1) cv)).heap[K0]? = _) := Lib.hid (set_keep HV1 ((hB.block _ (Array.getElem?_eq_some_iff.1 KN1.out).1).trans KN1.out) (by decide))
              have XN3 : Hid ((X.setCell ⟨Bo, 0, none⟩ (.slice (some ⟨bv, 0, none⟩) (LI.length + 1) cv)).heap[XB]? = _) := Lib.hid (set_keep HV1 ((hB.block _ (Array.getElem?_eq_some_iff.1 XN1.out).1).trans XN1.out) (by decide))
              clear hown HV1 hB
              go_wp2_with (fail)
              refine ⟨.inl (by decide), OrdX.OrdAt.done ?_⟩
              intro W9 hW9
              refine OrdX.on_normal ?_
              have HE9 := Lib.hid (HE.out.turn hW9)
              have KN9 := Lib.hid ((hW9.block _ (Array.getElem?_eq_some_iff.1 KN3.out).1).trans KN3.out)
              have XN9 := Lib.hid ((hW9.block _ (Array.getElem?_eq_some_iff.1 XN3.out).1).trans XN3.out)
              clear hW9 HE s fz KNX KN1 KN3 XNX XN1 XN3
              clear HV HR HBL D5 D3 HSd Z0 Z1 Z2 KB X0 HK2 HX2 HLF HBB HM HVX HBX H1 H2 H2X q0 q1
              have r0 := cell_of (j := 0) XN9.out rfl
              go_wp2_with (fail)
              go_roundw
              case rel =>
                refine ⟨i + 1, by omega, by go_num, ?_, ?_, KN9⟩
                · rw [Hst.out, ← List.append_assoc, HLI.out]; exact HE9
                · rw [Hst.out, ← List.append_assoc, HLI.out]; exact Lib.hid (by simp; have := HLi.out; rw [HLI.out] at this; omega)
              case measure => simp [intOf]; omega
          · have t1 : (x1 == n) = false := by rw [beq_eq_false_iff_ne]; exact c1
            by_cases c2 : x0 = n
            · have t2 : (x0 == n) = true := by rw [c2]; exact beq_self_eq_true _
              have q0 := cell_of (j := 0) HXA.out rfl
              have q1 := cell_of (j := 1) HXA.out rfl
              have Hst : Hid ((xs.take (i + 1)).flatMap (askRun st n by_) = (xs.take i).flatMap (askRun st n by_) ++ [yb]) := Lib.hid (by rw [Hst0.out, Har.out]; simp [c1, c2])
              clear c1 c2
              have HAx := Lib.hid (HAi.out.turn HW.out)
              have HKx := Lib.hid ((HW.out.block _ (Array.getElem?_eq_some_iff.1 HKi.out).1).trans HKi.out)
              rw [HLI.out] at HAx
              obtain ⟨yb0, yb1, yb2, yb3, yb4, yb5⟩ := yb
              unfold CT.Side.arr Line.arr at HCLb
              dsimp only at HCLb
              go_wp2_with (fail)
              generalize wr.alloc (.cells #[.int .i64 x0, .int .i64 x1, .int .i64 x2, .int .i64 x3, .int .u32 x4, .int .i64 x5, .int .i64 x6, .int .u32 x7, .int .i64 x8, .int .i64 x9, .int .u32 x10, .int .i64 x11, .int .i64 x12, .int .u32 x13] 84) = wx at *
              generalize wr.heap.size = XB at *
              obtain ⟨v, hv, hrow⟩ := HAx.out.row
              have HV := Lib.hid hv
              have HR := Lib.hid hrow
              have HBL := Lib.hid HAx.out.bl
              have HLF : Hid (LI.length ≤ 900000) := Lib.hid (by have := HLi.out; rw [HLI.out] at this; omega)
              have hDx := (HAx.out.bl.mono HBo.out)
              have D5 : Hid (wx.cell? ⟨Bd, 5, none⟩ = _) := Lib.hid ((hDx.cell (p := ⟨Bd, 5, none⟩) (World.block_lt_of_cell? _ _ D50.out)).trans D50.out)
              have D3 : Hid (wx.cell? ⟨Bd, 4, none⟩ = _) := Lib.hid ((hDx.cell (p := ⟨Bd, 4, none⟩) (World.block_lt_of_cell? _ _ D40.out)).trans D40.out)
              have HSd := Lib.hid fun e => (hDx.block _ (Array.getElem?_eq_some_iff.1 (HS0.out e)).1).trans (HS0.out e)
              obtain ⟨hz0, hz1, hz2⟩ := run_line (x := ⟨x0, x1, x2, x3, x4, x5, x6, x7, x8, x9, x10, x11, x12, x13⟩) HXA.out kb hkb Hzb.out
              have Z0 := Lib.hid hz0
              have Z1 := Lib.hid hz1
              have Z2 := Lib.hid hz2
              have KB : Hid (_ = some (Value.int .i64 by_)) := Lib.hid (cell_of (j := 1) HKx.out rfl)
              have X0 : Hid (_ = some (Value.int .i64 x0)) := Lib.hid (cell_of (j := 0) HXA.out rfl)
              have HK2 := HKx
              have HX2 := HXA
              clear hv hrow hDx hz0 hz1 hz2
              obtain ⟨I, hI0⟩ : ∃ I : OrdX.Off, I.row = none := ⟨⟨_⟩, rfl⟩
              have HIn : Hid (∀ b : Nat, some b ≠ OrdX.Off.row) := Lib.hid fun b e => by rw [hI0] at e; cases e
              clear hI0
              refine OrdX.wp_region_ordN 14 [(0, true), (1, true), (2, true), (3, true), (4, true), (5, true), (6, true), (7, true), (8, true), (9, true), (10, true), (11, true), (12, true), (13, false), (14, false), (15, false)] (by kernel_rfl) (by kernel_rfl) ?_
              intro Wc hWc
              apply OrdX.OrdAt.op OrdX.on_put rfl rfl rfl
              · intro X hB
                have s := OrdX.rd (hWc.g.tr hB) (HIn.out _) (HV.out.cell)
                go_simp
                try rfl
              · dsimp only [List.set_cons_zero, List.set_cons_succ]
              apply OrdX.OrdAt.op OrdX.on_put rfl rfl rfl
              · intro X hB
                go_simp
                try rfl
              · dsimp only [List.set_cons_zero, List.set_cons_succ]
              apply OrdX.OrdAt.op OrdX.on_put rfl rfl rfl
              · intro X hB
                have s := OrdX.rd (hWc.g.tr hB) (HIn.out _) (D5.out)
                go_simp
                try rfl
              · dsimp only [List.set_cons_zero, List.set_cons_succ]
              apply OrdX.OrdAt.op OrdX.on_put rfl rfl rfl
              · intro X hB
                go_simp
                try rfl
              · dsimp only [List.set_cons_zero, List.set_cons_succ]
              apply OrdX.OrdAt.op OrdX.on_put rfl rfl rfl
              · intro X hB
                have s := OrdX.rd (hWc.g.tr hB) (HIn.out _) (D3.out)
                go_simp
                try rfl
              · dsimp only [List.set_cons_zero, List.set_cons_succ]
              iterate 2
                apply OrdX.OrdAt.op OrdX.on_put rfl rfl rfl
                · intro X hB
                  go_simp
                  try rfl
                · dsimp only [List.set_cons_zero, List.set_cons_succ]
              apply OrdX.OrdAt.op OrdX.on_put rfl rfl rfl
              · intro X hB
                have s := OrdX.rd (hWc.g.tr hB) (HIn.out _) (Z0.out)
                have s1 := OrdX.rd (hWc.g.tr hB) (HIn.out _) (Z1.out)
                have s2 := OrdX.rd (hWc.g.tr hB) (HIn.out _) (Z2.out)
                go_simp
                try rfl
              · dsimp only [List.set_cons_zero, List.set_cons_succ]
              apply OrdX.OrdAt.op OrdX.on_put rfl rfl rfl
              · intro X hB
                go_simp
                try rfl
              · dsimp only [List.set_cons_zero, List.set_cons_succ]
              apply OrdX.OrdAt.op OrdX.on_put rfl rfl rfl
              · intro X hB
                have s := OrdX.rd (hWc.g.tr hB) (HIn.out _) (KB.out)
                go_simp
                try rfl
              · dsimp only [List.set_cons_zero, List.set_cons_succ]
              apply OrdX.OrdAt.op OrdX.on_put rfl rfl rfl
              · intro X hB
                go_simp
                try rfl
              · dsimp only [List.set_cons_zero, List.set_cons_succ]
              apply OrdX.OrdAt.op OrdX.on_put rfl rfl rfl
              · intro X hB
                have s := OrdX.rd (hWc.g.tr hB) (HIn.out _) (X0.out)
                go_simp
                try rfl
              · dsimp only [List.set_cons_zero, List.set_cons_succ]
              apply OrdX.OrdAt.call (f := if st = true then 65 else 64) (args := #[.agg #[.int .i64 zb0, .int .i64 zb1, .int .u32 zb2], .int .i64 by_, .int .i64 x0, .bool false] ++ (if st = true then #[.pointer (some ⟨Bs, 0, none⟩)] else #[])) OrdX.on_put rfl rfl rfl
              · intro X hB
                cases st
                · simp only [dFn, Bool.false_eq_true, if_false]
                  go_simp
                  try rfl
                · simp only [dFn, if_true]
                  go_simp
                  try rfl
              · intro X hB
                refine (HCLb.out X (fun e => ((hWc.g.tr hB).block _ (Array.getElem?_eq_some_iff.1 (HSd.out e)).1 (HIn.out _)).trans (HSd.out e))).mono ?_
                rintro e W1 ⟨rfl, hb⟩
                exact ⟨rfl, hb⟩
              · dsimp only [List.set_cons_zero, List.set_cons_succ]
              refine OrdX.OrdAt.seq rfl rfl ?_
              intro X hB
              go_wp2_with (fail)
              refine ⟨.inr (World.grownBy_alloc X _ _), ?_⟩
              have hbx := hWc.trans (hB.mono hWc.size)
              have hba : Below X.heap.size X (X.alloc (.cells #[.int .i64 yb0, .int .i64 yb1, .int .u32 yb2, .int .i64 yb3, .int .i64 yb4, .int .i64 yb5] 45)) := (Below.refl _ _).alloc (Nat.le_refl _) _
              have hbb := hbx.trans (hba.mono hbx.size)
              have HBB := Lib.hid hbb
              have HM : Hid (GR.One CT.Side.cells 45 (X.alloc (.cells #[.int .i64 yb0, .int .i64 yb1, .int .u32 yb2, .int .i64 yb3, .int .i64 yb4, .int .i64 yb5] 45)) X.heap.size ⟨yb0, yb1, yb2, yb3, yb4, yb5⟩) := Lib.hid (GR.One.new (enc := CT.Side.cells) 45 X ⟨yb0, yb1, yb2, yb3, yb4, yb5⟩)
              clear hbx hba hbb hB hWc
              generalize X.alloc (.cells #[.int .i64 yb0, .int .i64 yb1, .int .u32 yb2, .int .i64 yb3, .int .i64 yb4, .int .i64 yb5] 45) = Y at *
              generalize X.heap.size = M at *
              refine OrdX.OrdAt.seq rfl rfl ?_
              intro X hB
              have hbx := HBB.out.trans (hB.mono HBB.out.size)
              have HVX : Hid (Boxed X Bo 79 v) := Lib.hid ((hbx.block _ HV.out.lt).trans HV.out)
              have HBX := Lib.hid (HBL.out.trans (hbx.mono (Nat.le_of_lt HV.out.lt)))
              have KNX := Lib.hid ((hbx.block _ (Array.getElem?_eq_some_iff.1 HK2.out).1).trans HK2.out)
              have XNX := Lib.hid ((hbx.block _ (Array.getElem?_eq_some_iff.1 HX2.out).1).trans HX2.out)
              refine GR.wp_app_one Side.len Side.one (by decide) (T := 79) (e := 45) (bytes := 48) (by kernel_rfl) info45 rfl (Bo + 1) _ _ rfl v LI.length LI rfl (GR.own_turn HR.out hbx) M 1 _ rfl (HM.out.turn hB) (by have := HLF.out; omega) (by decide) (by have := HVX.out.lt; omega) ?_
              intro v' W1 h1 h2 h3
              obtain ⟨bv, cv, rfl⟩ := own_some h1 (Nat.succ_ne_zero _)
              have KN1 := Lib.hid (row_keep (GR.own_turn HR.out hbx) h3 KNX.out (by decide))
              have XN1 := Lib.hid (row_keep (GR.own_turn HR.out hbx) h3 XNX.out (by decide))
              have H1 := Lib.hid h1
              have H2 := Lib.hid h2
              refine ⟨.inl (by decide), ?_⟩
              clear h1 h2 h3 hbx hB
              simp only [Act.put, List.setIfInBounds_toArray, List.set_cons_zero, List.set_cons_succ]
              refine OrdX.OrdAt.seq rfl rfl ?_
              intro X hB
              have H2X := Lib.hid (H2.out.trans (hB.mono (by have := H2.out.size; have := HVX.out.lt; omega)))
              have HV1 : Boxed X Bo 79 v := (H2X.out.block _ (by omega)).trans HVX.out
              have s := HV1.cell
              have fz := HV1.frozen
              have hown := GR.own_turn H1.out hB
              have HE := Lib.hid (Ask.app HBX.out ⟨_, HVX.out⟩ hown (by simp) H2X.out)
              have KN3 : Hid ((X.setCell ⟨Bo, 0, none⟩ (.slice (some ⟨bv, 0, none⟩) (LI.length + 1) cv)).heap[K0]? = _) := Lib.hid (set_keep HV1 ((hB.block _ (Array.getElem?_eq_some_iff.1 KN1.out).1).trans KN1.out) (by decide))
              have XN3 : Hid ((X.setCell ⟨Bo, 0, none⟩ (.slice (some ⟨bv, 0, none⟩) (LI.length + 1) cv)).heap[XB]? = _) := Lib.hid (set_keep HV1 ((hB.block _ (Array.getElem?_eq_some_iff.1 XN1.out).1).trans XN1.out) (by decide))
              clear hown HV1 hB
              go_wp2_with (fail)
              refine ⟨.inl (by decide), OrdX.OrdAt.done ?_⟩
              intro W9 hW9
              refine OrdX.on_normal ?_
              have HE9 := Lib.hid (HE.out.turn hW9)
              have KN9 := Lib.hid ((hW9.block _ (Array.getElem?_eq_some_iff.1 KN3.out).1).trans KN3.out)
              have XN9 := Lib.hid ((hW9.block _ (Array.getElem?_eq_some_iff.1 XN3.out).1).trans XN3.out)
              clear hW9 HE s fz KNX KN1 KN3 XNX XN1 XN3
              clear HV HR HBL D5 D3 HSd Z0 Z1 Z2 KB X0 HK2 HX2 HLF HBB HM HVX HBX H1 H2 H2X q0 q1
              go_wp2_with (fail)
              go_roundw
              case rel =>
                refine ⟨i + 1, by omega, by go_num, ?_, ?_, KN9⟩
                · rw [Hst.out, ← List.append_assoc, HLI.out]; exact HE9
                · rw [Hst.out, ← List.append_assoc, HLI.out]; exact Lib.hid (by simp; have := HLi.out; rw [HLI.out] at this; omega)
              case measure => simp [intOf]; omega
            · have t2 : (x0 == n) = false := by rw [beq_eq_false_iff_ne]; exact c2
              have q0 := cell_of (j := 0) HXA.out rfl
              have q1 := cell_of (j := 1) HXA.out rfl
              have Hst : Hid ((xs.take (i + 1)).flatMap (askRun st n by_) = (xs.take i).flatMap (askRun st n by_) ++ []) := Lib.hid (by rw [Hst0.out, Har.out]; simp [c1, c2])
              clear c1 c2
              have HAx := Lib.hid (HAi.out.turn HW.out)
              have HKx := Lib.hid ((HW.out.block _ (Array.getElem?_eq_some_iff.1 HKi.out).1).trans HKi.out)
              rw [HLI.out] at HAx
              go_wp2_with (fail)
              go_roundw
              case rel =>
                refine ⟨i + 1, by omega, by go_num, ?_, ?_, HKx⟩
                · rw [Hst.out, ← List.append_assoc, HLI.out]; rw [List.append_nil]; exact HAx
                · rw [Hst.out, ← List.append_assoc, HLI.out]; exact Lib.hid (by simp; have := HLi.out; rw [HLI.out] at this; omega)
              case measure => simp [intOf]; omega
        · obtain rfl : i = xs.length := by omega
          have ti2 : decide ((xs.length : Int) < (xs.length : Int)) = false := decide_eq_false (by omega)
          have f10 : IntKind.i64.wrap ((j : Int) + 1) = (j : Int) + 1 := IntWalk.i64_in _ (by omega)
          have Hn := Lib.hid (take_kind Hj.out l2 fun k => k.1.flatMap (askRun st n k.2))
          go_wp2_with (fail)
          go_roundw
          case rel =>
            refine ⟨j + 1, by omega, by go_num, ?_, ?_⟩
            · rw [Hn.out, Hlj.out]
              have h := HAi.out
              rw [List.take_length] at h
              exact Lib.hid h
            · rw [Hn.out, Hlj.out]
              have h := HLi.out
              rw [List.take_length] at h
              exact Lib.hid (Nat.le_trans h (by omega))
          case measure => simp [intOf]; omega
    · obtain rfl : j = 2 := by omega
      have ti : decide ((2 : Int) < 2) = false := rfl
      obtain ⟨LJ, hLJ⟩ : ∃ LJ, l2 ++ ((btw f st).take 2).flatMap (fun k => k.1.flatMap (askRun st n k.2)) = LJ := ⟨_, rfl⟩
      have hLJ2 : LJ = l2 ++ ((btw f st).flatMap fun k => k.1.flatMap (askRun st n k.2)) := by
        rw [← hLJ, List.take_of_length_le (by cases st <;> exact Nat.le_refl _)]
      have HLJ2 := Lib.hid hLJ2
      rw [hLJ] at HAj HLj
      clear hLJ hLJ2
      have HLB : Hid (LJ.length ≤ 42) := Lib.hid (Nat.le_trans HLj.out (by omega))
      clear hj hlt
      have HX3 := HAj
      by_cases n0 : n = 0
      · subst n0
        have t0 : ((0 : Int) == 0) = true := rfl
        have d4 : wr.cell? ⟨Bd, 4, none⟩ = some (_) := ((HX3.out.bl.mono HBo.out).cell (p := ⟨Bd, 4, none⟩) (World.block_lt_of_cell? _ _ D40.out)).trans D40.out
        go_wp2_with (fail)
        clear d4
        refine (c63 f st B g base vs m kb Bo Bd Bm W.heap.size k1 k2 Bs LJ w3 _ HF.out Hf.out Hm.out HD.out HBo.out HX3.out hkb (by have := HLB.out; omega)).mono ?_
        rintro e w6 ⟨⟨v6, rfl⟩, hA6⟩
        have HA6 := Lib.hid hA6
        clear hA6
        by_cases nl : (0 : Int) = la
        · have tl : ((0 : Int) == la) = true := by rw [nl]; exact beq_self_eq_true _
          have d2 : w6.cell? ⟨Bd, 2, none⟩ = some (.int .i64 la) := ((HA6.out.bl.mono HBo.out).cell (p := ⟨Bd, 2, none⟩) (World.block_lt_of_cell? _ _ D20.out)).trans D20.out
          have d3 : w6.cell? ⟨Bd, 3, none⟩ = some (_) := ((HA6.out.bl.mono HBo.out).cell (p := ⟨Bd, 3, none⟩) (World.block_lt_of_cell? _ _ D30.out)).trans D30.out
          go_wp2_with (fail)
          clear d2 d3
          refine (c63 f st B g base vs m ka Bo Bd Bm W.heap.size k1 k2 Bs _ w3 _ HF.out Hf.out Hm.out HD.out HBo.out HA6.out hka (by have := HLB.out; rw [List.length_append]; have := rim_len f st m kb HF.out.in_; omega)).mono ?_
          rintro e w7 ⟨⟨v7, rfl⟩, hA7⟩
          obtain ⟨v, hv, hrow⟩ := hA7.row
          have hcv := hv.cell
          have HA7 := Lib.hid hA7
          have HR := Lib.hid hrow
          clear hv hrow hA7
          go_wp2_with (fail)
          refine ⟨rfl, _, results_tmp (t := 12) rfl _ _ _, asked_end HB3.out HA7.out HBo.out HR.out ?_⟩
          rw [Hask.out, HLJ2.out, ← Hl2.out, if_pos trivial, if_pos nl]
          simp
        · have tl : ((0 : Int) == la) = false := by rw [beq_eq_false_iff_ne]; exact nl
          have d2 : w6.cell? ⟨Bd, 2, none⟩ = some (.int .i64 la) := ((HA6.out.bl.mono HBo.out).cell (p := ⟨Bd, 2, none⟩) (World.block_lt_of_cell? _ _ D20.out)).trans D20.out
          obtain ⟨v, hv, hrow⟩ := HA6.out.row
          have hcv := hv.cell
          have HA7 := HA6
          have HR := Lib.hid hrow
          clear hv hrow
          go_wp2_with (fail)
          refine ⟨rfl, _, results_tmp (t := 12) rfl _ _ _, asked_end HB3.out HA7.out HBo.out HR.out ?_⟩
          rw [Hask.out, HLJ2.out, ← Hl2.out, if_pos trivial, if_neg nl]
          simp
      · have t0 : (n == 0) = false := by rw [beq_eq_false_iff_ne]; exact n0
        by_cases nl : n = la
        · have tl : (n == la) = true := by rw [nl]; exact beq_self_eq_true _
          have d2 : wr.cell? ⟨Bd, 2, none⟩ = some (.int .i64 la) := ((HX3.out.bl.mono HBo.out).cell (p := ⟨Bd, 2, none⟩) (World.block_lt_of_cell? _ _ D20.out)).trans D20.out
          have d3 : wr.cell? ⟨Bd, 3, none⟩ = some (_) := ((HX3.out.bl.mono HBo.out).cell (p := ⟨Bd, 3, none⟩) (World.block_lt_of_cell? _ _ D30.out)).trans D30.out
          go_wp2_with (fail)
          clear d2 d3
          refine (c63 f st B g base vs m ka Bo Bd Bm W.heap.size k1 k2 Bs _ w3 _ HF.out Hf.out Hm.out HD.out HBo.out HX3.out hka (by have := HLB.out; omega)).mono ?_
          rintro e w7 ⟨⟨v7, rfl⟩, hA7⟩
          obtain ⟨v, hv, hrow⟩ := hA7.row
          have hcv := hv.cell
          have HA7 := Lib.hid hA7
          have HR := Lib.hid hrow
          clear hv hrow hA7
          go_wp2_with (fail)
          refine ⟨rfl, _, results_tmp (t := 12) rfl _ _ _, asked_end HB3.out HA7.out HBo.out HR.out ?_⟩
          rw [Hask.out, HLJ2.out, ← Hl2.out, if_neg n0, if_pos nl]
          simp
        · have tl : (n == la) = false := by rw [beq_eq_false_iff_ne]; exact nl
          have d2 : wr.cell? ⟨Bd, 2, none⟩ = some (.int .i64 la) := ((HX3.out.bl.mono HBo.out).cell (p := ⟨Bd, 2, none⟩) (World.block_lt_of_cell? _ _ D20.out)).trans D20.out
          obtain ⟨v, hv, hrow⟩ := HX3.out.row
          have hcv := hv.cell
          have HA7 := HX3
          have HR := Lib.hid hrow
          clear hv hrow
          go_wp2_with (fail)
          refine ⟨rfl, _, results_tmp (t := 12) rfl _ _ _, asked_end HB3.out HA7.out HBo.out HR.out ?_⟩
          rw [Hask.out, HLJ2.out, ← Hl2.out, if_neg n0, if_neg nl]
          simp
end Go.Proofs.Ytmlcjiabnmdfeaa
