/- Contract of the reference's Tiles: any rectangle, any rectangles. -/
import Derived.Test.YtnlojbkjhlhogaaYP
namespace Go.Proofs.Ytnlojbkjhlhogaa
open Go Go.RowKit IV
set_option linter.unusedVariables false

theorem Rects.cells_at {w : World} {b off : Nat} {xs : List Rect} (h : Rects w (some ⟨b, off, none⟩) xs) {k : Nat} (hk : k < xs.length) : RectAt w b (off + k * 4) (xs[k]?.getD default) := by
  obtain ⟨b', o', hA, hr⟩ := h k hk
  cases hA
  exact hr
theorem wp_app_two {o : Oper} {a : Act} {w : World} {K : Act → World → Prop} {Q : Exit → Act → World → Prop} (s x : Operand) (ho : o.op = .call { callee := .builtin .append, args := #[s, x], argTypes := #[38, 38] })
    (base : Nat) (v : Value) (n : Nat) (l : List Int) (hs : a.eval s = v) (hown : w.ownsRow base 2 1 v n (l.map (Value.int .i64))) (B : Nat) (p q : Int) (hx : a.eval x = .slice (some ⟨B, 0, none⟩) 2 2)
    (hc : w.heap[B]? = some (.cells #[.int .i64 p, .int .i64 q] 2 (0, 0))) (hn : n ≤ 1000000) (hbase : base ≤ w.heap.size)
    (h : ∀ v' w', w'.ownsRow base 2 1 v' (n + 2) (l.map (Value.int .i64) ++ [.int .i64 p, .int .i64 q]) → w.grownBy w' v.ownBlock → (v'.ownBlock = v.ownBlock ∨ v'.ownBlock = some w.heap.size) → K (a.put o.dst v') w') :
    o.wp Try.prog a w K Q := by
  obtain ⟨j0, hj, hj0, hj1, hj2⟩ := info_parts info2
  obtain ⟨v', w', hr, h2, h3, h4, h5⟩ := run_append_own_at (P := Try.prog) w base 38 o.type 2 j0 _ 1 8 Try.underlying38 hj hj0 hj1 hj2 rfl (by decide) v n _ hown ⟨B, 0, none⟩ 2 2 [.int .i64 p, .int .i64 q] rfl (fun j u hu => by
    match j, hu with
    | 0, hu => simp at hu; subst hu; rw [addr_add']; unfold World.cell?; rw [hc]; rfl
    | 1, hu => simp at hu; subst hu; rw [addr_add']; unfold World.cell?; rw [hc]; rfl
    | j + 2, hu => simp at hu) (by intro e he; simp only [List.mem_cons, List.not_mem_nil, or_false] at he; rcases he with rfl | rfl <;> rfl) (by unfold maxLen; omega) (by omega) hbase
  unfold Oper.wp execOp
  simp only [ho, resolve, invoke, builtin, Sem.run_bind, Sem.run_pure, Result.andThen_ok, List.map_toArray, List.map_cons, List.map_nil, hs, hx, hr]
  exact h v' w' h2 h3 h5

set_option maxRecDepth 100000 in
set_option maxHeartbeats 4000000 in
theorem c20_wrong (r : Rect) (A : Option Addr) (xs : List Rect) (c : Nat) (w : World) (hx : Rects w A xs) (hl : xs.length ≤ 17592186044416) (ho : okT r xs = false) :
    Calls Try.prog 20 #[.agg r.arr, .slice A xs.length c] w fun e w' => e = .returned (.tuple #[.bool false, .int .i64 20]) ∧ Below w.heap.size w w' := by
  have hb0 : Below w.heap.size w (w.alloc (.cells r.arr 23)) := (Below.refl _ w).alloc (Nat.le_refl _) _
  have Hx := Lib.hid (hx.below hb0)
  have C15 := Lib.hid (fun W => c15 r W)
  have CX := Lib.hid (fun a W => c15 a W)
  have HB0 := Lib.hid hb0
  have HR0 := Lib.hid (RRow.new w r)
  have Ho : Hid (¬ (right r = true ∧ xs.length ≤ 400 ∧ wrongs xs = false)) := Lib.hid fun h => by rw [okT_iff.2 h] at ho; cases ho
  have Hw1 := Lib.hid fun (h : ∀ j, j < xs.length → right (xs[j]?.getD default) = true) => wrongs_none h
  obtain ⟨x, y, u, v⟩ := r
  generalize right ⟨x, y, u, v⟩ = rr at *
  unfold Rect.arr at *
  dsimp only at *
  clear hx hb0 ho
  go_enter Try.func20, Try.ntmps20
  go_wp2_with (fail)
  generalize (w.alloc (.cells #[.int .i64 x, .int .i64 y, .int .i64 u, .int .i64 v] 23)) = w0 at *
  have p0 : w0.cell? ⟨w.heap.size, 0, none⟩ = some (.int .i64 x) := HR0.out.cells.1
  have p1 : w0.cell? ⟨w.heap.size, 1, none⟩ = some (.int .i64 y) := HR0.out.cells.2.1
  have p2 : w0.cell? ⟨w.heap.size, 2, none⟩ = some (.int .i64 u) := HR0.out.cells.2.2.1
  have p3 : w0.cell? ⟨w.heap.size, 3, none⟩ = some (.int .i64 v) := HR0.out.cells.2.2.2
  go_wp2_with (fail)
  refine (C15.out _).mono ?_
  rintro e w1 ⟨rfl, hb1⟩
  have HB1 := Lib.hid (HB0.out.trans (hb1.mono HB0.out.size))
  have Hx1 := Lib.hid (Hx.out.below hb1)
  clear hb1 HB0 Hx C15 p0 p1 p2 p3 HR0
  cases rr with
  | false =>
    clear Ho
    go_wp2_with (fail)
    exact ⟨rfl, _, results_tmp2 rfl _ _ _, rfl, HB1.out⟩
  | true =>
    by_cases h4 : 400 < xs.length
    · have t4 : decide ((400 : Int) < (xs.length : Int)) = true := decide_eq_true (by omega)
      clear Ho
      go_wp2_with (fail)
      exact ⟨rfl, _, results_tmp2 rfl _ _ _, rfl, HB1.out⟩
    · have t4 : decide ((400 : Int) < (xs.length : Int)) = false := decide_eq_false (by omega)
      have Hnw : Hid (¬ wrongs xs = false) := Lib.hid fun h => Ho.out ⟨rfl, by omega, h⟩
      clear Ho
      go_wp2_with (fail)
      go_loopw [7] (fun i wr => ∃ k : Nat, k ≤ xs.length ∧ i = .int .i64 k ∧ Hid (Below w1.heap.size w1 wr) ∧ Hid (∀ j, j < k → right (xs[j]?.getD default) = true)) (fun i _ => xs.length - (intOf i).toNat)
      case atStart => exact ⟨0, Nat.zero_le _, rfl, Lib.hid (Below.refl _ _), Lib.hid fun j hj => absurd hj (Nat.not_lt_zero j)⟩
      case round =>
        obtain ⟨k, hk, rfl, HB, HP⟩ := hrel
        by_cases hlt : k < xs.length
        · have ti : decide ((k : Int) < (xs.length : Int)) = true := decide_eq_true (by omega)
          obtain ⟨a, b, off, hrk, rfl, hc⟩ := (Hx1.out.below HB.out).get k hlt
          have Hpn : Hid (right (xs[k]?.getD default) = true → ∀ j, j < k + 1 → right (xs[j]?.getD default) = true) := Lib.hid fun h j hj => by
            by_cases e : j = k
            · subst e; exact h
            · exact HP.out j (by omega)
          rw [hrk.out] at Hpn
          have Ca := Lib.hid (CX.out a)
          generalize right a = ra at *
          obtain ⟨x', y', u', v'⟩ := a
          obtain ⟨q0, q1, q2, q3⟩ := hc
          try unfold Rect.arr at Ca
          dsimp only at Ca q0 q1 q2 q3
          go_wp2_with (fail)
          refine (Ca.out _).mono ?_
          rintro e w2 ⟨rfl, hb⟩
          have SB := Lib.hid (HB.out.trans (hb.mono HB.out.size))
          have SO := Lib.hid (HB1.out.trans (SB.out.mono HB1.out.size))
          clear hb Ca q0 q1 q2 q3
          cases ra with
          | false =>
            clear Hpn
            go_wp2_with (fail)
            exact ⟨rfl, _, results_tmp2 rfl _ _ _, rfl, SO.out⟩
          | true =>
            have Hpn1 := Lib.hid (Hpn.out rfl)
            clear Hpn
            go_wp2_with (fail)
            go_roundw
            case rel => exact ⟨k + 1, by omega, by go_num, SB, Hpn1⟩
            case measure => simp [intOf]; omega
        · obtain rfl : k = xs.length := by omega
          exact absurd (Hw1.out HP.out) Hnw.out

set_option maxRecDepth 100000 in
set_option maxHeartbeats 8000000 in
theorem c20_ok (r : Rect) (A : Option Addr) (xs : List Rect) (c : Nat) (w : World) (hx : Rects w A xs) (hl : xs.length ≤ 400) (hr : right r = true) (hw : wrongs xs = false) :
    Calls Try.prog 20 #[.agg r.arr, .slice A xs.length c] w fun e w' => e = .returned (.tuple #[.bool (decide (Tl r (xs.filter pts))), .int .i64 0]) ∧ Below w.heap.size w w' := by
  have hb0 : Below w.heap.size w (w.alloc (.cells r.arr 23)) := (Below.refl _ w).alloc (Nat.le_refl _) _
  have Hx := Lib.hid (hx.below hb0)
  have C15 := Lib.hid (fun W => c15 r W)
  rw [hr] at C15
  have CX := Lib.hid (fun a W => c15 a W)
  have CN := Lib.hid (fun a W => c35 a W)
  have CM := Lib.hid (fun a b W => c13 a b W)
  have CA := Lib.hid (fun p q W => c39 r p q W hr)
  have HB0 := Lib.hid hb0
  have HR0 := Lib.hid (RRow.new w r)
  have Hra := Lib.hid (fun x (h : x ∈ xs) => (wrongs_iff.1 hw) x h)
  have CH := Lib.hid (fun A c p q W h => c40 A xs c p q W h Hra.out (by omega))
  have Hri := Lib.hid (fun k (hk : k < xs.length) => right_at Hra.out hk)
  have Hti := Lib.hid (@tl_iff r xs Hra.out)
  generalize hT : decide (Tl r (xs.filter pts)) = T at *
  have HT := Lib.hid hT
  clear hT
  have Hyes : Hid (TR r xs → T = true) := Lib.hid fun h => by rw [← HT.out]; exact decide_eq_true (Hti.out.2 h)
  have Hno : Hid (¬ TR r xs → T = false) := Lib.hid fun h => by rw [← HT.out]; exact decide_eq_false fun q => h (Hti.out.1 q)
  have Hno1 : Hid (∀ k, k < xs.length → pts (xs[k]?.getD default) = true → meet r (xs[k]?.getD default) ≠ xs[k]?.getD default → T = false) := Lib.hid fun k hk h1 h2 => Hno.out fun q => h2 (q.1 k hk h1).1
  have Hno2 : Hid (∀ k, k < xs.length → pts (xs[k]?.getD default) = true → ∀ q, q < k → pts (meet (xs[q]?.getD default) (xs[k]?.getD default)) = true → T = false) := Lib.hid fun k hk h1 q hq h2 => Hno.out fun z => by rw [(z.1 k hk h1).2 q hq] at h2; cases h2
  have Hno3 : Hid (∀ i, i < (XR r xs xs.length).length → ∀ j, j < (YR r xs xs.length).length → atR r ((XR r xs xs.length)[i]?.getD 0) ((YR r xs xs.length)[j]?.getD 0) = true → hasR xs ((XR r xs xs.length)[i]?.getD 0) ((YR r xs xs.length)[j]?.getD 0) = false → T = false) := Lib.hid fun i hi j hj h1 h2 => Hno.out fun z => by rw [z.2 i hi j hj h1] at h2; cases h2
  have Hyy : Hid ((∀ i, i < xs.length → pts (xs[i]?.getD default) = true → meet r (xs[i]?.getD default) = xs[i]?.getD default ∧ ∀ k, k < i → pts (meet (xs[k]?.getD default) (xs[i]?.getD default)) = false) → (∀ i, i < (XR r xs xs.length).length → ∀ j, j < (YR r xs xs.length).length → atR r ((XR r xs xs.length)[i]?.getD 0) ((YR r xs xs.length)[j]?.getD 0) = true → hasR xs ((XR r xs xs.length)[i]?.getD 0) ((YR r xs xs.length)[j]?.getD 0) = true) → T = true) := Lib.hid fun h1 h2 => Hyes.out ⟨h1, h2⟩
  clear HT Hti Hyes Hno hx hb0 hr hw
  have Harr : Hid (r.arr = #[.int .i64 r.x, .int .i64 r.y, .int .i64 r.w, .int .i64 r.h]) := Lib.hid rfl
  have h := Harr.out
  simp only [h] at HR0 HB0 C15 CA Hx ⊢
  clear h
  have X0 : Hid (XR r xs 0 = [r.x] ∧ YR r xs 0 = [r.y]) := Lib.hid ⟨rfl, rfl⟩
  go_enter Try.func20, Try.ntmps20
  go_wp2_with (fail)
  generalize (w.alloc (.cells #[.int .i64 r.x, .int .i64 r.y, .int .i64 r.w, .int .i64 r.h] 23)) = w0 at *
  have p0 : w0.cell? ⟨w.heap.size, 0, none⟩ = some (.int .i64 r.x) := HR0.out.cells.1
  have p1 : w0.cell? ⟨w.heap.size, 1, none⟩ = some (.int .i64 r.y) := HR0.out.cells.2.1
  have p2 : w0.cell? ⟨w.heap.size, 2, none⟩ = some (.int .i64 r.w) := HR0.out.cells.2.2.1
  have p3 : w0.cell? ⟨w.heap.size, 3, none⟩ = some (.int .i64 r.h) := HR0.out.cells.2.2.2
  go_wp2_with (fail)
  refine (C15.out _).mono ?_
  rintro e w1 ⟨rfl, hb1⟩
  have HB1 := Lib.hid (HB0.out.trans (hb1.mono HB0.out.size))
  have Hx1 := Lib.hid (Hx.out.below hb1)
  have HR1 := Lib.hid (HR0.out.turn hb1)
  clear hb1 HB0 Hx C15 p0 p1 p2 p3 HR0
  have t4 : decide ((400 : Int) < (xs.length : Int)) = false := decide_eq_false (by omega)
  go_wp2_with (fail)
  go_loopw [7] (fun i wr => ∃ k : Nat, k ≤ xs.length ∧ i = .int .i64 k ∧ Hid (Below w1.heap.size w1 wr)) (fun i _ => xs.length - (intOf i).toNat)
  case atStart => exact ⟨0, Nat.zero_le _, rfl, Lib.hid (Below.refl _ _)⟩
  case round =>
    obtain ⟨k, hk, rfl, HB⟩ := hrel
    by_cases hlt : k < xs.length
    · have ti : decide ((k : Int) < (xs.length : Int)) = true := decide_eq_true (by omega)
      obtain ⟨a, b, off, hrk, rfl, hc⟩ := (Hx1.out.below HB.out).get k hlt
      have hra := Hri.out k hlt
      rw [hrk.out] at hra
      have Ca := Lib.hid (CX.out a)
      rw [hra] at Ca
      obtain ⟨x', y', u', v'⟩ := a
      obtain ⟨q0, q1, q2, q3⟩ := hc
      unfold Rect.arr at Ca
      dsimp only at Ca q0 q1 q2 q3
      clear hrk hra
      go_wp2_with (fail)
      refine (Ca.out _).mono ?_
      rintro e w2 ⟨rfl, hb⟩
      have SB := Lib.hid (HB.out.trans (hb.mono HB.out.size))
      clear hb Ca q0 q1 q2 q3
      go_wp2_with (fail)
      go_roundw
      case rel => exact ⟨k + 1, by omega, by go_num, SB⟩
      case measure => simp [intOf]; omega
    · obtain rfl : k = xs.length := by omega
      have ti : decide ((xs.length : Int) < (xs.length : Int)) = false := decide_eq_false (by omega)
      have HB2 := Lib.hid (HB1.out.trans (HB.out.mono HB1.out.size))
      have Hx2 := Lib.hid (Hx1.out.below HB.out)
      have HR2 := Lib.hid (HR1.out.turn HB.out)
      clear HB HB1 Hx1 HR1 ti
      obtain ⟨W, hW⟩ : ∃ W, W = wr := ⟨_, rfl⟩
      subst hW
      have h1 := (Below.refl _ W).alloc (Nat.le_refl _) (.cells #[.int .i64 r.x] 2)
      have h2 := (Below.refl _ (W.alloc (.cells #[.int .i64 r.x] 2))).alloc (Nat.le_refl _) (.cells #[.int .i64 r.y] 2)
      have g1 := heap_alloc_new W (.cells #[.int .i64 r.x] 2)
      have g2 := heap_alloc_new (W.alloc (.cells #[.int .i64 r.x] 2)) (.cells #[.int .i64 r.y] 2)
      have g1' := (h2.block _ (Array.getElem?_eq_some_iff.1 g1).1).trans g1
      rw [World.size_alloc] at g2
      have HXY : Hid (XY W.heap.size W (.slice (some ⟨W.heap.size, 0, none⟩) 1 1) (.slice (some ⟨W.heap.size + 1, 0, none⟩) 1 1) (XR r xs 0) (YR r xs 0) ((W.alloc (.cells #[.int .i64 r.x] 2)).alloc (.cells #[.int .i64 r.y] 2))) := Lib.hid (by
        rw [X0.out.1, X0.out.2]
        exact ⟨⟨rfl, .inr ⟨W.heap.size, 1, _, rfl, Nat.le_refl _, g1', Nat.le_refl _, by unfold maxLen; omega, rfl, rfl⟩⟩, ⟨rfl, .inr ⟨W.heap.size + 1, 1, _, rfl, by omega, g2, Nat.le_refl _, by unfold maxLen; omega, rfl, rfl⟩⟩, h1.trans (h2.mono (by simp)), by simp [Value.ownBlock]⟩)
      clear h1 h2 g1 g2 g1'
      have p0 : W.cell? ⟨w.heap.size, 0, none⟩ = some (.int .i64 r.x) := HR2.out.cells.1
      have p1 : (W.alloc (.cells #[.int .i64 r.x] 2)).cell? ⟨w.heap.size, 1, none⟩ = some (.int .i64 r.y) := (HR2.out.turn ((Below.refl _ W).alloc (Nat.le_refl _) _)).cells.2.1
      go_wp2_with (fail)
      clear p0 p1 X0
      generalize ((W.alloc (.cells #[.int .i64 r.x] 2)).alloc (.cells #[.int .i64 r.y] 2)) = W2 at *
      go_loopw [9, 10, 11] (fun vx vy i wr => ∃ k : Nat, k ≤ xs.length ∧ i = .int .i64 k ∧ Hid (XY W.heap.size W vx vy (XR r xs k) (YR r xs k) wr) ∧ Hid (∀ i, i < k → pts (xs[i]?.getD default) = true → meet r (xs[i]?.getD default) = xs[i]?.getD default ∧ ∀ k, k < i → pts (meet (xs[k]?.getD default) (xs[i]?.getD default)) = false)) (fun _ _ i _ => xs.length - (intOf i).toNat)
      case atStart => exact ⟨0, Nat.zero_le _, rfl, HXY, Lib.hid fun j hj => absurd hj (Nat.not_lt_zero j)⟩
      case round =>
        obtain ⟨k, hk, rfl, HXk, HPk⟩ := hrel
        have HBk := Lib.hid (HB2.out.trans (HXk.out.below.mono HB2.out.size))
        have Hxk := Lib.hid (Hx2.out.below HXk.out.below)
        have HRk := Lib.hid (HR2.out.turn HXk.out.below)
        by_cases hlt : k < xs.length
        · have ti : decide ((k : Int) < (xs.length : Int)) = true := decide_eq_true (by omega)
          obtain ⟨a, b, off, hrk, rfl, hc⟩ := Hxk.out.get k hlt
          have hra := Hri.out k hlt
          have Hn1 := Lib.hid (Hno1.out k hlt)
          have Hn2 := Lib.hid (Hno2.out k hlt)
          have Hx0 := Lib.hid (@XR_no r xs k hlt)
          have Hy0 := Lib.hid (@YR_no r xs k hlt)
          have Hx1' := Lib.hid (@XR_yes r xs k hlt)
          have Hy1' := Lib.hid (@YR_yes r xs k hlt)
          have Hpn : Hid ((pts (xs[k]?.getD default) = true → meet r (xs[k]?.getD default) = xs[k]?.getD default ∧ ∀ q, q < k → pts (meet (xs[q]?.getD default) (xs[k]?.getD default)) = false) → ∀ i, i < k + 1 → pts (xs[i]?.getD default) = true → meet r (xs[i]?.getD default) = xs[i]?.getD default ∧ ∀ k, k < i → pts (meet (xs[k]?.getD default) (xs[i]?.getD default)) = false) := Lib.hid fun h i hi hp => by
            by_cases e : i = k
            · subst e; exact h hp
            · exact HPk.out i (by omega) hp
          have hXl := XR_len r xs k
          have hYl := YR_len r xs k
          rw [hrk.out] at hra Hn1 Hn2 Hx0 Hy0 Hx1' Hy1' Hpn
          have Hbd := Lib.hid (right_iff.1 hra)
          have Ca := Lib.hid (CN.out a)
          rw [none_pts hra] at Ca
          have Cm := Lib.hid (CM.out r a)
          have Cq := Lib.hid (fun q (hq : q < k) => CM.out (xs[q]?.getD default) a)
          have Hm : Hid (∀ q, q < k → (decide ((meet (xs[q]?.getD default) a).w = 0) || decide ((meet (xs[q]?.getD default) a).h = 0)) = !pts (meet (xs[q]?.getD default) a)) := Lib.hid fun q hq => none_meet _ _
          generalize hme : meet r a = me at *
          have Hme := Lib.hid hme
          clear hme
          generalize erM r a = em at *
          generalize hpa : pts a = pa at *
          have Hpa := Lib.hid hpa
          clear hpa
          have Hraw : Hid (right a = true) := Lib.hid hra
          clear hra
          obtain ⟨q0, q1, q2, q3⟩ := hc
          have Hq0 := Lib.hid q0
          have Hq1 := Lib.hid q1
          have Hq2 := Lib.hid q2
          have Hq3 := Lib.hid q3
          have Hak : Hid (a = xs[k]?.getD default) := Lib.hid hrk.out.symm
          have Haa : Hid (a.arr = #[.int .i64 a.x, .int .i64 a.y, .int .i64 a.w, .int .i64 a.h]) := Lib.hid rfl
          rw [Haa.out] at Ca Cm Cq
          clear hrk
          go_wp2_with (fail)
          refine (Ca.out _).mono ?_
          rintro e w3 ⟨rfl, hb⟩
          have HX3 := Lib.hid (HXk.out.turn hb (Nat.le_refl _))
          have HB3 := Lib.hid (HBk.out.trans (hb.mono HBk.out.size))
          have Hx3 := Lib.hid (Hxk.out.below hb)
          have HR3 := Lib.hid (HRk.out.turn hb)
          have Z0 := Lib.hid (rd hb Hq0.out)
          have Z1 := Lib.hid (rd hb Hq1.out)
          have Z2 := Lib.hid (rd hb Hq2.out)
          have Z3 := Lib.hid (rd hb Hq3.out)
          clear hb HXk HBk Hxk HRk Ca q0 q1 q2 q3 Hq0 Hq1 Hq2 Hq3
          cases pa with
          | false =>
            have Hpn1 := Lib.hid (Hpn.out fun h => by cases h)
            have HX4 : Hid (XY W.heap.size W u9 u10 (XR r xs (k + 1)) (YR r xs (k + 1)) w3) := Lib.hid (by rw [Hx0.out rfl, Hy0.out rfl]; exact HX3.out)
            clear Hpn Hn1 Hn2 Hx0 Hy0 Hx1' Hy1' HX3
            go_wp2_with (fail)
            go_roundw
            case rel => exact ⟨k + 1, by omega, by go_num, HX4, Hpn1⟩
            case measure => simp [intOf]; omega
          | true =>
            have Hx1 := Lib.hid (Hx1'.out rfl)
            have Hy1 := Lib.hid (Hy1'.out rfl)
            have Hpn1 := Lib.hid (fun h => Hpn.out fun _ => h)
            have Hn1' := Lib.hid (Hn1.out rfl)
            have Hn2' := Lib.hid (Hn2.out rfl)
            clear Hpn Hn1 Hn2 Hx0 Hy0 Hx1' Hy1'
            obtain ⟨i0, i1, i2, i3⟩ := me
            obtain ⟨x, y, u, v⟩ := a
            have A0 := Lib.hid HR3.out.cells.1
            have A1 := Lib.hid HR3.out.cells.2.1
            have A2 := Lib.hid HR3.out.cells.2.2.1
            have A3 := Lib.hid HR3.out.cells.2.2.2
            have h := Harr.out
            simp only [h] at Cm
            clear h
            unfold Rect.arr at Cm
            dsimp only at Cm Cq Z0 Z1 Z2 Z3
            go_wp2_with (fail)
            refine wp_region_ord 10 [(0, true), (1, true), (2, true), (3, true), (4, true), (5, true), (6, true), (7, true), (8, true), (9, false), (10, false), (11, false)] (by kernel_rfl) (by kernel_rfl) ?_
            intro Wc hWc
            apply OrdAt.op (fun _ _ _ h => h) rfl rfl rfl
            · intro X hB
              have s0 := rd (hWc.tr hB) A0.out
              have s1 := rd (hWc.tr hB) A1.out
              have s2 := rd (hWc.tr hB) A2.out
              have s3 := rd (hWc.tr hB) A3.out
              go_simp
              try rfl
            · dsimp only [List.set_cons_zero, List.set_cons_succ]
            iterate 3
              apply OrdAt.op (fun _ _ _ h => h) rfl rfl rfl
              · intro X hB
                go_simp
                try rfl
              · dsimp only [List.set_cons_zero, List.set_cons_succ]
            apply OrdAt.op (fun _ _ _ h => h) rfl rfl rfl
            · intro X hB
              have s0 := rd (hWc.tr hB) Z0.out
              have s1 := rd (hWc.tr hB) Z1.out
              have s2 := rd (hWc.tr hB) Z2.out
              have s3 := rd (hWc.tr hB) Z3.out
              go_simp
              try rfl
            · dsimp only [List.set_cons_zero, List.set_cons_succ]
            apply OrdAt.call (fun _ _ _ h => h) rfl rfl rfl
            · intro X hB
              go_simp
              first | exact ⟨rfl, rfl⟩ | rfl
            · intro X hB
              refine (Cm.out _).mono ?_; rintro e W1 ⟨rfl, hb⟩; exact ⟨rfl, hb⟩
            · dsimp only [List.set_cons_zero, List.set_cons_succ]
            iterate 3
              apply OrdAt.op (fun _ _ _ h => h) rfl rfl rfl
              · intro X hB
                go_simp
                try rfl
              · dsimp only [List.set_cons_zero, List.set_cons_succ]
            refine OrdAt.seq rfl rfl ?_
            intro X hB
            go_wp2_with (fail)
            have hW4 := hWc.tr hB
            have hnew := Lib.hid (RRow.new X ⟨0, 0, 0, 0⟩)
            unfold Rect.arr at hnew
            dsimp only at hnew
            have hb0 : w3.heap.size ≤ X.heap.size := hW4.size
            have hBX := Lib.hid (hW4.alloc hW4.size (.cells #[.int .i64 0, .int .i64 0, .int .i64 0, .int .i64 0] 23))
            refine ⟨.inr ((Below.refl _ X).alloc (Nat.le_refl _) _), ?_⟩
            clear hW4 hB
            generalize X.alloc (.cells #[.int .i64 0, .int .i64 0, .int .i64 0, .int .i64 0] 23) = X2 at *
            generalize X.heap.size = B12 at *
            refine OrdAt.seq rfl rfl ?_
            intro X hB
            have hz := hnew.out.turn hB
            have z0 := hz.cells.1
            have z1 := hz.cells.2.1
            have z2 := hz.cells.2.2.1
            have z3 := hz.cells.2.2.2
            have fz := hz.frozen
            try dsimp only at z0 z1 z2 z3
            go_wp2_with (fail)
            refine ⟨.inl (by decide), ?_⟩
            have hS := Lib.hid ((((hz.store_x i0).store_y i1).store_w i2).store_h i3)
            have hBS := Lib.hid (((((hBX.out.trans (hB.mono hBX.out.size)).setCell (p := ⟨B12, 0, none⟩) hb0 (.int .i64 i0)).setCell (p := ⟨B12, 1, none⟩) hb0 (.int .i64 i1)).setCell (p := ⟨B12, 2, none⟩) hb0 (.int .i64 i2)).setCell (p := ⟨B12, 3, none⟩) hb0 (.int .i64 i3))
            clear z0 z1 z2 z3 fz hz hB hBX hnew
            generalize ((((X.setCell ⟨B12, 0, none⟩ (.int .i64 i0)).setCell ⟨B12, 1, none⟩ (.int .i64 i1)).setCell ⟨B12, 2, none⟩ (.int .i64 i2)).setCell ⟨B12, 3, none⟩ (.int .i64 i3)) = X3 at *
            refine OrdAt.seq rfl rfl ?_
            intro X hB
            go_wp2_with (fail)
            refine ⟨.inl (by decide), OrdAt.done ?_⟩
            intro W9 hW9
            have HNb := Lib.hid ((hS.out.turn hB).turn hW9)
            have hX9 := hBS.out.trans (hB.mono hBS.out.size)
            have HE := Lib.hid (hX9.trans (hW9.mono hX9.size))
            clear hB hW9 hX9 hS hBS
            have HX4 := Lib.hid (HX3.out.turn HE.out (Nat.le_refl _))
            have HB4 := Lib.hid (HB3.out.trans (HE.out.mono HB3.out.size))
            have Hx4 := Lib.hid (Hx3.out.below HE.out)
            have HR4 := Lib.hid (HR3.out.turn HE.out)
            have Y0 := Lib.hid (rd HE.out Z0.out)
            have Y1 := Lib.hid (rd HE.out Z1.out)
            have Y2 := Lib.hid (rd HE.out Z2.out)
            have Y3 := Lib.hid (rd HE.out Z3.out)
            have N0 := Lib.hid HNb.out.cells.1
            have N1 := Lib.hid HNb.out.cells.2.1
            have N2 := Lib.hid HNb.out.cells.2.2.1
            have N3 := Lib.hid HNb.out.cells.2.2.2
            clear HE HX3 HB3 Hx3 HR3 Z0 Z1 Z2 Z3 A0 A1 A2 A3 HNb hb0 Cm
            dsimp only at N0 N1 N2 N3
            by_cases he : (⟨i0, i1, i2, i3⟩ : Rect) = ⟨x, y, u, v⟩
            · obtain ⟨rfl, rfl, rfl, rfl⟩ : x = i0 ∧ y = i1 ∧ u = i2 ∧ v = i3 := by simpa [eq_comm] using he
              clear he
              go_wp2_with (fail)
              refine wp_region_ord 6 [(0, true), (1, true), (2, true), (3, true), (4, true), (5, true)] (by kernel_rfl) (by kernel_rfl) ?_
              intro Wc hWc
              apply OrdAt.op (fun _ _ _ h => h) rfl rfl rfl
              · intro X hB
                have s0 := rd (hWc.tr hB) N0.out
                have s1 := rd (hWc.tr hB) N1.out
                have s2 := rd (hWc.tr hB) N2.out
                have s3 := rd (hWc.tr hB) N3.out
                go_simp
                try rfl
              · dsimp only [List.set_cons_zero, List.set_cons_succ]
              iterate 3
                apply OrdAt.op (fun _ _ _ h => h) rfl rfl rfl
                · intro X hB
                  go_simp
                  try rfl
                · dsimp only [List.set_cons_zero, List.set_cons_succ]
              apply OrdAt.op (fun _ _ _ h => h) rfl rfl rfl
              · intro X hB
                have s0 := rd (hWc.tr hB) Y0.out
                have s1 := rd (hWc.tr hB) Y1.out
                have s2 := rd (hWc.tr hB) Y2.out
                have s3 := rd (hWc.tr hB) Y3.out
                go_simp
                try rfl
              · dsimp only [List.set_cons_zero, List.set_cons_succ]
              apply OrdAt.op (fun _ _ _ h => h) rfl rfl rfl
              · intro X hB
                skip
                go_simp
                try rfl
              · dsimp only [List.set_cons_zero, List.set_cons_succ]
              refine OrdAt.done ?_
              intro W5 hW5
              have hW5 := hWc.tr hW5
              have HX5 := Lib.hid (HX4.out.turn hW5 (Nat.le_refl _))
              have HB5 := Lib.hid (HB4.out.trans (hW5.mono HB4.out.size))
              have Hx5 := Lib.hid (Hx4.out.below hW5)
              have HR5 := Lib.hid (HR4.out.turn hW5)
              have U0 := Lib.hid (rd hW5 Y0.out)
              have U1 := Lib.hid (rd hW5 Y1.out)
              have U2 := Lib.hid (rd hW5 Y2.out)
              have U3 := Lib.hid (rd hW5 Y3.out)
              clear hW5 HX4 HB4 Hx4 HR4 Y0 Y1 Y2 Y3 N0 N1 N2 N3
              go_wp2_with (fail)
              go_loopw [14] (fun i ws => ∃ q : Nat, q ≤ k ∧ i = .int .i64 q ∧ Hid (Below W5.heap.size W5 ws) ∧ Hid (∀ j, j < q → pts (meet (xs[j]?.getD default) ⟨x, y, u, v⟩) = false)) (fun i _ => k - (intOf i).toNat)
              case atStart => exact ⟨0, Nat.zero_le _, rfl, Lib.hid (Below.refl _ _), Lib.hid fun j hj => absurd hj (Nat.not_lt_zero j)⟩
              case round =>
                obtain ⟨q, hq, rfl, HBq, HPq⟩ := hrel
                obtain ⟨ws, hws⟩ : ∃ ws, ws = wr := ⟨_, rfl⟩
                subst hws
                have HXq := Lib.hid (HX5.out.turn HBq.out (Nat.le_refl _))
                by_cases hlq : q < k
                · have tq : decide ((q : Int) < (k : Int)) = true := decide_eq_true (by omega)
                  have hlx : q < xs.length := by omega
                  have tx : decide ((q : Int) < (xs.length : Int)) = true := decide_eq_true (by omega)
                  have hc2 := (Hx5.out.below HBq.out).cells_at hlx
                  have Cq2 := Lib.hid (Cq.out q hlq)
                  have Hm2 := Lib.hid (Hm.out q hlq)
                  have Hn3 := Lib.hid (Hn2'.out q hlq)
                  have Hpq : Hid (pts (meet (xs[q]?.getD default) ⟨x, y, u, v⟩) = false → ∀ j, j < q + 1 → pts (meet (xs[j]?.getD default) ⟨x, y, u, v⟩) = false) := Lib.hid fun h j hj => by
                    by_cases e : j = q
                    · subst e; exact h
                    · exact HPq.out j (by omega)
                  generalize xs[q]?.getD default = a2 at *
                  generalize meet a2 ⟨x, y, u, v⟩ = m2 at *
                  generalize erM a2 ⟨x, y, u, v⟩ = em2 at *
                  have Cn2 := Lib.hid (CN.out m2)
                  rw [Hm2.out] at Cn2
                  generalize pts m2 = pm at *
                  obtain ⟨i0, i1, i2, i3⟩ := m2
                  obtain ⟨x2, y2, u2, v2⟩ := a2
                  obtain ⟨d0, d1, d2, d3⟩ := hc2
                  unfold Rect.arr at Cq2 Cn2
                  dsimp only at Cq2 Cn2 d0 d1 d2 d3
                  have D0 := Lib.hid d0
                  have D1 := Lib.hid d1
                  have D2 := Lib.hid d2
                  have D3 := Lib.hid d3
                  have E0 := Lib.hid (rd HBq.out U0.out)
                  have E1 := Lib.hid (rd HBq.out U1.out)
                  have E2 := Lib.hid (rd HBq.out U2.out)
                  have E3 := Lib.hid (rd HBq.out U3.out)
                  clear d0 d1 d2 d3 Hm2 HPq
                  go_wp2_with (fail)
                  refine wp_region_ord 13 [(0, true), (1, true), (2, true), (3, true), (4, true), (5, true), (6, true), (7, true), (8, true), (9, true), (10, true), (11, true), (12, false), (13, false), (14, false)] (by kernel_rfl) (by kernel_rfl) ?_
                  intro Wc hWc
                  iterate 3
                    apply OrdAt.op (fun _ _ _ h => h) rfl rfl rfl
                    · intro X hB
                      go_simp
                      try rfl
                    · dsimp only [List.set_cons_zero, List.set_cons_succ]
                  apply OrdAt.op (fun _ _ _ h => h) rfl rfl rfl
                  · intro X hB
                    have s0 := rd (hWc.tr hB) D0.out
                    have s1 := rd (hWc.tr hB) D1.out
                    have s2 := rd (hWc.tr hB) D2.out
                    have s3 := rd (hWc.tr hB) D3.out
                    go_simp
                    try rfl
                  · dsimp only [List.set_cons_zero, List.set_cons_succ]
                  iterate 3
                    apply OrdAt.op (fun _ _ _ h => h) rfl rfl rfl
                    · intro X hB
                      go_simp
                      try rfl
                    · dsimp only [List.set_cons_zero, List.set_cons_succ]
                  apply OrdAt.op (fun _ _ _ h => h) rfl rfl rfl
                  · intro X hB
                    have s0 := rd (hWc.tr hB) E0.out
                    have s1 := rd (hWc.tr hB) E1.out
                    have s2 := rd (hWc.tr hB) E2.out
                    have s3 := rd (hWc.tr hB) E3.out
                    go_simp
                    try rfl
                  · dsimp only [List.set_cons_zero, List.set_cons_succ]
                  apply OrdAt.call (fun _ _ _ h => h) rfl rfl rfl
                  · intro X hB
                    go_simp
                    first | exact ⟨rfl, rfl⟩ | rfl
                  · intro X hB
                    refine (Cq2.out _).mono ?_; rintro e W1 ⟨rfl, hb⟩; exact ⟨rfl, hb⟩
                  · dsimp only [List.set_cons_zero, List.set_cons_succ]
                  iterate 3
                    apply OrdAt.op (fun _ _ _ h => h) rfl rfl rfl
                    · intro X hB
                      go_simp
                      try rfl
                    · dsimp only [List.set_cons_zero, List.set_cons_succ]
                  refine OrdAt.seq rfl rfl ?_
                  intro X hB
                  go_wp2_with (fail)
                  have hW4 := hWc.tr hB
                  have hnew := Lib.hid (RRow.new X ⟨0, 0, 0, 0⟩)
                  unfold Rect.arr at hnew
                  dsimp only at hnew
                  have hb0 : ws.heap.size ≤ X.heap.size := hW4.size
                  have hBX := Lib.hid (hW4.alloc hW4.size (.cells #[.int .i64 0, .int .i64 0, .int .i64 0, .int .i64 0] 23))
                  refine ⟨.inr ((Below.refl _ X).alloc (Nat.le_refl _) _), ?_⟩
                  clear hW4 hB
                  generalize X.alloc (.cells #[.int .i64 0, .int .i64 0, .int .i64 0, .int .i64 0] 23) = X2 at *
                  generalize X.heap.size = B12 at *
                  refine OrdAt.seq rfl rfl ?_
                  intro X hB
                  have hz := hnew.out.turn hB
                  have z0 := hz.cells.1
                  have z1 := hz.cells.2.1
                  have z2 := hz.cells.2.2.1
                  have z3 := hz.cells.2.2.2
                  have fz := hz.frozen
                  try dsimp only at z0 z1 z2 z3
                  go_wp2_with (fail)
                  refine ⟨.inl (by decide), ?_⟩
                  have hS := Lib.hid ((((hz.store_x i0).store_y i1).store_w i2).store_h i3)
                  have hBS := Lib.hid (((((hBX.out.trans (hB.mono hBX.out.size)).setCell (p := ⟨B12, 0, none⟩) hb0 (.int .i64 i0)).setCell (p := ⟨B12, 1, none⟩) hb0 (.int .i64 i1)).setCell (p := ⟨B12, 2, none⟩) hb0 (.int .i64 i2)).setCell (p := ⟨B12, 3, none⟩) hb0 (.int .i64 i3))
                  clear z0 z1 z2 z3 fz hz hB hBX hnew
                  generalize ((((X.setCell ⟨B12, 0, none⟩ (.int .i64 i0)).setCell ⟨B12, 1, none⟩ (.int .i64 i1)).setCell ⟨B12, 2, none⟩ (.int .i64 i2)).setCell ⟨B12, 3, none⟩ (.int .i64 i3)) = X3 at *
                  refine OrdAt.seq rfl rfl ?_
                  intro X hB
                  go_wp2_with (fail)
                  refine ⟨.inl (by decide), OrdAt.done ?_⟩
                  intro W9 hW9
                  have HNb := Lib.hid ((hS.out.turn hB).turn hW9)
                  have hX9 := hBS.out.trans (hB.mono hBS.out.size)
                  have HE := Lib.hid (hX9.trans (hW9.mono hX9.size))
                  clear hB hW9 hX9 hS hBS
                  have HBq2 := Lib.hid (HBq.out.trans (HE.out.mono HBq.out.size))
                  have n0 := HNb.out.cells.1
                  have n1 := HNb.out.cells.2.1
                  have n2 := HNb.out.cells.2.2.1
                  have n3 := HNb.out.cells.2.2.2
                  try dsimp only at n0 n1 n2 n3
                  clear HBq HE D0 D1 D2 D3 E0 E1 E2 E3 Cq2 HXq
                  go_wp2_with (fail)
                  refine (Cn2.out _).mono ?_
                  rintro e w7 ⟨rfl, hb⟩
                  have HBq3 := Lib.hid (HBq2.out.trans (hb.mono HBq2.out.size))
                  have HBq4 := Lib.hid (HB5.out.trans (HBq3.out.mono HB5.out.size))
                  clear hb HBq2 HNb Cn2 n0 n1 n2 n3
                  cases pm with
                  | true =>
                    have HTf := Lib.hid (Hn3.out rfl)
                    clear Hpq Hn3
                    go_wp2_with (fail)
                    rw [HTf.out]
                    exact ⟨rfl, _, results_tmp2 rfl _ _ _, rfl, HBq4.out⟩
                  | false =>
                    have Hpq1 := Lib.hid (Hpq.out rfl)
                    clear Hpq Hn3
                    go_wp2_with (fail)
                    go_roundw
                    case rel => exact ⟨q + 1, by omega, by go_num, HBq3, Hpq1⟩
                    case measure => simp [intOf]; omega
                · obtain rfl : q = k := by omega
                  have tq : decide ((q : Int) < (q : Int)) = false := decide_eq_false (by omega)
                  have Hpn2 := Lib.hid (Hpn1.out ⟨by first | trivial | rfl, HPq.out⟩)
                  have hbd := Hbd.out
                  try dsimp only at hbd
                  have wx : IntKind.i64.wrap (x + u) = x + u := IntWalk.i64_in _ (by omega)
                  have wy : IntKind.i64.wrap (y + v) = y + v := IntWalk.i64_in _ (by omega)
                  have V0 := Lib.hid (rd HBq.out U0.out)
                  have V1 := Lib.hid (rd HBq.out U1.out)
                  have V2 := Lib.hid (rd HBq.out U2.out)
                  have V3 := Lib.hid (rd HBq.out U3.out)
                  clear hbd HPq Hpn1
                  go_wp2_with (fail)
                  refine wp_region_ord 18 [(0, true), (1, true), (2, true), (3, true), (4, true), (5, true), (6, true), (7, true), (8, true), (9, true), (10, true), (11, true), (12, true), (13, true), (14, true), (15, true), (16, true), (17, false), (18, false), (19, false)] (by kernel_rfl) (by kernel_rfl) ?_
                  intro Wc hWc
                  iterate 5
                    apply OrdAt.op (fun _ _ _ h => h) rfl rfl rfl
                    · intro X hB
                      go_simp
                      try rfl
                    · dsimp only [List.set_cons_zero, List.set_cons_succ]
                  apply OrdAt.op (fun _ _ _ h => h) rfl rfl rfl
                  · intro X hB
                    have s := rd (hWc.tr hB) V0.out
                    go_simp
                    try rfl
                  · dsimp only [List.set_cons_zero, List.set_cons_succ]
                  iterate 4
                    apply OrdAt.op (fun _ _ _ h => h) rfl rfl rfl
                    · intro X hB
                      go_simp
                      try rfl
                    · dsimp only [List.set_cons_zero, List.set_cons_succ]
                  apply OrdAt.op (fun _ _ _ h => h) rfl rfl rfl
                  · intro X hB
                    have s := rd (hWc.tr hB) V0.out
                    go_simp
                    try rfl
                  · dsimp only [List.set_cons_zero, List.set_cons_succ]
                  iterate 4
                    apply OrdAt.op (fun _ _ _ h => h) rfl rfl rfl
                    · intro X hB
                      go_simp
                      try rfl
                    · dsimp only [List.set_cons_zero, List.set_cons_succ]
                  apply OrdAt.op (fun _ _ _ h => h) rfl rfl rfl
                  · intro X hB
                    have s := rd (hWc.tr hB) V2.out
                    go_simp
                    try rfl
                  · dsimp only [List.set_cons_zero, List.set_cons_succ]
                  apply OrdAt.op (fun _ _ _ h => h) rfl rfl rfl
                  · intro X hB
                    have s := wx
                    go_simp
                    try rfl
                  · dsimp only [List.set_cons_zero, List.set_cons_succ]
                  refine OrdAt.seq rfl rfl ?_
                  intro X hB
                  go_wp2_with (fail)
                  have hW4 := hWc.tr hB
                  have hnew := Lib.hid (heap_alloc_new X (.cells #[.int .i64 x, .int .i64 (x + u)] 2))
                  have HXa := Lib.hid ((HXq.out.turn hW4 (Nat.le_refl _)).turn ((Below.refl _ X).alloc (Nat.le_refl _) (.cells #[.int .i64 x, .int .i64 (x + u)] 2)) (Nat.le_refl _))
                  refine ⟨.inr ((Below.refl _ X).alloc (Nat.le_refl _) _), ?_⟩
                  clear hW4 hB
                  generalize X.alloc (.cells #[.int .i64 x, .int .i64 (x + u)] 2) = X2 at *
                  generalize X.heap.size = B13 at *
                  refine OrdAt.seq rfl rfl ?_
                  intro X hB
                  have hx := HXa.out.turn hB (Nat.le_refl _)
                  have hc := (hB.block _ (Array.getElem?_eq_some_iff.1 hnew.out).1).trans hnew.out
                  refine wp_app_two _ _ rfl W.heap.size _ _ (XR r xs q) rfl hx.ox B13 (x) ((x + u)) rfl hc (by omega) hx.below.size ?_
                  intro v9 W' h1 hg hv
                  have HXb := Lib.hid (hx.appx (Nat.le_refl _) hYl.1 h1 hg hv)
                  refine ⟨.inl (by decide), ?_⟩
                  clear hx hc h1 hg hv hB HXa hnew
                  refine OrdAt.seq rfl rfl ?_
                  intro X hB
                  have HXe := Lib.hid (HXb.out.turn hB (Nat.le_refl _))
                  clear hB HXb
                  go_wp2_with (fail)
                  refine ⟨.inl (by decide), OrdAt.done ?_⟩
                  intro W26 hW9
                  have HXc := Lib.hid (HXe.out.turn hW9 (Nat.le_refl _))
                  clear hW9 HXe
                  have V1 := Lib.hid (((Hx2.out.below HXc.out.below).cells_at hlt).2.1)
                  have V3 := Lib.hid (((Hx2.out.below HXc.out.below).cells_at hlt).2.2.2)
                  rw [← Hak.out] at V1 V3
                  dsimp only at V1 V3
                  go_wp2_with (fail)
                  refine wp_region_ord 18 [(0, true), (1, true), (2, true), (3, true), (4, true), (5, true), (6, true), (7, true), (8, true), (9, true), (10, true), (11, true), (12, true), (13, true), (14, true), (15, true), (16, true), (17, false), (18, false), (19, false)] (by kernel_rfl) (by kernel_rfl) ?_
                  intro Wc hWc
                  iterate 5
                    apply OrdAt.op (fun _ _ _ h => h) rfl rfl rfl
                    · intro X hB
                      go_simp
                      try rfl
                    · dsimp only [List.set_cons_zero, List.set_cons_succ]
                  apply OrdAt.op (fun _ _ _ h => h) rfl rfl rfl
                  · intro X hB
                    have s := rd (hWc.tr hB) V1.out
                    go_simp
                    try rfl
                  · dsimp only [List.set_cons_zero, List.set_cons_succ]
                  iterate 4
                    apply OrdAt.op (fun _ _ _ h => h) rfl rfl rfl
                    · intro X hB
                      go_simp
                      try rfl
                    · dsimp only [List.set_cons_zero, List.set_cons_succ]
                  apply OrdAt.op (fun _ _ _ h => h) rfl rfl rfl
                  · intro X hB
                    have s := rd (hWc.tr hB) V1.out
                    go_simp
                    try rfl
                  · dsimp only [List.set_cons_zero, List.set_cons_succ]
                  iterate 4
                    apply OrdAt.op (fun _ _ _ h => h) rfl rfl rfl
                    · intro X hB
                      go_simp
                      try rfl
                    · dsimp only [List.set_cons_zero, List.set_cons_succ]
                  apply OrdAt.op (fun _ _ _ h => h) rfl rfl rfl
                  · intro X hB
                    have s := rd (hWc.tr hB) V3.out
                    go_simp
                    try rfl
                  · dsimp only [List.set_cons_zero, List.set_cons_succ]
                  apply OrdAt.op (fun _ _ _ h => h) rfl rfl rfl
                  · intro X hB
                    have s := wy
                    go_simp
                    try rfl
                  · dsimp only [List.set_cons_zero, List.set_cons_succ]
                  refine OrdAt.seq rfl rfl ?_
                  intro X hB
                  go_wp2_with (fail)
                  have hW4 := hWc.tr hB
                  have hnew := Lib.hid (heap_alloc_new X (.cells #[.int .i64 y, .int .i64 (y + v)] 2))
                  have HXa := Lib.hid ((HXc.out.turn hW4 (Nat.le_refl _)).turn ((Below.refl _ X).alloc (Nat.le_refl _) (.cells #[.int .i64 y, .int .i64 (y + v)] 2)) (Nat.le_refl _))
                  refine ⟨.inr ((Below.refl _ X).alloc (Nat.le_refl _) _), ?_⟩
                  clear hW4 hB
                  generalize X.alloc (.cells #[.int .i64 y, .int .i64 (y + v)] 2) = X2 at *
                  generalize X.heap.size = B13 at *
                  refine OrdAt.seq rfl rfl ?_
                  intro X hB
                  have hx := HXa.out.turn hB (Nat.le_refl _)
                  have hc := (hB.block _ (Array.getElem?_eq_some_iff.1 hnew.out).1).trans hnew.out
                  refine wp_app_two _ _ rfl W.heap.size _ _ (YR r xs q) rfl hx.oy B13 (y) ((y + v)) rfl hc (by omega) hx.below.size ?_
                  intro v10 W' h1 hg hv
                  have HXb := Lib.hid (hx.appy (Nat.le_refl _) (show 0 < (XR r xs q ++ [x, x + u]).length from by rw [List.length_append]; omega) h1 hg hv)
                  refine ⟨.inl (by decide), ?_⟩
                  clear hx hc h1 hg hv hB HXa hnew
                  refine OrdAt.seq rfl rfl ?_
                  intro X hB
                  have HXe := Lib.hid (HXb.out.turn hB (Nat.le_refl _))
                  clear hB HXb
                  go_wp2_with (fail)
                  refine ⟨.inl (by decide), OrdAt.done ?_⟩
                  intro W27 hW9
                  have HXd := Lib.hid (HXe.out.turn hW9 (Nat.le_refl _))
                  clear hW9 HXe
                  have HX9 : Hid (XY W.heap.size W v9 v10 (XR r xs (q + 1)) (YR r xs (q + 1)) W27) := Lib.hid (by rw [Hx1.out, Hy1.out]; exact HXd.out)
                  go_wp2_with (fail)
                  go_roundw
                  case rel => exact ⟨q + 1, by omega, by go_num, HX9, Hpn2⟩
                  case measure => simp [intOf]; omega
            · have HTf := Lib.hid (Hn1'.out he)
              have hne := he
              clear he
              by_cases k0 : i0 = x
              case neg =>
                have tq : (i0 == x) = false := by rw [beq_eq_false_iff_ne]; exact k0
                have tn : (i0 = x) = False := by simp [k0]
                clear hne k0
                go_wp2_with (fail)
                refine wp_region_ord 6 [(0, true), (1, true), (2, true), (3, true), (4, true), (5, true)] (by kernel_rfl) (by kernel_rfl) ?_
                intro Wc hWc
                apply OrdAt.op (fun _ _ _ h => h) rfl rfl rfl
                · intro X hB
                  have s0 := rd (hWc.tr hB) N0.out
                  have s1 := rd (hWc.tr hB) N1.out
                  have s2 := rd (hWc.tr hB) N2.out
                  have s3 := rd (hWc.tr hB) N3.out
                  go_simp
                  try rfl
                · dsimp only [List.set_cons_zero, List.set_cons_succ]
                iterate 3
                  apply OrdAt.op (fun _ _ _ h => h) rfl rfl rfl
                  · intro X hB
                    go_simp
                    try rfl
                  · dsimp only [List.set_cons_zero, List.set_cons_succ]
                apply OrdAt.op (fun _ _ _ h => h) rfl rfl rfl
                · intro X hB
                  have s0 := rd (hWc.tr hB) Y0.out
                  have s1 := rd (hWc.tr hB) Y1.out
                  have s2 := rd (hWc.tr hB) Y2.out
                  have s3 := rd (hWc.tr hB) Y3.out
                  go_simp
                  try rfl
                · dsimp only [List.set_cons_zero, List.set_cons_succ]
                apply OrdAt.op (fun _ _ _ h => h) rfl rfl rfl
                · intro X hB
                  skip
                  go_simp
                  try rfl
                · dsimp only [List.set_cons_zero, List.set_cons_succ]
                refine OrdAt.done ?_
                intro W5 hW5
                have hW5 := hWc.tr hW5
                have HB5 := Lib.hid (HB4.out.trans (hW5.mono HB4.out.size))
                clear hW5
                go_wp2_with (fail)
                rw [HTf.out]
                exact ⟨rfl, _, results_tmp2 rfl _ _ _, rfl, HB5.out⟩
              by_cases k1 : i1 = y
              case neg =>
                obtain rfl : i0 = x := k0
                have tq : (i1 == y) = false := by rw [beq_eq_false_iff_ne]; exact k1
                have tn : (i1 = y) = False := by simp [k1]
                clear hne k1
                go_wp2_with (fail)
                refine wp_region_ord 6 [(0, true), (1, true), (2, true), (3, true), (4, true), (5, true)] (by kernel_rfl) (by kernel_rfl) ?_
                intro Wc hWc
                apply OrdAt.op (fun _ _ _ h => h) rfl rfl rfl
                · intro X hB
                  have s0 := rd (hWc.tr hB) N0.out
                  have s1 := rd (hWc.tr hB) N1.out
                  have s2 := rd (hWc.tr hB) N2.out
                  have s3 := rd (hWc.tr hB) N3.out
                  go_simp
                  try rfl
                · dsimp only [List.set_cons_zero, List.set_cons_succ]
                iterate 3
                  apply OrdAt.op (fun _ _ _ h => h) rfl rfl rfl
                  · intro X hB
                    go_simp
                    try rfl
                  · dsimp only [List.set_cons_zero, List.set_cons_succ]
                apply OrdAt.op (fun _ _ _ h => h) rfl rfl rfl
                · intro X hB
                  have s0 := rd (hWc.tr hB) Y0.out
                  have s1 := rd (hWc.tr hB) Y1.out
                  have s2 := rd (hWc.tr hB) Y2.out
                  have s3 := rd (hWc.tr hB) Y3.out
                  go_simp
                  try rfl
                · dsimp only [List.set_cons_zero, List.set_cons_succ]
                apply OrdAt.op (fun _ _ _ h => h) rfl rfl rfl
                · intro X hB
                  skip
                  go_simp
                  try rfl
                · dsimp only [List.set_cons_zero, List.set_cons_succ]
                refine OrdAt.done ?_
                intro W5 hW5
                have hW5 := hWc.tr hW5
                have HB5 := Lib.hid (HB4.out.trans (hW5.mono HB4.out.size))
                clear hW5
                go_wp2_with (fail)
                rw [HTf.out]
                exact ⟨rfl, _, results_tmp2 rfl _ _ _, rfl, HB5.out⟩
              by_cases k2 : i2 = u
              case neg =>
                obtain rfl : i0 = x := k0
                obtain rfl : i1 = y := k1
                have tq : (i2 == u) = false := by rw [beq_eq_false_iff_ne]; exact k2
                have tn : (i2 = u) = False := by simp [k2]
                clear hne k2
                go_wp2_with (fail)
                refine wp_region_ord 6 [(0, true), (1, true), (2, true), (3, true), (4, true), (5, true)] (by kernel_rfl) (by kernel_rfl) ?_
                intro Wc hWc
                apply OrdAt.op (fun _ _ _ h => h) rfl rfl rfl
                · intro X hB
                  have s0 := rd (hWc.tr hB) N0.out
                  have s1 := rd (hWc.tr hB) N1.out
                  have s2 := rd (hWc.tr hB) N2.out
                  have s3 := rd (hWc.tr hB) N3.out
                  go_simp
                  try rfl
                · dsimp only [List.set_cons_zero, List.set_cons_succ]
                iterate 3
                  apply OrdAt.op (fun _ _ _ h => h) rfl rfl rfl
                  · intro X hB
                    go_simp
                    try rfl
                  · dsimp only [List.set_cons_zero, List.set_cons_succ]
                apply OrdAt.op (fun _ _ _ h => h) rfl rfl rfl
                · intro X hB
                  have s0 := rd (hWc.tr hB) Y0.out
                  have s1 := rd (hWc.tr hB) Y1.out
                  have s2 := rd (hWc.tr hB) Y2.out
                  have s3 := rd (hWc.tr hB) Y3.out
                  go_simp
                  try rfl
                · dsimp only [List.set_cons_zero, List.set_cons_succ]
                apply OrdAt.op (fun _ _ _ h => h) rfl rfl rfl
                · intro X hB
                  skip
                  go_simp
                  try rfl
                · dsimp only [List.set_cons_zero, List.set_cons_succ]
                refine OrdAt.done ?_
                intro W5 hW5
                have hW5 := hWc.tr hW5
                have HB5 := Lib.hid (HB4.out.trans (hW5.mono HB4.out.size))
                clear hW5
                go_wp2_with (fail)
                rw [HTf.out]
                exact ⟨rfl, _, results_tmp2 rfl _ _ _, rfl, HB5.out⟩
              by_cases k3 : i3 = v
              case neg =>
                obtain rfl : i0 = x := k0
                obtain rfl : i1 = y := k1
                obtain rfl : i2 = u := k2
                have tq : (i3 == v) = false := by rw [beq_eq_false_iff_ne]; exact k3
                have tn : (i3 = v) = False := by simp [k3]
                clear hne k3
                go_wp2_with (fail)
                refine wp_region_ord 6 [(0, true), (1, true), (2, true), (3, true), (4, true), (5, true)] (by kernel_rfl) (by kernel_rfl) ?_
                intro Wc hWc
                apply OrdAt.op (fun _ _ _ h => h) rfl rfl rfl
                · intro X hB
                  have s0 := rd (hWc.tr hB) N0.out
                  have s1 := rd (hWc.tr hB) N1.out
                  have s2 := rd (hWc.tr hB) N2.out
                  have s3 := rd (hWc.tr hB) N3.out
                  go_simp
                  try rfl
                · dsimp only [List.set_cons_zero, List.set_cons_succ]
                iterate 3
                  apply OrdAt.op (fun _ _ _ h => h) rfl rfl rfl
                  · intro X hB
                    go_simp
                    try rfl
                  · dsimp only [List.set_cons_zero, List.set_cons_succ]
                apply OrdAt.op (fun _ _ _ h => h) rfl rfl rfl
                · intro X hB
                  have s0 := rd (hWc.tr hB) Y0.out
                  have s1 := rd (hWc.tr hB) Y1.out
                  have s2 := rd (hWc.tr hB) Y2.out
                  have s3 := rd (hWc.tr hB) Y3.out
                  go_simp
                  try rfl
                · dsimp only [List.set_cons_zero, List.set_cons_succ]
                apply OrdAt.op (fun _ _ _ h => h) rfl rfl rfl
                · intro X hB
                  skip
                  go_simp
                  try rfl
                · dsimp only [List.set_cons_zero, List.set_cons_succ]
                refine OrdAt.done ?_
                intro W5 hW5
                have hW5 := hWc.tr hW5
                have HB5 := Lib.hid (HB4.out.trans (hW5.mono HB4.out.size))
                clear hW5
                go_wp2_with (fail)
                rw [HTf.out]
                exact ⟨rfl, _, results_tmp2 rfl _ _ _, rfl, HB5.out⟩
              exact absurd (by rw [k0, k1, k2, k3]) hne
        · obtain rfl : k = xs.length := by omega
          have ti : decide ((xs.length : Int) < (xs.length : Int)) = false := decide_eq_false (by omega)
          have Hy3 := Lib.hid (Hyy.out HPk.out)
          have hXl := XR_len r xs xs.length
          have hYl := YR_len r xs xs.length
          obtain ⟨A9, c9, rfl, hi9⟩ := ints_of_row HXk.out.ox rfl
          obtain ⟨A10, c10, rfl, hi10⟩ := ints_of_row HXk.out.oy rfl
          have Hi9 := Lib.hid hi9
          have Hi10 := Lib.hid hi10
          clear hi9 hi10 HPk HXk HXY Hno1 Hno2 Hyy CM CN CX Hri
          generalize XR r xs xs.length = XL at *
          generalize YR r xs xs.length = YL at *
          obtain ⟨wb, hwb⟩ : ∃ wb, wb = wr := ⟨_, rfl⟩
          subst hwb
          go_wp2_with (fail)
          go_loopw [17] (fun i ws => ∃ p : Nat, p ≤ XL.length ∧ i = .int .i64 p ∧ Hid (Below wb.heap.size wb ws) ∧ Hid (∀ i, i < p → ∀ j, j < YL.length → atR r (XL[i]?.getD 0) (YL[j]?.getD 0) = true → hasR xs (XL[i]?.getD 0) (YL[j]?.getD 0) = true)) (fun i _ => XL.length - (intOf i).toNat)
          case atStart => exact ⟨0, Nat.zero_le _, rfl, Lib.hid (Below.refl _ _), Lib.hid fun i hi => absurd hi (Nat.not_lt_zero i)⟩
          case round =>
            obtain ⟨p, hp, rfl, HBp, HPp⟩ := hrel
            by_cases hlp : p < XL.length
            · have tp : decide ((p : Int) < (XL.length : Int)) = true := decide_eq_true (by omega)
              obtain ⟨px, bx, ox, hpx, rfl, hcx⟩ := (Hi9.out.below HBp.out).get p hlp
              have Hcx := Lib.hid hcx
              have Hno4 := Lib.hid (Hno3.out p hlp)
              have Hpp : Hid ((∀ j, j < YL.length → atR r (XL[p]?.getD 0) (YL[j]?.getD 0) = true → hasR xs (XL[p]?.getD 0) (YL[j]?.getD 0) = true) → ∀ i, i < p + 1 → ∀ j, j < YL.length → atR r (XL[i]?.getD 0) (YL[j]?.getD 0) = true → hasR xs (XL[i]?.getD 0) (YL[j]?.getD 0) = true) := Lib.hid fun h i hi => by
                by_cases e : i = p
                · subst e; exact h
                · exact HPp.out i (by omega)
              rw [hpx.out] at Hno4 Hpp
              have CA1 := Lib.hid (CA.out px)
              have CH1 := Lib.hid (fun A c => CH.out A c px)
              clear hpx hcx HPp
              obtain ⟨wc, hwc⟩ : ∃ wc, wc = wr := ⟨_, rfl⟩
              subst hwc
              go_wp2_with (fail)
              go_loopw [18] (fun i ws => ∃ q : Nat, q ≤ YL.length ∧ i = .int .i64 q ∧ Hid (Below wc.heap.size wc ws) ∧ Hid (∀ j, j < q → atR r px (YL[j]?.getD 0) = true → hasR xs px (YL[j]?.getD 0) = true)) (fun i _ => YL.length - (intOf i).toNat)
              case atStart => exact ⟨0, Nat.zero_le _, rfl, Lib.hid (Below.refl _ _), Lib.hid fun i hi => absurd hi (Nat.not_lt_zero i)⟩
              case round =>
                obtain ⟨q, hq, rfl, HBq, HPq⟩ := hrel
                have HBr := Lib.hid (HBp.out.trans (HBq.out.mono HBp.out.size))
                by_cases hlq : q < YL.length
                · have tq : decide ((q : Int) < (YL.length : Int)) = true := decide_eq_true (by omega)
                  obtain ⟨py, by', oy, hpy, rfl, hcy⟩ := (Hi10.out.below HBr.out).get q hlq
                  have F0 := Lib.hid (rd HBq.out Hcx.out)
                  have F1 := Lib.hid hcy
                  have Hrow := Lib.hid (HRk.out.turn HBr.out)
                  have A0 := Lib.hid Hrow.out.cells.1
                  have A1 := Lib.hid Hrow.out.cells.2.1
                  have A2 := Lib.hid Hrow.out.cells.2.2.1
                  have A3 := Lib.hid Hrow.out.cells.2.2.2
                  have Hxq := Lib.hid (Hxk.out.below HBr.out)
                  have HBo := Lib.hid (HBk.out.trans (HBr.out.mono HBk.out.size))
                  have Hno5 := Lib.hid (Hno4.out q hlq)
                  have Hpq : Hid ((atR r px (YL[q]?.getD 0) = true → hasR xs px (YL[q]?.getD 0) = true) → ∀ j, j < q + 1 → atR r px (YL[j]?.getD 0) = true → hasR xs px (YL[j]?.getD 0) = true) := Lib.hid fun h j hj => by
                    by_cases e : j = q
                    · subst e; exact h
                    · exact HPq.out j (by omega)
                  rw [hpy.out] at Hno5 Hpq
                  have CA2 := Lib.hid (CA1.out py)
                  have CH2 := Lib.hid (fun A c => CH1.out A c py)
                  generalize atR r px py = t at *
                  generalize hasR xs px py = s at *
                  clear hpy hcy HPq
                  cases t with
                  | false =>
                    have Hpq1 := Lib.hid (Hpq.out fun h => by cases h)
                    clear Hpq Hno5
                    go_wp2_with (fail)
                    refine wp_region_ord 23 [(0, true), (1, true), (2, true), (3, true), (4, true), (5, true), (6, true), (7, true), (8, true), (9, true), (10, true), (11, true), (12, true), (13, true), (14, true), (15, true), (16, true), (17, true), (18, true), (19, true), (20, true), (21, true), (22, true)] (by kernel_rfl) (by kernel_rfl) ?_
                    intro Wc hWc
                    apply OrdAt.op (fun _ _ _ h => h) rfl rfl rfl
                    · intro X hB
                      have s0 := rd (hWc.tr hB) A0.out
                      have s1 := rd (hWc.tr hB) A1.out
                      have s2 := rd (hWc.tr hB) A2.out
                      have s3 := rd (hWc.tr hB) A3.out
                      go_simp
                      try rfl
                    · dsimp only [List.set_cons_zero, List.set_cons_succ]
                    iterate 3
                      apply OrdAt.op (fun _ _ _ h => h) rfl rfl rfl
                      · intro X hB
                        go_simp
                        try rfl
                      · dsimp only [List.set_cons_zero, List.set_cons_succ]
                    apply OrdAt.op (fun _ _ _ h => h) rfl rfl rfl
                    · intro X hB
                      have s := rd (hWc.tr hB) F0.out
                      go_simp
                      try rfl
                    · dsimp only [List.set_cons_zero, List.set_cons_succ]
                    iterate 3
                      apply OrdAt.op (fun _ _ _ h => h) rfl rfl rfl
                      · intro X hB
                        go_simp
                        try rfl
                      · dsimp only [List.set_cons_zero, List.set_cons_succ]
                    apply OrdAt.op (fun _ _ _ h => h) rfl rfl rfl
                    · intro X hB
                      have s := rd (hWc.tr hB) F1.out
                      go_simp
                      try rfl
                    · dsimp only [List.set_cons_zero, List.set_cons_succ]
                    apply OrdAt.call (fun _ _ _ h => h) rfl rfl rfl
                    · intro X hB
                      go_simp
                      first | exact ⟨rfl, rfl⟩ | rfl
                    · intro X hB
                      refine (CA2.out _).mono ?_; rintro e W1 ⟨rfl, hb⟩; exact ⟨rfl, hb⟩
                    · dsimp only [List.set_cons_zero, List.set_cons_succ]
                    apply OrdAt.op (fun _ _ _ h => h) rfl rfl rfl
                    · intro X hB
                      go_simp
                      try rfl
                    · dsimp only [List.set_cons_zero, List.set_cons_succ]
                    apply OrdAt.op_not (fun _ _ _ h => h) rfl rfl rfl
                    · dsimp only [List.set_cons_zero, List.set_cons_succ]
                    apply OrdAt.op_not (fun _ _ _ h => h) rfl rfl rfl
                    · dsimp only [List.set_cons_zero, List.set_cons_succ]
                    apply OrdAt.op_not (fun _ _ _ h => h) rfl rfl rfl
                    · dsimp only [List.set_cons_zero, List.set_cons_succ]
                    apply OrdAt.op_not (fun _ _ _ h => h) rfl rfl rfl
                    · dsimp only [List.set_cons_zero, List.set_cons_succ]
                    apply OrdAt.op_not (fun _ _ _ h => h) rfl rfl rfl
                    · dsimp only [List.set_cons_zero, List.set_cons_succ]
                    apply OrdAt.op_not (fun _ _ _ h => h) rfl rfl rfl
                    · dsimp only [List.set_cons_zero, List.set_cons_succ]
                    apply OrdAt.op_not (fun _ _ _ h => h) rfl rfl rfl
                    · dsimp only [List.set_cons_zero, List.set_cons_succ]
                    apply OrdAt.op_not (fun _ _ _ h => h) rfl rfl rfl
                    · dsimp only [List.set_cons_zero, List.set_cons_succ]
                    apply OrdAt.op_not (fun _ _ _ h => h) rfl rfl rfl
                    · dsimp only [List.set_cons_zero, List.set_cons_succ]
                    apply OrdAt.op_not (fun _ _ _ h => h) rfl rfl rfl
                    · dsimp only [List.set_cons_zero, List.set_cons_succ]
                    apply OrdAt.op_not (fun _ _ _ h => h) rfl rfl rfl
                    · dsimp only [List.set_cons_zero, List.set_cons_succ]
                    apply OrdAt.op (fun _ _ _ h => h) rfl rfl rfl
                    · intro X hB
                      go_simp
                      try rfl
                    · dsimp only [List.set_cons_zero, List.set_cons_succ]
                    refine OrdAt.done ?_
                    intro W5 hW5
                    have HBs := Lib.hid (HBq.out.trans ((hWc.tr hW5).mono HBq.out.size))
                    clear hW5
                    go_wp2_with (fail)
                    go_roundw
                    case rel => exact ⟨q + 1, by omega, by go_num, HBs, Hpq1⟩
                    case measure => simp [intOf]; omega
                  | true =>
                    cases s with
                    | true =>
                      have Hpq1 := Lib.hid (Hpq.out fun _ => rfl)
                      clear Hpq Hno5
                      go_wp2_with (fail)
                      refine wp_region_ord 23 [(0, true), (1, true), (2, true), (3, true), (4, true), (5, true), (6, true), (7, true), (8, true), (9, true), (10, true), (11, true), (12, true), (13, true), (14, true), (15, true), (16, true), (17, true), (18, true), (19, true), (20, true), (21, true), (22, true)] (by kernel_rfl) (by kernel_rfl) ?_
                      intro Wc hWc
                      apply OrdAt.op (fun _ _ _ h => h) rfl rfl rfl
                      · intro X hB
                        have s0 := rd (hWc.tr hB) A0.out
                        have s1 := rd (hWc.tr hB) A1.out
                        have s2 := rd (hWc.tr hB) A2.out
                        have s3 := rd (hWc.tr hB) A3.out
                        go_simp
                        try rfl
                      · dsimp only [List.set_cons_zero, List.set_cons_succ]
                      iterate 3
                        apply OrdAt.op (fun _ _ _ h => h) rfl rfl rfl
                        · intro X hB
                          go_simp
                          try rfl
                        · dsimp only [List.set_cons_zero, List.set_cons_succ]
                      apply OrdAt.op (fun _ _ _ h => h) rfl rfl rfl
                      · intro X hB
                        have s := rd (hWc.tr hB) F0.out
                        go_simp
                        try rfl
                      · dsimp only [List.set_cons_zero, List.set_cons_succ]
                      iterate 3
                        apply OrdAt.op (fun _ _ _ h => h) rfl rfl rfl
                        · intro X hB
                          go_simp
                          try rfl
                        · dsimp only [List.set_cons_zero, List.set_cons_succ]
                      apply OrdAt.op (fun _ _ _ h => h) rfl rfl rfl
                      · intro X hB
                        have s := rd (hWc.tr hB) F1.out
                        go_simp
                        try rfl
                      · dsimp only [List.set_cons_zero, List.set_cons_succ]
                      apply OrdAt.call (fun _ _ _ h => h) rfl rfl rfl
                      · intro X hB
                        go_simp
                        first | exact ⟨rfl, rfl⟩ | rfl
                      · intro X hB
                        refine (CA2.out _).mono ?_; rintro e W1 ⟨rfl, hb⟩; exact ⟨rfl, hb⟩
                      · dsimp only [List.set_cons_zero, List.set_cons_succ]
                      apply OrdAt.op (fun _ _ _ h => h) rfl rfl rfl
                      · intro X hB
                        go_simp
                        try rfl
                      · dsimp only [List.set_cons_zero, List.set_cons_succ]
                      iterate 4
                        apply OrdAt.op_if (fun _ _ _ h => h) rfl rfl rfl
                        · intro X hB
                          go_simp
                          try rfl
                        · dsimp only [List.set_cons_zero, List.set_cons_succ]
                      apply OrdAt.op_if (fun _ _ _ h => h) rfl rfl rfl
                      · intro X hB
                        have s := rd (hWc.tr hB) F0.out
                        go_simp
                        try rfl
                      · dsimp only [List.set_cons_zero, List.set_cons_succ]
                      iterate 3
                        apply OrdAt.op_if (fun _ _ _ h => h) rfl rfl rfl
                        · intro X hB
                          go_simp
                          try rfl
                        · dsimp only [List.set_cons_zero, List.set_cons_succ]
                      apply OrdAt.op_if (fun _ _ _ h => h) rfl rfl rfl
                      · intro X hB
                        have s := rd (hWc.tr hB) F1.out
                        go_simp
                        try rfl
                      · dsimp only [List.set_cons_zero, List.set_cons_succ]
                      apply OrdAt.call (fun _ _ _ h => h) rfl rfl rfl
                      · intro X hB
                        go_simp
                        first | exact ⟨rfl, rfl⟩ | rfl
                      · intro X hB
                        refine (CH2.out _ _ _ (Hxq.out.below (hWc.tr hB))).mono ?_; rintro e W1 ⟨rfl, hb⟩; exact ⟨rfl, hb⟩
                      · dsimp only [List.set_cons_zero, List.set_cons_succ]
                      apply OrdAt.op_if (fun _ _ _ h => h) rfl rfl rfl
                      · intro X hB
                        go_simp
                        try rfl
                      · dsimp only [List.set_cons_zero, List.set_cons_succ]
                      apply OrdAt.op (fun _ _ _ h => h) rfl rfl rfl
                      · intro X hB
                        go_simp
                        try rfl
                      · dsimp only [List.set_cons_zero, List.set_cons_succ]
                      refine OrdAt.done ?_
                      intro W5 hW5
                      have HBs := Lib.hid (HBq.out.trans ((hWc.tr hW5).mono HBq.out.size))
                      clear hW5
                      go_wp2_with (fail)
                      go_roundw
                      case rel => exact ⟨q + 1, by omega, by go_num, HBs, Hpq1⟩
                      case measure => simp [intOf]; omega
                    | false =>
                      have HTf := Lib.hid (Hno5.out rfl rfl)
                      clear Hpq Hno5
                      go_wp2_with (fail)
                      refine wp_region_ord 23 [(0, true), (1, true), (2, true), (3, true), (4, true), (5, true), (6, true), (7, true), (8, true), (9, true), (10, true), (11, true), (12, true), (13, true), (14, true), (15, true), (16, true), (17, true), (18, true), (19, true), (20, true), (21, true), (22, true)] (by kernel_rfl) (by kernel_rfl) ?_
                      intro Wc hWc
                      apply OrdAt.op (fun _ _ _ h => h) rfl rfl rfl
                      · intro X hB
                        have s0 := rd (hWc.tr hB) A0.out
                        have s1 := rd (hWc.tr hB) A1.out
                        have s2 := rd (hWc.tr hB) A2.out
                        have s3 := rd (hWc.tr hB) A3.out
                        go_simp
                        try rfl
                      · dsimp only [List.set_cons_zero, List.set_cons_succ]
                      iterate 3
                        apply OrdAt.op (fun _ _ _ h => h) rfl rfl rfl
                        · intro X hB
                          go_simp
                          try rfl
                        · dsimp only [List.set_cons_zero, List.set_cons_succ]
                      apply OrdAt.op (fun _ _ _ h => h) rfl rfl rfl
                      · intro X hB
                        have s := rd (hWc.tr hB) F0.out
                        go_simp
                        try rfl
                      · dsimp only [List.set_cons_zero, List.set_cons_succ]
                      iterate 3
                        apply OrdAt.op (fun _ _ _ h => h) rfl rfl rfl
                        · intro X hB
                          go_simp
                          try rfl
                        · dsimp only [List.set_cons_zero, List.set_cons_succ]
                      apply OrdAt.op (fun _ _ _ h => h) rfl rfl rfl
                      · intro X hB
                        have s := rd (hWc.tr hB) F1.out
                        go_simp
                        try rfl
                      · dsimp only [List.set_cons_zero, List.set_cons_succ]
                      apply OrdAt.call (fun _ _ _ h => h) rfl rfl rfl
                      · intro X hB
                        go_simp
                        first | exact ⟨rfl, rfl⟩ | rfl
                      · intro X hB
                        refine (CA2.out _).mono ?_; rintro e W1 ⟨rfl, hb⟩; exact ⟨rfl, hb⟩
                      · dsimp only [List.set_cons_zero, List.set_cons_succ]
                      apply OrdAt.op (fun _ _ _ h => h) rfl rfl rfl
                      · intro X hB
                        go_simp
                        try rfl
                      · dsimp only [List.set_cons_zero, List.set_cons_succ]
                      iterate 4
                        apply OrdAt.op_if (fun _ _ _ h => h) rfl rfl rfl
                        · intro X hB
                          go_simp
                          try rfl
                        · dsimp only [List.set_cons_zero, List.set_cons_succ]
                      apply OrdAt.op_if (fun _ _ _ h => h) rfl rfl rfl
                      · intro X hB
                        have s := rd (hWc.tr hB) F0.out
                        go_simp
                        try rfl
                      · dsimp only [List.set_cons_zero, List.set_cons_succ]
                      iterate 3
                        apply OrdAt.op_if (fun _ _ _ h => h) rfl rfl rfl
                        · intro X hB
                          go_simp
                          try rfl
                        · dsimp only [List.set_cons_zero, List.set_cons_succ]
                      apply OrdAt.op_if (fun _ _ _ h => h) rfl rfl rfl
                      · intro X hB
                        have s := rd (hWc.tr hB) F1.out
                        go_simp
                        try rfl
                      · dsimp only [List.set_cons_zero, List.set_cons_succ]
                      apply OrdAt.call (fun _ _ _ h => h) rfl rfl rfl
                      · intro X hB
                        go_simp
                        first | exact ⟨rfl, rfl⟩ | rfl
                      · intro X hB
                        refine (CH2.out _ _ _ (Hxq.out.below (hWc.tr hB))).mono ?_; rintro e W1 ⟨rfl, hb⟩; exact ⟨rfl, hb⟩
                      · dsimp only [List.set_cons_zero, List.set_cons_succ]
                      apply OrdAt.op_if (fun _ _ _ h => h) rfl rfl rfl
                      · intro X hB
                        go_simp
                        try rfl
                      · dsimp only [List.set_cons_zero, List.set_cons_succ]
                      apply OrdAt.op (fun _ _ _ h => h) rfl rfl rfl
                      · intro X hB
                        go_simp
                        try rfl
                      · dsimp only [List.set_cons_zero, List.set_cons_succ]
                      refine OrdAt.done ?_
                      intro W5 hW5
                      have HBs := Lib.hid (HBo.out.trans ((hWc.tr hW5).mono HBo.out.size))
                      clear hW5
                      go_wp2_with (fail)
                      rw [HTf.out]
                      exact ⟨rfl, _, results_tmp2 rfl _ _ _, rfl, HBs.out⟩
                · obtain rfl : q = YL.length := by omega
                  have tq : decide ((YL.length : Int) < (YL.length : Int)) = false := decide_eq_false (by omega)
                  have Hpp1 := Lib.hid (Hpp.out HPq.out)
                  go_wp2_with (fail)
                  go_roundw
                  case rel => exact ⟨p + 1, by omega, by go_num, HBr, Hpp1⟩
                  case measure => simp [intOf]; omega
            · obtain rfl : p = XL.length := by omega
              have tp : decide ((XL.length : Int) < (XL.length : Int)) = false := decide_eq_false (by omega)
              have HTt := Lib.hid (Hy3.out HPp.out)
              have HBo := Lib.hid (HBk.out.trans (HBp.out.mono HBk.out.size))
              go_wp2_with (fail)
              rw [HTt.out]
              exact ⟨rfl, _, results_tmp2 rfl _ _ _, rfl, HBo.out⟩

theorem c20 (r : Rect) (A : Option Addr) (xs : List Rect) (c : Nat) (w : World) (hx : Rects w A xs) (hl : xs.length ≤ 1000000) :
    Calls Try.prog 20 #[.agg r.arr, .slice A xs.length c] w fun e w' => e = .returned (.tuple #[.bool (tiles r xs), .int .i64 (erT r xs)]) ∧ Below w.heap.size w w' := by
  unfold tiles erT
  cases ho : okT r xs with
  | false =>
    rw [if_neg (by simp), Bool.false_and]
    exact c20_wrong r A xs c w hx (by omega) ho
  | true =>
    rw [if_pos rfl, Bool.true_and]
    have h := okT_iff.1 ho
    exact c20_ok r A xs c w hx h.2.1 h.1 h.2.2
end Go.Proofs.Ytnlojbkjhlhogaa
