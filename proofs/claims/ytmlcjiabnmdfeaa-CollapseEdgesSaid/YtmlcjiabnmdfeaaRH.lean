/- The reference's over: what runs that have a place ask for. -/
import Derived.Test.YtmlcjiabnmdfeaaRG
namespace Go.Proofs.Ytmlcjiabnmdfeaa
open Go Go.RowKit Go.Shelf CT
set_option linter.unusedVariables false

def overRun (col : Bool) (m : Int) (line : Nat) (by_ : Int) (x : Run) : List CT.Side := if x.from_ ≤ m ∧ m < x.to_ then [lieSide (lineOf x.ls line) by_ x.from_ col] else []
theorem overRun_rim (st : Bool) (m : Int) (line : Nat) (by_ : Int) : overRun (!st) m line by_ = rimRun st m line by_ := by
  funext x
  unfold overRun rimRun dSide
  cases st <;> rfl
def overTo (col : Bool) (m : Int) (line : Nat) (by_ : Int) (xs : List Run) (k : Nat) : List CT.Side := (xs.take k).flatMap (overRun col m line by_)
theorem overTo_next {col : Bool} {m by_ : Int} {line : Nat} {xs : List Run} {k : Nat} (hk : k < xs.length) : overTo col m line by_ xs (k + 1) = overTo col m line by_ xs k ++ overRun col m line by_ (xs[k]?.getD default) := by
  unfold overTo
  rw [List.take_add_one, List.flatMap_append, List.getElem?_eq_getElem hk]
  show _ ++ List.flatMap _ [xs[k]] = _ ++ overRun col m line by_ xs[k]
  rw [List.flatMap_cons, List.flatMap_nil, List.append_nil]
theorem overTo_all {col : Bool} {m by_ : Int} {line : Nat} {xs : List Run} : overTo col m line by_ xs xs.length = xs.flatMap (overRun col m line by_) := by unfold overTo; rw [List.take_length]
theorem overTo_len (col : Bool) (m by_ : Int) (line : Nat) (xs : List Run) (k : Nat) : (overTo col m line by_ xs k).length ≤ xs.length := by
  unfold overTo
  have := flat_le (F := overRun col m line by_) (c := 1) (l := xs.take k) fun x _ => by unfold overRun; split <;> simp
  have h2 : (xs.take k).length ≤ xs.length := by rw [List.length_take]; omega
  omega

set_option maxRecDepth 100000 in
set_option maxHeartbeats 16000000 in
/-- the reference's over -/
theorem c56 (col : Bool) (A : Option Addr) (xs : List Run) (cp : Nat) (m bY : Int) (line : Nat) (u0 : Value) (l : List CT.Side) (w0 W : World) (hx : GR.Many Run.cells 14 w0 A xs) (hxl : xs.length ≤ 1000) (hG : Got w0 W u0 l) (hf : line < 4) (hl : l.length ≤ 800000) :
    Calls Try.prog 56 #[u0, .slice A xs.length cp, .int .i64 m, .int .i64 bY, .int .i64 line, .bool col] W fun e W' => ∃ u', e = .returned u' ∧ Got w0 W' u' (l ++ xs.flatMap (overRun col m line bY)) := by
  have HX := Lib.hid hx
  have HG := Lib.hid hG
  have HK : Hid (line < 4) := Lib.hid hf
  have HLF0 : Hid (l.length ≤ 800000 ∧ xs.length ≤ 1000) := Lib.hid ⟨hl, hxl⟩
  obtain ⟨n1, hn1⟩ : ∃ m, xs.length = m := ⟨_, rfl⟩
  have HN := Lib.hid hn1
  have HK1 : Hid (n1 ≤ 1000) := Lib.hid (by omega)
  rw [hn1]
  clear hx hG hf hl hxl hn1
  cases col with
  | false =>
    go_enter Try.func56, Try.ntmps56
    go_wp2_with (fail)
    go_loopw [0, 13] (fun v a wr => ∃ k : Nat, k ≤ n1 ∧ a = .int .i64 k ∧ Hid (Got w0 wr v (l ++ overTo false m line bY xs k))) (fun _ a _ => n1 - (intOf a).toNat)
    case atStart => exact ⟨0, Nat.zero_le _, rfl, Lib.hid (by show Got w0 W _ (l ++ []); rw [List.append_nil]; exact HG.out)⟩
    case round =>
      clear HG
      obtain ⟨k, hk, rfl, HG⟩ := hrel
      obtain ⟨WG, hWG⟩ : ∃ x, x = wr := ⟨_, rfl⟩
      subst hWG
      by_cases hlt : k < n1
      · have ti : decide ((k : Int) < (n1 : Int)) = true := decide_eq_true (by omega)
        obtain ⟨x, b, off, hxk, hA2, hat, hbl⟩ := HX.out.get k (by rw [HN.out]; exact hlt)
        subst hA2
        obtain ⟨u, cu, hu⟩ := own_slice HG.out.own
        obtain ⟨z, hz, Z0, Z1, Z2⟩ := run_lineAt hat hbl HK.out
        obtain ⟨z0v, z1v, z2v⟩ := z
        have hnx := overTo_next (col := false) (m := m) (by_ := bY) (line := line) (by rw [HN.out]; exact hlt : k < xs.length)
        rw [hxk.out] at hnx
        unfold overRun at hnx
        rw [hz] at hnx
        obtain ⟨fr, hfr⟩ : ∃ q, x.from_ = q := ⟨_, rfl⟩
        obtain ⟨to, hto⟩ : ∃ q, x.to_ = q := ⟨_, rfl⟩
        have q0 : WG.cell? ⟨b, off + k * 14, none⟩ = some (.int .i64 fr) := (HG.out.bl.cell (p := ⟨b, off + k * 14, none⟩) hbl).trans (by rw [← hfr]; exact hat 0 _ rfl)
        have q1 : WG.cell? ⟨b, off + k * 14 + 1, none⟩ = some (.int .i64 to) := (HG.out.bl.cell (p := ⟨b, off + k * 14 + 1, none⟩) hbl).trans (by rw [← hto]; exact hat 1 _ rfl)
        rw [hfr, hto] at hnx
        have Q0 := Lib.hid q0
        have Z0 : Hid (WG.cell? ⟨b, off + k * 14 + 2 + line * 3, none⟩ = some (.int .i64 z0v)) := Lib.hid ((HG.out.bl.cell (p := ⟨b, off + k * 14 + 2 + line * 3, none⟩) hbl).trans Z0)
        have Z1 : Hid (WG.cell? ⟨b, off + k * 14 + 2 + line * 3 + 1, none⟩ = some (.int .i64 z1v)) := Lib.hid ((HG.out.bl.cell (p := ⟨b, off + k * 14 + 2 + line * 3 + 1, none⟩) hbl).trans Z1)
        have Z2 : Hid (WG.cell? ⟨b, off + k * 14 + 2 + line * 3 + 2, none⟩ = some (.int .u32 z2v)) := Lib.hid ((HG.out.bl.cell (p := ⟨b, off + k * 14 + 2 + line * 3 + 2, none⟩) hbl).trans Z2)
        have HNX := Lib.hid hnx
        obtain ⟨l2, hl2⟩ : ∃ l2, l ++ overTo false m line bY xs k = l2 := ⟨_, rfl⟩
        have HL2 := Lib.hid hl2
        obtain ⟨NG, hNG⟩ : ∃ m, l2.length = m := ⟨_, rfl⟩
        have hNl : NG ≤ 800000 + 1000 := by rw [← hNG, ← hl2, List.length_append]; have := overTo_len false m bY line xs k; have := HLF0.out; have := HN.out; omega
        have HLF : Hid (NG ≤ 802000) := Lib.hid (by omega)
        rw [hl2] at HG hu
        rw [hNG] at hu
        subst hu
        have LHG := Lib.hid hNG
        have vk : k < n1 := hlt
        have vf : (line : Int) < 4 := by have := HK.out; omega
        have f9 : IntKind.i64.wrap ((k : Int) + 1) = (k : Int) + 1 := IntWalk.i64_in _ (by have := HK1.out; omega)
        clear hat hbl hxk hnx hz hfr hto hl2 hNG hNl
        by_cases c1 : m < fr
        · have t1 : decide (m < fr) = true := decide_eq_true c1
          have hnx := HNX.out
          rw [if_neg (by omega), List.append_nil] at hnx
          have HNX := Lib.hid hnx
          clear hnx c1
          go_wp2_with (fail)
          go_roundw
          case rel => exact ⟨k + 1, by omega, by go_num, Lib.hid (by rw [HNX.out, HL2.out]; exact HG.out)⟩
          case measure => simp [intOf]; omega
        have t1 : decide (m < fr) = false := decide_eq_false c1
        by_cases c2 : to ≤ m
        · have t2 : decide (to ≤ m) = true := decide_eq_true c2
          have hnx := HNX.out
          rw [if_neg (by omega), List.append_nil] at hnx
          have HNX := Lib.hid hnx
          clear hnx c1 c2
          go_wp2_with (fail)
          go_roundw
          case rel => exact ⟨k + 1, by omega, by go_num, Lib.hid (by rw [HNX.out, HL2.out]; exact HG.out)⟩
          case measure => simp [intOf]; omega
        have t2 : decide (to ≤ m) = false := decide_eq_false c2
        have hnx := HNX.out
        rw [if_pos (by omega)] at hnx
        have HNX := Lib.hid hnx
        clear hnx c1 c2
        obtain ⟨I, hI0⟩ : ∃ I : OrdX.Off, I.row = none := ⟨⟨_⟩, rfl⟩
        have HIn : Hid (∀ b : Nat, some b ≠ OrdX.Off.row) := Lib.hid fun b e => by rw [hI0] at e; cases e
        clear hI0
        go_wp2_with (fail)
        clear q0 q1
        refine OrdX.wp_region_ordN 16 [(0, true), (1, true), (2, true), (3, true), (4, true), (5, true), (6, true), (7, true), (8, true), (9, true), (10, true), (11, true), (12, true), (13, true), (14, true), (15, false), (16, false), (17, false)] (by kernel_rfl) (by kernel_rfl) ?_
        intro Wc hWc
        iterate 7
          apply OrdX.OrdAt.op OrdX.on_put rfl rfl rfl
          · intro X hB
            go_simp
            try rfl
          · dsimp only [List.set_cons_zero, List.set_cons_succ]
        apply OrdX.OrdAt.op OrdX.on_put rfl rfl rfl
        · intro X hB
          have s := OrdX.rd (hWc.g.tr hB) (HIn.out _) (Z0.out)
          have s1 := OrdX.rd (hWc.g.tr hB) (HIn.out _) (Z1.out)
          have s2 := OrdX.rd (hWc.g.tr hB) (HIn.out _) (Z2.out)
          go_simp
          try rfl
        · dsimp only [List.set_cons_zero, List.set_cons_succ]
        iterate 5
          apply OrdX.OrdAt.op OrdX.on_put rfl rfl rfl
          · intro X hB
            go_simp
            try rfl
          · dsimp only [List.set_cons_zero, List.set_cons_succ]
        apply OrdX.OrdAt.op OrdX.on_put rfl rfl rfl
        · intro X hB
          have s := OrdX.rd (hWc.g.tr hB) (HIn.out _) (Q0.out)
          go_simp
          try rfl
        · dsimp only [List.set_cons_zero, List.set_cons_succ]
        apply OrdX.OrdAt.op OrdX.on_put rfl rfl rfl
        · intro X hB
          go_simp
          try rfl
        · dsimp only [List.set_cons_zero, List.set_cons_succ]
        refine OrdX.OrdAt.seq rfl rfl ?_
        intro X hB
        go_wp2_with (fail)
        refine ⟨.inr (World.grownBy_alloc X _ _), ?_⟩
        have hbx := hWc.trans (hB.mono hWc.size)
        have hsb := side_box X ⟨z0v, z1v, z2v, bY, fr, 0⟩
        unfold CT.Side.arr at hsb
        dsimp only at hsb
        have HG5 := Lib.hid (HG.out.turn (hbx.trans (hsb.1.mono hbx.size)))
        have HM := Lib.hid hsb.2
        clear hbx hsb hB hWc
        generalize X.alloc (.cells #[.int .i64 z0v, .int .i64 z1v, .int .u32 z2v, .int .i64 bY, .int .i64 fr, .int .i64 0] 45) = Y at *
        generalize X.heap.size = M at *
        refine OrdX.OrdAt.seq rfl rfl ?_
        intro X hB
        have hG5 := HG5.out.turn hB
        refine GR.wp_app_one Side.len Side.one (by decide) (T := 79) (e := 45) (bytes := 48) (by kernel_rfl) info45 rfl w0.heap.size _ _ rfl _ NG l2 rfl (by have h := hG5.own; rw [LHG.out] at h; exact h) M 1 _ rfl (HM.out.turn hB) (by have := HLF.out; omega) (by decide) hG5.bl.size ?_
        intro v' W1 h1 h2 h3
        have H1 : Hid (Got w0 W1 v' (l2 ++ [⟨z0v, z1v, z2v, bY, fr, 0⟩])) := Lib.hid (hG5.app LHG.out h1 h2)
        refine ⟨.inl (by decide), ?_⟩
        clear h1 h2 h3 hG5 hB
        simp only [Act.put, List.setIfInBounds_toArray, List.set_cons_zero, List.set_cons_succ]
        refine OrdX.OrdAt.seq rfl rfl ?_
        intro X hB
        have HE := Lib.hid (H1.out.turn hB)
        clear hB
        go_wp2_with (fail)
        refine ⟨.inl (by decide), OrdX.OrdAt.done ?_⟩
        intro W9 hW9
        refine OrdX.on_normal ?_
        have HE9 := Lib.hid (HE.out.turn hW9)
        clear hW9 HE
        go_wp2_with (fail)
        go_roundw
        case rel => exact ⟨k + 1, by omega, by go_num, Lib.hid (by rw [HNX.out, ← List.append_assoc, HL2.out]; exact HE9.out)⟩
        case measure => simp [intOf]; omega
      · obtain rfl : k = n1 := by omega
        have ti : decide ((k : Int) < (k : Int)) = false := decide_eq_false (by omega)
        rw [← HN.out, overTo_all] at HG
        go_wp2_with (fail)
        go_ret
        exact ⟨_, rfl, HG.out⟩
  | true =>
    go_enter Try.func56, Try.ntmps56
    go_wp2_with (fail)
    go_loopw [0, 13] (fun v a wr => ∃ k : Nat, k ≤ n1 ∧ a = .int .i64 k ∧ Hid (Got w0 wr v (l ++ overTo true m line bY xs k))) (fun _ a _ => n1 - (intOf a).toNat)
    case atStart => exact ⟨0, Nat.zero_le _, rfl, Lib.hid (by show Got w0 W _ (l ++ []); rw [List.append_nil]; exact HG.out)⟩
    case round =>
      clear HG
      obtain ⟨k, hk, rfl, HG⟩ := hrel
      obtain ⟨WG, hWG⟩ : ∃ x, x = wr := ⟨_, rfl⟩
      subst hWG
      by_cases hlt : k < n1
      · have ti : decide ((k : Int) < (n1 : Int)) = true := decide_eq_true (by omega)
        obtain ⟨x, b, off, hxk, hA2, hat, hbl⟩ := HX.out.get k (by rw [HN.out]; exact hlt)
        subst hA2
        obtain ⟨u, cu, hu⟩ := own_slice HG.out.own
        obtain ⟨z, hz, Z0, Z1, Z2⟩ := run_lineAt hat hbl HK.out
        obtain ⟨z0v, z1v, z2v⟩ := z
        have hnx := overTo_next (col := true) (m := m) (by_ := bY) (line := line) (by rw [HN.out]; exact hlt : k < xs.length)
        rw [hxk.out] at hnx
        unfold overRun at hnx
        rw [hz] at hnx
        obtain ⟨fr, hfr⟩ : ∃ q, x.from_ = q := ⟨_, rfl⟩
        obtain ⟨to, hto⟩ : ∃ q, x.to_ = q := ⟨_, rfl⟩
        have q0 : WG.cell? ⟨b, off + k * 14, none⟩ = some (.int .i64 fr) := (HG.out.bl.cell (p := ⟨b, off + k * 14, none⟩) hbl).trans (by rw [← hfr]; exact hat 0 _ rfl)
        have q1 : WG.cell? ⟨b, off + k * 14 + 1, none⟩ = some (.int .i64 to) := (HG.out.bl.cell (p := ⟨b, off + k * 14 + 1, none⟩) hbl).trans (by rw [← hto]; exact hat 1 _ rfl)
        rw [hfr, hto] at hnx
        have Q0 := Lib.hid q0
        have Z0 : Hid (WG.cell? ⟨b, off + k * 14 + 2 + line * 3, none⟩ = some (.int .i64 z0v)) := Lib.hid ((HG.out.bl.cell (p := ⟨b, off + k * 14 + 2 + line * 3, none⟩) hbl).trans Z0)
        have Z1 : Hid (WG.cell? ⟨b, off + k * 14 + 2 + line * 3 + 1, none⟩ = some (.int .i64 z1v)) := Lib.hid ((HG.out.bl.cell (p := ⟨b, off + k * 14 + 2 + line * 3 + 1, none⟩) hbl).trans Z1)
        have Z2 : Hid (WG.cell? ⟨b, off + k * 14 + 2 + line * 3 + 2, none⟩ = some (.int .u32 z2v)) := Lib.hid ((HG.out.bl.cell (p := ⟨b, off + k * 14 + 2 + line * 3 + 2, none⟩) hbl).trans Z2)
        have HNX := Lib.hid hnx
        obtain ⟨l2, hl2⟩ : ∃ l2, l ++ overTo true m line bY xs k = l2 := ⟨_, rfl⟩
        have HL2 := Lib.hid hl2
        obtain ⟨NG, hNG⟩ : ∃ m, l2.length = m := ⟨_, rfl⟩
        have hNl : NG ≤ 800000 + 1000 := by rw [← hNG, ← hl2, List.length_append]; have := overTo_len true m bY line xs k; have := HLF0.out; have := HN.out; omega
        have HLF : Hid (NG ≤ 802000) := Lib.hid (by omega)
        rw [hl2] at HG hu
        rw [hNG] at hu
        subst hu
        have LHG := Lib.hid hNG
        have vk : k < n1 := hlt
        have vf : (line : Int) < 4 := by have := HK.out; omega
        have f9 : IntKind.i64.wrap ((k : Int) + 1) = (k : Int) + 1 := IntWalk.i64_in _ (by have := HK1.out; omega)
        clear hat hbl hxk hnx hz hfr hto hl2 hNG hNl
        by_cases c1 : m < fr
        · have t1 : decide (m < fr) = true := decide_eq_true c1
          have hnx := HNX.out
          rw [if_neg (by omega), List.append_nil] at hnx
          have HNX := Lib.hid hnx
          clear hnx c1
          go_wp2_with (fail)
          go_roundw
          case rel => exact ⟨k + 1, by omega, by go_num, Lib.hid (by rw [HNX.out, HL2.out]; exact HG.out)⟩
          case measure => simp [intOf]; omega
        have t1 : decide (m < fr) = false := decide_eq_false c1
        by_cases c2 : to ≤ m
        · have t2 : decide (to ≤ m) = true := decide_eq_true c2
          have hnx := HNX.out
          rw [if_neg (by omega), List.append_nil] at hnx
          have HNX := Lib.hid hnx
          clear hnx c1 c2
          go_wp2_with (fail)
          go_roundw
          case rel => exact ⟨k + 1, by omega, by go_num, Lib.hid (by rw [HNX.out, HL2.out]; exact HG.out)⟩
          case measure => simp [intOf]; omega
        have t2 : decide (to ≤ m) = false := decide_eq_false c2
        have hnx := HNX.out
        rw [if_pos (by omega)] at hnx
        have HNX := Lib.hid hnx
        clear hnx c1 c2
        obtain ⟨I, hI0⟩ : ∃ I : OrdX.Off, I.row = none := ⟨⟨_⟩, rfl⟩
        have HIn : Hid (∀ b : Nat, some b ≠ OrdX.Off.row) := Lib.hid fun b e => by rw [hI0] at e; cases e
        clear hI0
        go_wp2_with (fail)
        clear q0 q1
        refine OrdX.wp_region_ordN 16 [(0, true), (1, true), (2, true), (3, true), (4, true), (5, true), (6, true), (7, true), (8, true), (9, true), (10, true), (11, true), (12, true), (13, true), (14, true), (15, false), (16, false), (17, false)] (by kernel_rfl) (by kernel_rfl) ?_
        intro Wc hWc
        iterate 7
          apply OrdX.OrdAt.op OrdX.on_put rfl rfl rfl
          · intro X hB
            go_simp
            try rfl
          · dsimp only [List.set_cons_zero, List.set_cons_succ]
        apply OrdX.OrdAt.op OrdX.on_put rfl rfl rfl
        · intro X hB
          have s := OrdX.rd (hWc.g.tr hB) (HIn.out _) (Z0.out)
          have s1 := OrdX.rd (hWc.g.tr hB) (HIn.out _) (Z1.out)
          have s2 := OrdX.rd (hWc.g.tr hB) (HIn.out _) (Z2.out)
          go_simp
          try rfl
        · dsimp only [List.set_cons_zero, List.set_cons_succ]
        iterate 5
          apply OrdX.OrdAt.op OrdX.on_put rfl rfl rfl
          · intro X hB
            go_simp
            try rfl
          · dsimp only [List.set_cons_zero, List.set_cons_succ]
        apply OrdX.OrdAt.op OrdX.on_put rfl rfl rfl
        · intro X hB
          have s := OrdX.rd (hWc.g.tr hB) (HIn.out _) (Q0.out)
          go_simp
          try rfl
        · dsimp only [List.set_cons_zero, List.set_cons_succ]
        apply OrdX.OrdAt.op OrdX.on_put rfl rfl rfl
        · intro X hB
          go_simp
          try rfl
        · dsimp only [List.set_cons_zero, List.set_cons_succ]
        refine OrdX.OrdAt.seq rfl rfl ?_
        intro X hB
        go_wp2_with (fail)
        refine ⟨.inr (World.grownBy_alloc X _ _), ?_⟩
        have hbx := hWc.trans (hB.mono hWc.size)
        have hsb := side_box X ⟨z0v, z1v, z2v, bY, 0, fr⟩
        unfold CT.Side.arr at hsb
        dsimp only at hsb
        have HG5 := Lib.hid (HG.out.turn (hbx.trans (hsb.1.mono hbx.size)))
        have HM := Lib.hid hsb.2
        clear hbx hsb hB hWc
        generalize X.alloc (.cells #[.int .i64 z0v, .int .i64 z1v, .int .u32 z2v, .int .i64 bY, .int .i64 0, .int .i64 fr] 45) = Y at *
        generalize X.heap.size = M at *
        refine OrdX.OrdAt.seq rfl rfl ?_
        intro X hB
        have hG5 := HG5.out.turn hB
        refine GR.wp_app_one Side.len Side.one (by decide) (T := 79) (e := 45) (bytes := 48) (by kernel_rfl) info45 rfl w0.heap.size _ _ rfl _ NG l2 rfl (by have h := hG5.own; rw [LHG.out] at h; exact h) M 1 _ rfl (HM.out.turn hB) (by have := HLF.out; omega) (by decide) hG5.bl.size ?_
        intro v' W1 h1 h2 h3
        have H1 : Hid (Got w0 W1 v' (l2 ++ [⟨z0v, z1v, z2v, bY, 0, fr⟩])) := Lib.hid (hG5.app LHG.out h1 h2)
        refine ⟨.inl (by decide), ?_⟩
        clear h1 h2 h3 hG5 hB
        simp only [Act.put, List.setIfInBounds_toArray, List.set_cons_zero, List.set_cons_succ]
        refine OrdX.OrdAt.seq rfl rfl ?_
        intro X hB
        have HE := Lib.hid (H1.out.turn hB)
        clear hB
        go_wp2_with (fail)
        refine ⟨.inl (by decide), OrdX.OrdAt.done ?_⟩
        intro W9 hW9
        refine OrdX.on_normal ?_
        have HE9 := Lib.hid (HE.out.turn hW9)
        clear hW9 HE
        go_wp2_with (fail)
        go_roundw
        case rel => exact ⟨k + 1, by omega, by go_num, Lib.hid (by rw [HNX.out, ← List.append_assoc, HL2.out]; exact HE9.out)⟩
        case measure => simp [intOf]; omega
      · obtain rfl : k = n1 := by omega
        have ti : decide ((k : Int) < (k : Int)) = false := decide_eq_false (by omega)
        rw [← HN.out, overTo_all] at HG
        go_wp2_with (fail)
        go_ret
        exact ⟨_, rfl, HG.out⟩
end Go.Proofs.Ytmlcjiabnmdfeaa
