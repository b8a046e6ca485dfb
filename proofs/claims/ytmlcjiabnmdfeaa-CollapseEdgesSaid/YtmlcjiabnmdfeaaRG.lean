/- The reference's ends: what runs ask for where they begin and end. -/
import Derived.Test.YtmlcjiabnmdfeaaRF
import Derived.Test.YtmlcjiabnmdfeaaZ
namespace Go.Proofs.Ytmlcjiabnmdfeaa
open Go Go.RowKit Go.Shelf CT
set_option linter.unusedVariables false

def endsRun (st : Bool) (n by_ : Int) (fa ne : Nat) (x : Run) : List CT.Side := (if x.to_ = n then [dSide st (lineOf x.ls fa) by_ x.from_ false] else []) ++ (if x.from_ = n then [dSide st (lineOf x.ls ne) by_ x.from_ false] else [])
theorem endsRun_ask (st : Bool) (n by_ : Int) : endsRun st n by_ (aheadOf st) (behindOf st) = askRun st n by_ := rfl
def endsTo (st : Bool) (n by_ : Int) (fa ne : Nat) (xs : List Run) (k : Nat) : List CT.Side := (xs.take k).flatMap (endsRun st n by_ fa ne)
theorem endsTo_next {st : Bool} {n by_ : Int} {fa ne : Nat} {xs : List Run} {k : Nat} (hk : k < xs.length) : endsTo st n by_ fa ne xs (k + 1) = endsTo st n by_ fa ne xs k ++ endsRun st n by_ fa ne (xs[k]?.getD default) := by
  unfold endsTo
  rw [List.take_add_one, List.flatMap_append, List.getElem?_eq_getElem hk]
  show _ ++ List.flatMap _ [xs[k]] = _ ++ endsRun st n by_ fa ne xs[k]
  rw [List.flatMap_cons, List.flatMap_nil, List.append_nil]
theorem endsTo_all {st : Bool} {n by_ : Int} {fa ne : Nat} {xs : List Run} : endsTo st n by_ fa ne xs xs.length = xs.flatMap (endsRun st n by_ fa ne) := by unfold endsTo; rw [List.take_length]
theorem endsRun_len (st : Bool) (n by_ : Int) (fa ne : Nat) (x : Run) : (endsRun st n by_ fa ne x).length ≤ 2 := by unfold endsRun; rw [List.length_append]; split <;> split <;> simp
theorem endsTo_len (st : Bool) (n by_ : Int) (fa ne : Nat) (xs : List Run) (k : Nat) : (endsTo st n by_ fa ne xs k).length ≤ 2 * xs.length := by
  unfold endsTo
  have := flat_le (F := endsRun st n by_ fa ne) (l := xs.take k) fun x _ => endsRun_len st n by_ fa ne x
  have h2 : (xs.take k).length ≤ xs.length := by rw [List.length_take]; omega
  omega
/-- one of a run's lines, where it lies -/
theorem run_lineAt {W : World} {b o : Nat} {x : Run} (hat : GR.At Run.cells W b o x) (hb : b < W.heap.size) {k : Nat} (hk : k < 4) : ∃ z : Line, lineOf x.ls k = z ∧ W.cell? ⟨b, o + 2 + k * 3, none⟩ = some (.int .i64 z.style) ∧ W.cell? ⟨b, o + 2 + k * 3 + 1, none⟩ = some (.int .i64 z.width) ∧ W.cell? ⟨b, o + 2 + k * 3 + 2, none⟩ = some (.int .u32 z.color) := by
  have hls : GR.At L4.cells W b (o + 2) x.ls := fun j u hu => by
    have := hat (2 + j) u (run_ls x j u hu)
    rwa [← Nat.add_assoc] at this
  obtain ⟨z, b2, off2, hzk, e2, hat2, _⟩ := (four_lines hls hb).get k hk
  cases e2
  exact ⟨z, hzk.out, hat2 0 _ rfl, hat2 1 _ rfl, hat2 2 _ rfl⟩
/-- elements are appended -/
theorem Got.app {w0 W W1 : World} {u v' : Value} {l : List CT.Side} {N : Nat} {s : CT.Side} (h : Got w0 W u l) (hN : l.length = N) (ho : W1.ownsRow w0.heap.size 45 6 v' (N + 1) (GR.flat CT.Side.cells (l ++ [s]))) (hb : Below w0.heap.size W W1) : Got w0 W1 v' (l ++ [s]) :=
  ⟨by rw [List.length_append, hN]; exact ho, h.bl.trans hb⟩
theorem side_box (W : World) (s : CT.Side) : Below W.heap.size W (W.alloc (.cells s.arr 45)) ∧ GR.One CT.Side.cells 45 (W.alloc (.cells s.arr 45)) W.heap.size s := ⟨(Below.refl _ _).alloc (Nat.le_refl _) _, GR.One.new (enc := CT.Side.cells) 45 W s⟩

set_option maxRecDepth 100000 in
set_option maxHeartbeats 16000000 in
/-- the reference's ends -/
theorem c55 (st : Bool) (A : Option Addr) (xs : List Run) (cp : Nat) (n bY : Int) (fa ne : Nat) (u0 : Value) (l : List CT.Side) (w0 W : World) (hx : GR.Many Run.cells 14 w0 A xs) (hxl : xs.length ≤ 1000) (hG : Got w0 W u0 l) (hf : fa < 4) (hne : ne < 4) (hl : l.length ≤ 800000) :
    Calls Try.prog 55 #[u0, .slice A xs.length cp, .int .i64 n, .int .i64 bY, .int .i64 fa, .int .i64 ne, .bool st] W fun e W' => ∃ u', e = .returned u' ∧ Got w0 W' u' (l ++ xs.flatMap (endsRun st n bY fa ne)) := by
  have HX := Lib.hid hx
  have HG := Lib.hid hG
  have HK : Hid (fa < 4 ∧ ne < 4) := Lib.hid ⟨hf, hne⟩
  have HLF0 : Hid (l.length ≤ 800000 ∧ xs.length ≤ 1000) := Lib.hid ⟨hl, hxl⟩
  obtain ⟨n1, hn1⟩ : ∃ m, xs.length = m := ⟨_, rfl⟩
  have HN := Lib.hid hn1
  have HK1 : Hid (n1 ≤ 1000) := Lib.hid (by omega)
  rw [hn1]
  clear hx hG hf hne hl hxl hn1
  cases st with
  | false =>
    go_enter Try.func55, Try.ntmps55
    go_wp2_with (fail)
    go_loopw [0, 15] (fun v a wr => ∃ k : Nat, k ≤ n1 ∧ a = .int .i64 k ∧ Hid (Got w0 wr v (l ++ endsTo false n bY fa ne xs k))) (fun _ a _ => n1 - (intOf a).toNat)
    case atStart => exact ⟨0, Nat.zero_le _, rfl, Lib.hid (by show Got w0 W _ (l ++ []); rw [List.append_nil]; exact HG.out)⟩
    case round =>
      clear HG
      obtain ⟨k, hk, rfl, HG⟩ := hrel
      obtain ⟨WG, hWG⟩ : ∃ x, x = wr := ⟨_, rfl⟩
      subst hWG
      by_cases hlt : k < n1
      · have ti : decide ((k : Int) < (n1 : Int)) = true := decide_eq_true (by omega)
        obtain ⟨x, b, off, hxk, hA2, hat, hbl⟩ := HX.out.get k (by rw [HN.out]; exact hlt)
        subst hA2
        obtain ⟨u, cu, hu⟩ := own_slice HG.out.own
        obtain ⟨y, hy, Y0, Y1, Y2⟩ := run_lineAt hat hbl HK.out.1
        obtain ⟨z, hz, Z0, Z1, Z2⟩ := run_lineAt hat hbl HK.out.2
        obtain ⟨y0v, y1v, y2v⟩ := y
        obtain ⟨z0v, z1v, z2v⟩ := z
        have hnx := endsTo_next (st := false) (n := n) (by_ := bY) (fa := fa) (ne := ne) (by rw [HN.out]; exact hlt : k < xs.length)
        rw [hxk.out] at hnx
        unfold endsRun at hnx
        rw [hy, hz] at hnx
        obtain ⟨fr, hfr⟩ : ∃ q, x.from_ = q := ⟨_, rfl⟩
        obtain ⟨to, hto⟩ : ∃ q, x.to_ = q := ⟨_, rfl⟩
        have Q0 : Hid (w0.cell? ⟨b, off + k * 14, none⟩ = some (.int .i64 fr)) := Lib.hid (by rw [← hfr]; exact hat 0 _ rfl)
        have Q1 : Hid (w0.cell? ⟨b, off + k * 14 + 1, none⟩ = some (.int .i64 to)) := Lib.hid (by rw [← hto]; exact hat 1 _ rfl)
        rw [hfr, hto] at hnx
        have Y0 := Lib.hid Y0
        have Y1 := Lib.hid Y1
        have Y2 := Lib.hid Y2
        have Z0 := Lib.hid Z0
        have Z1 := Lib.hid Z1
        have Z2 := Lib.hid Z2
        have HNX := Lib.hid hnx
        have HLT := Lib.hid hbl
        obtain ⟨l2, hl2⟩ : ∃ l2, l ++ endsTo false n bY fa ne xs k = l2 := ⟨_, rfl⟩
        have HL2 := Lib.hid hl2
        obtain ⟨NG, hNG⟩ : ∃ m, l2.length = m := ⟨_, rfl⟩
        have hNl : NG ≤ 800000 + 2000 := by rw [← hNG, ← hl2, List.length_append]; have := endsTo_len false n bY fa ne xs k; have := HLF0.out; have := HN.out; omega
        have HLF : Hid (NG ≤ 802000) := Lib.hid hNl
        rw [hl2] at HG hu
        rw [hNG] at hu
        subst hu
        have LHG := Lib.hid hNG
        have vk : k < n1 := hlt
        have vf : (fa : Int) < 4 := by have := HK.out.1; omega
        have vn : (ne : Int) < 4 := by have := HK.out.2; omega
        have f9 : IntKind.i64.wrap ((k : Int) + 1) = (k : Int) + 1 := IntWalk.i64_in _ (by have := HK1.out; omega)
        clear hat hbl hxk hnx hy hz hfr hto hl2 hNG hNl
        by_cases ct : to = n
        · by_cases cf : fr = n
          · skip
            have q1t : (to == n) = true := by rw [beq_iff_eq]; exact ct
            have q0t : (fr == n) = true := by rw [beq_iff_eq]; exact cf
            have hnx := HNX.out
            rw [if_pos ct, if_pos cf] at hnx
            have HNX := Lib.hid hnx
            clear hnx ct cf
            have q0 : WG.cell? ⟨b, off + k * 14, none⟩ = some (.int .i64 fr) := (HG.out.bl.cell (p := ⟨b, off + k * 14, none⟩) HLT.out).trans Q0.out
            have q1 : WG.cell? ⟨b, off + k * 14 + 1, none⟩ = some (.int .i64 to) := (HG.out.bl.cell (p := ⟨b, off + k * 14 + 1, none⟩) HLT.out).trans Q1.out
            have y0 : WG.cell? ⟨b, off + k * 14 + 2 + fa * 3, none⟩ = some (.int .i64 y0v) := (HG.out.bl.cell (p := ⟨b, off + k * 14 + 2 + fa * 3, none⟩) HLT.out).trans Y0.out
            have y1 : WG.cell? ⟨b, off + k * 14 + 2 + fa * 3 + 1, none⟩ = some (.int .i64 y1v) := (HG.out.bl.cell (p := ⟨b, off + k * 14 + 2 + fa * 3 + 1, none⟩) HLT.out).trans Y1.out
            have y2 : WG.cell? ⟨b, off + k * 14 + 2 + fa * 3 + 2, none⟩ = some (.int .u32 y2v) := (HG.out.bl.cell (p := ⟨b, off + k * 14 + 2 + fa * 3 + 2, none⟩) HLT.out).trans Y2.out
            go_wp2_with (first | (refine at_dst 55 rfl ?_; go_must (have hbx := side_box WG ⟨y0v, y1v, y2v, bY, fr, 0⟩; unfold CT.Side.arr at hbx; dsimp only at hbx; have hg5 := HG.out.turn hbx.1; have ho5 := hg5.own; rw [LHG.out] at ho5; (refine GR.wpList_app_one rfl Side.len Side.one (by decide) (T := 79) (e := 45) (bytes := 48) (by kernel_rfl) info45 rfl w0.heap.size _ _ rfl _ NG _ rfl ho5 WG.heap.size 1 _ rfl hbx.2 (by have := HLF.out; omega) (by decide) hg5.bl.size ?_); intro ua Wa h1 h2 h3; have HGa := Lib.hid (hg5.app LHG.out h1 h2); clear h1 h2 h3 hg5 ho5 hbx q0 q1 y0 y1 y2; have LHGa : Hid (_ = NG + 1) := Lib.hid (by rw [List.length_append, LHG.out]; rfl : (l2 ++ [(⟨y0v, y1v, y2v, bY, fr, 0⟩ : CT.Side)]).length = NG + 1); have q0 : Wa.cell? ⟨b, off + k * 14, none⟩ = some (.int .i64 fr) := (HGa.out.bl.cell (p := ⟨b, off + k * 14, none⟩) HLT.out).trans Q0.out; have z0 : Wa.cell? ⟨b, off + k * 14 + 2 + ne * 3, none⟩ = some (.int .i64 z0v) := (HGa.out.bl.cell (p := ⟨b, off + k * 14 + 2 + ne * 3, none⟩) HLT.out).trans Z0.out; have z1 : Wa.cell? ⟨b, off + k * 14 + 2 + ne * 3 + 1, none⟩ = some (.int .i64 z1v) := (HGa.out.bl.cell (p := ⟨b, off + k * 14 + 2 + ne * 3 + 1, none⟩) HLT.out).trans Z1.out; have z2 : Wa.cell? ⟨b, off + k * 14 + 2 + ne * 3 + 2, none⟩ = some (.int .u32 z2v) := (HGa.out.bl.cell (p := ⟨b, off + k * 14 + 2 + ne * 3 + 2, none⟩) HLT.out).trans Z2.out)) | (refine at_dst 76 rfl ?_; go_must (have hbx := side_box Wa ⟨z0v, z1v, z2v, bY, fr, 0⟩; unfold CT.Side.arr at hbx; dsimp only at hbx; have hg5 := HGa.out.turn hbx.1; have ho5 := hg5.own; rw [LHGa.out] at ho5; (refine GR.wpList_app_one rfl Side.len Side.one (by decide) (T := 79) (e := 45) (bytes := 48) (by kernel_rfl) info45 rfl w0.heap.size _ _ rfl _ (NG + 1) _ rfl ho5 Wa.heap.size 1 _ rfl hbx.2 (by have := HLF.out; omega) (by decide) hg5.bl.size ?_); intro ub Wb h1 h2 h3; have HGb := Lib.hid (hg5.app LHGa.out h1 h2); clear h1 h2 h3 hg5 ho5 hbx q0 z0 z1 z2)))
            go_roundw
            case rel =>
              refine ⟨k + 1, by omega, by go_num, Lib.hid ?_⟩
              rw [HNX.out, ← List.append_assoc, HL2.out]
              rw [← List.append_assoc]
              exact HGb.out
            case measure => simp [intOf]; omega
          · skip
            have q1t : (to == n) = true := by rw [beq_iff_eq]; exact ct
            have q0t : (fr == n) = false := beq_eq_false_iff_ne.2 cf
            have hnx := HNX.out
            rw [if_pos ct, if_neg cf] at hnx
            have HNX := Lib.hid hnx
            clear hnx ct cf
            have q0 : WG.cell? ⟨b, off + k * 14, none⟩ = some (.int .i64 fr) := (HG.out.bl.cell (p := ⟨b, off + k * 14, none⟩) HLT.out).trans Q0.out
            have q1 : WG.cell? ⟨b, off + k * 14 + 1, none⟩ = some (.int .i64 to) := (HG.out.bl.cell (p := ⟨b, off + k * 14 + 1, none⟩) HLT.out).trans Q1.out
            have y0 : WG.cell? ⟨b, off + k * 14 + 2 + fa * 3, none⟩ = some (.int .i64 y0v) := (HG.out.bl.cell (p := ⟨b, off + k * 14 + 2 + fa * 3, none⟩) HLT.out).trans Y0.out
            have y1 : WG.cell? ⟨b, off + k * 14 + 2 + fa * 3 + 1, none⟩ = some (.int .i64 y1v) := (HG.out.bl.cell (p := ⟨b, off + k * 14 + 2 + fa * 3 + 1, none⟩) HLT.out).trans Y1.out
            have y2 : WG.cell? ⟨b, off + k * 14 + 2 + fa * 3 + 2, none⟩ = some (.int .u32 y2v) := (HG.out.bl.cell (p := ⟨b, off + k * 14 + 2 + fa * 3 + 2, none⟩) HLT.out).trans Y2.out
            go_wp2_with (first | (refine at_dst 55 rfl ?_; go_must (have hbx := side_box WG ⟨y0v, y1v, y2v, bY, fr, 0⟩; unfold CT.Side.arr at hbx; dsimp only at hbx; have hg5 := HG.out.turn hbx.1; have ho5 := hg5.own; rw [LHG.out] at ho5; (refine GR.wpList_app_one rfl Side.len Side.one (by decide) (T := 79) (e := 45) (bytes := 48) (by kernel_rfl) info45 rfl w0.heap.size _ _ rfl _ NG _ rfl ho5 WG.heap.size 1 _ rfl hbx.2 (by have := HLF.out; omega) (by decide) hg5.bl.size ?_); intro ua Wa h1 h2 h3; have HGa := Lib.hid (hg5.app LHG.out h1 h2); clear h1 h2 h3 hg5 ho5 hbx q0 q1 y0 y1 y2; have q0 : Wa.cell? ⟨b, off + k * 14, none⟩ = some (.int .i64 fr) := (HGa.out.bl.cell (p := ⟨b, off + k * 14, none⟩) HLT.out).trans Q0.out)))
            go_roundw
            case rel =>
              refine ⟨k + 1, by omega, by go_num, Lib.hid ?_⟩
              rw [HNX.out, ← List.append_assoc, HL2.out]
              rw [List.append_nil]
              exact HGa.out
            case measure => simp [intOf]; omega
        · by_cases cf : fr = n
          · skip
            have q1t : (to == n) = false := beq_eq_false_iff_ne.2 ct
            have q0t : (fr == n) = true := by rw [beq_iff_eq]; exact cf
            have hnx := HNX.out
            rw [if_neg ct, if_pos cf] at hnx
            have HNX := Lib.hid hnx
            clear hnx ct cf
            have q0 : WG.cell? ⟨b, off + k * 14, none⟩ = some (.int .i64 fr) := (HG.out.bl.cell (p := ⟨b, off + k * 14, none⟩) HLT.out).trans Q0.out
            have q1 : WG.cell? ⟨b, off + k * 14 + 1, none⟩ = some (.int .i64 to) := (HG.out.bl.cell (p := ⟨b, off + k * 14 + 1, none⟩) HLT.out).trans Q1.out
            have z0 : WG.cell? ⟨b, off + k * 14 + 2 + ne * 3, none⟩ = some (.int .i64 z0v) := (HG.out.bl.cell (p := ⟨b, off + k * 14 + 2 + ne * 3, none⟩) HLT.out).trans Z0.out
            have z1 : WG.cell? ⟨b, off + k * 14 + 2 + ne * 3 + 1, none⟩ = some (.int .i64 z1v) := (HG.out.bl.cell (p := ⟨b, off + k * 14 + 2 + ne * 3 + 1, none⟩) HLT.out).trans Z1.out
            have z2 : WG.cell? ⟨b, off + k * 14 + 2 + ne * 3 + 2, none⟩ = some (.int .u32 z2v) := (HG.out.bl.cell (p := ⟨b, off + k * 14 + 2 + ne * 3 + 2, none⟩) HLT.out).trans Z2.out
            go_wp2_with (first | (refine at_dst 76 rfl ?_; go_must (have hbx := side_box WG ⟨z0v, z1v, z2v, bY, fr, 0⟩; unfold CT.Side.arr at hbx; dsimp only at hbx; have hg5 := HG.out.turn hbx.1; have ho5 := hg5.own; rw [LHG.out] at ho5; (refine GR.wpList_app_one rfl Side.len Side.one (by decide) (T := 79) (e := 45) (bytes := 48) (by kernel_rfl) info45 rfl w0.heap.size _ _ rfl _ NG _ rfl ho5 WG.heap.size 1 _ rfl hbx.2 (by have := HLF.out; omega) (by decide) hg5.bl.size ?_); intro ub Wb h1 h2 h3; have HGb := Lib.hid (hg5.app LHG.out h1 h2); clear h1 h2 h3 hg5 ho5 hbx q0 q1 z0 z1 z2)))
            go_roundw
            case rel =>
              refine ⟨k + 1, by omega, by go_num, Lib.hid ?_⟩
              rw [HNX.out, ← List.append_assoc, HL2.out]
              rw [List.nil_append]
              exact HGb.out
            case measure => simp [intOf]; omega
          · skip
            have q1t : (to == n) = false := beq_eq_false_iff_ne.2 ct
            have q0t : (fr == n) = false := beq_eq_false_iff_ne.2 cf
            have hnx := HNX.out
            rw [if_neg ct, if_neg cf] at hnx
            have HNX := Lib.hid hnx
            clear hnx ct cf
            have q0 : WG.cell? ⟨b, off + k * 14, none⟩ = some (.int .i64 fr) := (HG.out.bl.cell (p := ⟨b, off + k * 14, none⟩) HLT.out).trans Q0.out
            have q1 : WG.cell? ⟨b, off + k * 14 + 1, none⟩ = some (.int .i64 to) := (HG.out.bl.cell (p := ⟨b, off + k * 14 + 1, none⟩) HLT.out).trans Q1.out
            go_wp2_with (fail)
            go_roundw
            case rel =>
              refine ⟨k + 1, by omega, by go_num, Lib.hid ?_⟩
              rw [HNX.out, ← List.append_assoc, HL2.out]
              rw [List.nil_append, List.append_nil]
              exact HG.out
            case measure => simp [intOf]; omega
      · obtain rfl : k = n1 := by omega
        have ti : decide ((k : Int) < (k : Int)) = false := decide_eq_false (by omega)
        rw [← HN.out, endsTo_all] at HG
        go_wp2_with (fail)
        go_ret
        exact ⟨_, rfl, HG.out⟩
  | true =>
    go_enter Try.func55, Try.ntmps55
    go_wp2_with (fail)
    go_loopw [0, 15] (fun v a wr => ∃ k : Nat, k ≤ n1 ∧ a = .int .i64 k ∧ Hid (Got w0 wr v (l ++ endsTo true n bY fa ne xs k))) (fun _ a _ => n1 - (intOf a).toNat)
    case atStart => exact ⟨0, Nat.zero_le _, rfl, Lib.hid (by show Got w0 W _ (l ++ []); rw [List.append_nil]; exact HG.out)⟩
    case round =>
      clear HG
      obtain ⟨k, hk, rfl, HG⟩ := hrel
      obtain ⟨WG, hWG⟩ : ∃ x, x = wr := ⟨_, rfl⟩
      subst hWG
      by_cases hlt : k < n1
      · have ti : decide ((k : Int) < (n1 : Int)) = true := decide_eq_true (by omega)
        obtain ⟨x, b, off, hxk, hA2, hat, hbl⟩ := HX.out.get k (by rw [HN.out]; exact hlt)
        subst hA2
        obtain ⟨u, cu, hu⟩ := own_slice HG.out.own
        obtain ⟨y, hy, Y0, Y1, Y2⟩ := run_lineAt hat hbl HK.out.1
        obtain ⟨z, hz, Z0, Z1, Z2⟩ := run_lineAt hat hbl HK.out.2
        obtain ⟨y0v, y1v, y2v⟩ := y
        obtain ⟨z0v, z1v, z2v⟩ := z
        have hnx := endsTo_next (st := true) (n := n) (by_ := bY) (fa := fa) (ne := ne) (by rw [HN.out]; exact hlt : k < xs.length)
        rw [hxk.out] at hnx
        unfold endsRun at hnx
        rw [hy, hz] at hnx
        obtain ⟨fr, hfr⟩ : ∃ q, x.from_ = q := ⟨_, rfl⟩
        obtain ⟨to, hto⟩ : ∃ q, x.to_ = q := ⟨_, rfl⟩
        have Q0 : Hid (w0.cell? ⟨b, off + k * 14, none⟩ = some (.int .i64 fr)) := Lib.hid (by rw [← hfr]; exact hat 0 _ rfl)
        have Q1 : Hid (w0.cell? ⟨b, off + k * 14 + 1, none⟩ = some (.int .i64 to)) := Lib.hid (by rw [← hto]; exact hat 1 _ rfl)
        rw [hfr, hto] at hnx
        have Y0 := Lib.hid Y0
        have Y1 := Lib.hid Y1
        have Y2 := Lib.hid Y2
        have Z0 := Lib.hid Z0
        have Z1 := Lib.hid Z1
        have Z2 := Lib.hid Z2
        have HNX := Lib.hid hnx
        have HLT := Lib.hid hbl
        obtain ⟨l2, hl2⟩ : ∃ l2, l ++ endsTo true n bY fa ne xs k = l2 := ⟨_, rfl⟩
        have HL2 := Lib.hid hl2
        obtain ⟨NG, hNG⟩ : ∃ m, l2.length = m := ⟨_, rfl⟩
        have hNl : NG ≤ 800000 + 2000 := by rw [← hNG, ← hl2, List.length_append]; have := endsTo_len true n bY fa ne xs k; have := HLF0.out; have := HN.out; omega
        have HLF : Hid (NG ≤ 802000) := Lib.hid hNl
        rw [hl2] at HG hu
        rw [hNG] at hu
        subst hu
        have LHG := Lib.hid hNG
        have vk : k < n1 := hlt
        have vf : (fa : Int) < 4 := by have := HK.out.1; omega
        have vn : (ne : Int) < 4 := by have := HK.out.2; omega
        have f9 : IntKind.i64.wrap ((k : Int) + 1) = (k : Int) + 1 := IntWalk.i64_in _ (by have := HK1.out; omega)
        clear hat hbl hxk hnx hy hz hfr hto hl2 hNG hNl
        by_cases ct : to = n
        · by_cases cf : fr = n
          · skip
            have q1t : (to == n) = true := by rw [beq_iff_eq]; exact ct
            have q0t : (fr == n) = true := by rw [beq_iff_eq]; exact cf
            have hnx := HNX.out
            rw [if_pos ct, if_pos cf] at hnx
            have HNX := Lib.hid hnx
            clear hnx ct cf
            have q0 : WG.cell? ⟨b, off + k * 14, none⟩ = some (.int .i64 fr) := (HG.out.bl.cell (p := ⟨b, off + k * 14, none⟩) HLT.out).trans Q0.out
            have q1 : WG.cell? ⟨b, off + k * 14 + 1, none⟩ = some (.int .i64 to) := (HG.out.bl.cell (p := ⟨b, off + k * 14 + 1, none⟩) HLT.out).trans Q1.out
            have y0 : WG.cell? ⟨b, off + k * 14 + 2 + fa * 3, none⟩ = some (.int .i64 y0v) := (HG.out.bl.cell (p := ⟨b, off + k * 14 + 2 + fa * 3, none⟩) HLT.out).trans Y0.out
            have y1 : WG.cell? ⟨b, off + k * 14 + 2 + fa * 3 + 1, none⟩ = some (.int .i64 y1v) := (HG.out.bl.cell (p := ⟨b, off + k * 14 + 2 + fa * 3 + 1, none⟩) HLT.out).trans Y1.out
            have y2 : WG.cell? ⟨b, off + k * 14 + 2 + fa * 3 + 2, none⟩ = some (.int .u32 y2v) := (HG.out.bl.cell (p := ⟨b, off + k * 14 + 2 + fa * 3 + 2, none⟩) HLT.out).trans Y2.out
            go_wp2_with (first | (refine at_dst 55 rfl ?_; go_must (have hbx := side_box WG ⟨y0v, y1v, y2v, bY, 0, fr⟩; unfold CT.Side.arr at hbx; dsimp only at hbx; have hg5 := HG.out.turn hbx.1; have ho5 := hg5.own; rw [LHG.out] at ho5; (refine GR.wpList_app_one rfl Side.len Side.one (by decide) (T := 79) (e := 45) (bytes := 48) (by kernel_rfl) info45 rfl w0.heap.size _ _ rfl _ NG _ rfl ho5 WG.heap.size 1 _ rfl hbx.2 (by have := HLF.out; omega) (by decide) hg5.bl.size ?_); intro ua Wa h1 h2 h3; have HGa := Lib.hid (hg5.app LHG.out h1 h2); clear h1 h2 h3 hg5 ho5 hbx q0 q1 y0 y1 y2; have LHGa : Hid (_ = NG + 1) := Lib.hid (by rw [List.length_append, LHG.out]; rfl : (l2 ++ [(⟨y0v, y1v, y2v, bY, 0, fr⟩ : CT.Side)]).length = NG + 1); have q0 : Wa.cell? ⟨b, off + k * 14, none⟩ = some (.int .i64 fr) := (HGa.out.bl.cell (p := ⟨b, off + k * 14, none⟩) HLT.out).trans Q0.out; have z0 : Wa.cell? ⟨b, off + k * 14 + 2 + ne * 3, none⟩ = some (.int .i64 z0v) := (HGa.out.bl.cell (p := ⟨b, off + k * 14 + 2 + ne * 3, none⟩) HLT.out).trans Z0.out; have z1 : Wa.cell? ⟨b, off + k * 14 + 2 + ne * 3 + 1, none⟩ = some (.int .i64 z1v) := (HGa.out.bl.cell (p := ⟨b, off + k * 14 + 2 + ne * 3 + 1, none⟩) HLT.out).trans Z1.out; have z2 : Wa.cell? ⟨b, off + k * 14 + 2 + ne * 3 + 2, none⟩ = some (.int .u32 z2v) := (HGa.out.bl.cell (p := ⟨b, off + k * 14 + 2 + ne * 3 + 2, none⟩) HLT.out).trans Z2.out)) | (refine at_dst 76 rfl ?_; go_must (have hbx := side_box Wa ⟨z0v, z1v, z2v, bY, 0, fr⟩; unfold CT.Side.arr at hbx; dsimp only at hbx; have hg5 := HGa.out.turn hbx.1; have ho5 := hg5.own; rw [LHGa.out] at ho5; (refine GR.wpList_app_one rfl Side.len Side.one (by decide) (T := 79) (e := 45) (bytes := 48) (by kernel_rfl) info45 rfl w0.heap.size _ _ rfl _ (NG + 1) _ rfl ho5 Wa.heap.size 1 _ rfl hbx.2 (by have := HLF.out; omega) (by decide) hg5.bl.size ?_); intro ub Wb h1 h2 h3; have HGb := Lib.hid (hg5.app LHGa.out h1 h2); clear h1 h2 h3 hg5 ho5 hbx q0 z0 z1 z2)))
            go_roundw
            case rel =>
              refine ⟨k + 1, by omega, by go_num, Lib.hid ?_⟩
              rw [HNX.out, ← List.append_assoc, HL2.out]
              rw [← List.append_assoc]
              exact HGb.out
            case measure => simp [intOf]; omega
          · skip
            have q1t : (to == n) = true := by rw [beq_iff_eq]; exact ct
            have q0t : (fr == n) = false := beq_eq_false_iff_ne.2 cf
            have hnx := HNX.out
            rw [if_pos ct, if_neg cf] at hnx
            have HNX := Lib.hid hnx
            clear hnx ct cf
            have q0 : WG.cell? ⟨b, off + k * 14, none⟩ = some (.int .i64 fr) := (HG.out.bl.cell (p := ⟨b, off + k * 14, none⟩) HLT.out).trans Q0.out
            have q1 : WG.cell? ⟨b, off + k * 14 + 1, none⟩ = some (.int .i64 to) := (HG.out.bl.cell (p := ⟨b, off + k * 14 + 1, none⟩) HLT.out).trans Q1.out
            have y0 : WG.cell? ⟨b, off + k * 14 + 2 + fa * 3, none⟩ = some (.int .i64 y0v) := (HG.out.bl.cell (p := ⟨b, off + k * 14 + 2 + fa * 3, none⟩) HLT.out).trans Y0.out
            have y1 : WG.cell? ⟨b, off + k * 14 + 2 + fa * 3 + 1, none⟩ = some (.int .i64 y1v) := (HG.out.bl.cell (p := ⟨b, off + k * 14 + 2 + fa * 3 + 1, none⟩) HLT.out).trans Y1.out
            have y2 : WG.cell? ⟨b, off + k * 14 + 2 + fa * 3 + 2, none⟩ = some (.int .u32 y2v) := (HG.out.bl.cell (p := ⟨b, off + k * 14 + 2 + fa * 3 + 2, none⟩) HLT.out).trans Y2.out
            go_wp2_with (first | (refine at_dst 55 rfl ?_; go_must (have hbx := side_box WG ⟨y0v, y1v, y2v, bY, 0, fr⟩; unfold CT.Side.arr at hbx; dsimp only at hbx; have hg5 := HG.out.turn hbx.1; have ho5 := hg5.own; rw [LHG.out] at ho5; (refine GR.wpList_app_one rfl Side.len Side.one (by decide) (T := 79) (e := 45) (bytes := 48) (by kernel_rfl) info45 rfl w0.heap.size _ _ rfl _ NG _ rfl ho5 WG.heap.size 1 _ rfl hbx.2 (by have := HLF.out; omega) (by decide) hg5.bl.size ?_); intro ua Wa h1 h2 h3; have HGa := Lib.hid (hg5.app LHG.out h1 h2); clear h1 h2 h3 hg5 ho5 hbx q0 q1 y0 y1 y2; have q0 : Wa.cell? ⟨b, off + k * 14, none⟩ = some (.int .i64 fr) := (HGa.out.bl.cell (p := ⟨b, off + k * 14, none⟩) HLT.out).trans Q0.out)))
            go_roundw
            case rel =>
              refine ⟨k + 1, by omega, by go_num, Lib.hid ?_⟩
              rw [HNX.out, ← List.append_assoc, HL2.out]
              rw [List.append_nil]
              exact HGa.out
            case measure => simp [intOf]; omega
        · by_cases cf : fr = n
          · skip
            have q1t : (to == n) = false := beq_eq_false_iff_ne.2 ct
            have q0t : (fr == n) = true := by rw [beq_iff_eq]; exact cf
            have hnx := HNX.out
            rw [if_neg ct, if_pos cf] at hnx
            have HNX := Lib.hid hnx
            clear hnx ct cf
            have q0 : WG.cell? ⟨b, off + k * 14, none⟩ = some (.int .i64 fr) := (HG.out.bl.cell (p := ⟨b, off + k * 14, none⟩) HLT.out).trans Q0.out
            have q1 : WG.cell? ⟨b, off + k * 14 + 1, none⟩ = some (.int .i64 to) := (HG.out.bl.cell (p := ⟨b, off + k * 14 + 1, none⟩) HLT.out).trans Q1.out
            have z0 : WG.cell? ⟨b, off + k * 14 + 2 + ne * 3, none⟩ = some (.int .i64 z0v) := (HG.out.bl.cell (p := ⟨b, off + k * 14 + 2 + ne * 3, none⟩) HLT.out).trans Z0.out
            have z1 : WG.cell? ⟨b, off + k * 14 + 2 + ne * 3 + 1, none⟩ = some (.int .i64 z1v) := (HG.out.bl.cell (p := ⟨b, off + k * 14 + 2 + ne * 3 + 1, none⟩) HLT.out).trans Z1.out
            have z2 : WG.cell? ⟨b, off + k * 14 + 2 + ne * 3 + 2, none⟩ = some (.int .u32 z2v) := (HG.out.bl.cell (p := ⟨b, off + k * 14 + 2 + ne * 3 + 2, none⟩) HLT.out).trans Z2.out
            go_wp2_with (first | (refine at_dst 76 rfl ?_; go_must (have hbx := side_box WG ⟨z0v, z1v, z2v, bY, 0, fr⟩; unfold CT.Side.arr at hbx; dsimp only at hbx; have hg5 := HG.out.turn hbx.1; have ho5 := hg5.own; rw [LHG.out] at ho5; (refine GR.wpList_app_one rfl Side.len Side.one (by decide) (T := 79) (e := 45) (bytes := 48) (by kernel_rfl) info45 rfl w0.heap.size _ _ rfl _ NG _ rfl ho5 WG.heap.size 1 _ rfl hbx.2 (by have := HLF.out; omega) (by decide) hg5.bl.size ?_); intro ub Wb h1 h2 h3; have HGb := Lib.hid (hg5.app LHG.out h1 h2); clear h1 h2 h3 hg5 ho5 hbx q0 q1 z0 z1 z2)))
            go_roundw
            case rel =>
              refine ⟨k + 1, by omega, by go_num, Lib.hid ?_⟩
              rw [HNX.out, ← List.append_assoc, HL2.out]
              rw [List.nil_append]
              exact HGb.out
            case measure => simp [intOf]; omega
          · skip
            have q1t : (to == n) = false := beq_eq_false_iff_ne.2 ct
            have q0t : (fr == n) = false := beq_eq_false_iff_ne.2 cf
            have hnx := HNX.out
            rw [if_neg ct, if_neg cf] at hnx
            have HNX := Lib.hid hnx
            clear hnx ct cf
            have q0 : WG.cell? ⟨b, off + k * 14, none⟩ = some (.int .i64 fr) := (HG.out.bl.cell (p := ⟨b, off + k * 14, none⟩) HLT.out).trans Q0.out
            have q1 : WG.cell? ⟨b, off + k * 14 + 1, none⟩ = some (.int .i64 to) := (HG.out.bl.cell (p := ⟨b, off + k * 14 + 1, none⟩) HLT.out).trans Q1.out
            go_wp2_with (fail)
            go_roundw
            case rel =>
              refine ⟨k + 1, by omega, by go_num, Lib.hid ?_⟩
              rw [HNX.out, ← List.append_assoc, HL2.out]
              rw [List.nil_append, List.append_nil]
              exact HG.out
            case measure => simp [intOf]; omega
      · obtain rfl : k = n1 := by omega
        have ti : decide ((k : Int) < (k : Int)) = false := decide_eq_false (by omega)
        rw [← HN.out, endsTo_all] at HG
        go_wp2_with (fail)
        go_ret
        exact ⟨_, rfl, HG.out⟩
end Go.Proofs.Ytmlcjiabnmdfeaa
