/- Contract of grid.Slots, of few rows and columns. -/
import Derived.Test.YtmlcjiabnmdfeaaFD
import Derived.Test.YtmlcjiabnmdfeaaOX
import Derived.Test.YtmlcjiabnmdfeaaB
import Derived.Deep.OwnRows
namespace Go.Proofs.Ytmlcjiabnmdfeaa
open Go Go.RowKit Go.Shelf CT
set_option linter.unusedVariables false
attribute [local go_sem] Oper.semAt_some


/-- the frame in a round over the slots -/
inductive A2 (w : World) (N0 B : Nat) (x : Nat × Nat) : Act → World → Prop
  | mk {W : World} (Bs : Nat) (f0 f1 f2 f3 f4 f5 f9 f11 f13 f14 f15 f16 f17 f18 f19 f20 f21 f22 f23 f24 f25 f26 f27 f28 f29 f30 f31 f32 f33 f34 f35 f36 f37 f38 f39 f40 f41 f42 f43 f44 f45 f46 f47 f48 f49 f50 f51 f52 f53 f54 f55 f56 f57 f58 f59 f60 f61 f62 f63 f64 f65 f66 f67 f68 f69 f70 f71 f72 f73 f74 f75 f76 f77 f78 f79 f80 f81 f82 f83 f84 f85 f86 f87 f88 f89 f90 f91 f92 f93 f94 f95 f96 f97 f98 f99 f100 f101 f102 f103 f104 f105 f106 f107 f108 f109 f110 f111 f112 f113 f114 f115 f116 : Value) (h1 : Hid (B ≤ Bs)) (h2 : Hid (W.heap[Bs]? = some (.cells #[.int .i64 x.1, .int .i64 x.2] 95 (0, 0)))) : A2 w N0 B x { tmps := #[f0, f1, f2, f3, f4, f5, .pointer (some ⟨w.heap.size, 0, none⟩), .pointer (some ⟨w.heap.size + 1, 0, none⟩), .pointer (some ⟨w.heap.size + 1 + 1 + 1 + 1 + 1, 0, none⟩), f9, .pointer (some ⟨N0, 0, none⟩), f11, .pointer (some ⟨Bs, 0, none⟩), f13, f14, f15, f16, f17, f18, f19, f20, f21, f22, f23, f24, f25, f26, f27, f28, f29, f30, f31, f32, f33, f34, f35, f36, f37, f38, f39, f40, f41, f42, f43, f44, f45, f46, f47, f48, f49, f50, f51, f52, f53, f54, f55, f56, f57, f58, f59, f60, f61, f62, f63, f64, f65, f66, f67, f68, f69, f70, f71, f72, f73, f74, f75, f76, f77, f78, f79, f80, f81, f82, f83, f84, f85, f86, f87, f88, f89, f90, f91, f92, f93, f94, f95, f96, f97, f98, f99, f100, f101, f102, f103, f104, f105, f106, f107, f108, f109, f110, f111, f112, f113, f114, f115, f116], defers := [] } W

/-- the loop over the places -/
inductive L3 (ps : List Place) (A : Option Addr) (cp R C : Nat) (w : World) : Act → World → Prop
  | mk {W : World} (k : Nat) (Ds : List Nat) (f3 f4 f5 f9 f10 f11 f12 f13 f14 f15 f16 f17 f18 f19 f20 f21 f22 f23 f24 f25 f26 f27 f28 f29 f30 f31 f32 f33 f34 f35 f36 f37 f38 f39 f40 f41 f42 f43 f44 f45 f46 f47 f48 f49 f53 f54 f55 f56 f57 f58 f59 f60 f61 f62 f63 f64 f65 f66 f67 f68 f69 f70 f71 f72 f73 f74 f75 f76 f77 f78 f79 f80 f81 f82 f83 f84 f85 f86 f87 f88 f89 f90 f91 f92 f93 f94 f95 f96 f97 f98 f99 f100 f101 f102 f103 f104 f105 f106 f107 f108 f109 f110 f111 f112 f113 f114 f115 f116 : Value) (hk : Hid (k ≤ ps.length)) (hS : Hid (∃ vs, SlW w W w.heap.size R vs (fun _ => C) (whoTo ps k))) (ho : Hid (∀ j, j < k → okP ps R C j = true)) (hM : Hid (Marks W (w.heap.size + 6) Ds)) :
    L3 ps A cp R C w { tmps := #[.slice A ps.length cp, .int .i64 R, .int .i64 C, f3, f4, f5, .pointer (some ⟨w.heap.size, 0, none⟩), .pointer (some ⟨w.heap.size + 1, 0, none⟩), .pointer (some ⟨w.heap.size + 1 + 1 + 1 + 1 + 1, 0, none⟩), f9, f10, f11, f12, f13, f14, f15, f16, f17, f18, f19, f20, f21, f22, f23, f24, f25, f26, f27, f28, f29, f30, f31, f32, f33, f34, f35, f36, f37, f38, f39, f40, f41, f42, f43, f44, f45, f46, f47, f48, f49, .slice A ps.length cp, .int .i64 ps.length, .int .i64 k, f53, f54, f55, f56, f57, f58, f59, f60, f61, f62, f63, f64, f65, f66, f67, f68, f69, f70, f71, f72, f73, f74, f75, f76, f77, f78, f79, f80, f81, f82, f83, f84, f85, f86, f87, f88, f89, f90, f91, f92, f93, f94, f95, f96, f97, f98, f99, f100, f101, f102, f103, f104, f105, f106, f107, f108, f109, f110, f111, f112, f113, f114, f115, f116], defers := Ds.map coll } W

set_option maxRecDepth 100000 in
set_option maxHeartbeats 8000000 in
theorem c25 (A : Option Addr) (ps : List Place) (cp : Nat) (R C : Nat) (w : World) (hx : GR.Many Place.cells 5 w A ps) (hl : ps.length ≤ 10) (hR : R ≤ 8) (hC : C ≤ 8) :
    Calls Try.prog 25 #[.slice A ps.length cp, .int .i64 R, .int .i64 C] w (SlotsSaid ps R C w) := by
  have Hx := Lib.hid hx
  clear hx
  have hmk := fun W => run_make_row' (P := Try.prog) 63 90 (.slice none 0 0) 24 Try.underlying63 info90 rfl .i64 .i64 R (by omega) (by omega) W
  have hRC : R * C ≤ 8 * 8 := Nat.mul_le_mul hR hC
  have f0 : IntKind.i64.wrap ((R : Int) * (C : Int)) = ((R * C : Nat) : Int) := by rw [IntWalk.i64_in _ (by rw [← Int.natCast_mul]; omega), Int.natCast_mul]
  have d1 : decide (0 ≤ (R : Int) ∧ (R : Int) ≤ 65536) = true := decide_eq_true (by omega)
  have d2 : decide (0 ≤ (C : Int) ∧ (C : Int) ≤ 10000) = true := decide_eq_true (by omega)
  refine (callsIn_wide (n := 3)).1 ?_
  refine callsIn_of_wp_marks Try.func25 rfl trivial ?_ rfl
  simp only [Try.ntmps25, List.size_toArray, List.length_cons, List.length_nil, Nat.reduceAdd, Nat.reduceSub, Array.replicate_succ, Array.replicate_zero, List.push_toArray, List.append_toArray, List.nil_append, List.cons_append]
  gi_wp2_with (refine ⟨trivial, ?_⟩; gi_at_call 39; refine (callsIn_wide.2 (c39 _ _ _ _ _ (new_cell (by simp)))).mono ?_; rintro e w' ⟨rfl, rfl⟩)
  have HA := Lib.hid (slw_made (w := w) rfl (R := R) C)
  clear d1 d2
  gi_loopw [33] (fun a wr => ∃ i : Nat, i ≤ R ∧ a = .int .i64 i ∧ Hid (∃ vs, SlW w wr w.heap.size R vs (fun r => if r < i then C else 0) (fun _ _ => -1))) (fun a _ => R - (intOf a).toNat)
  case atStart => exact ⟨0, Nat.zero_le _, rfl, Lib.hid ⟨_, by simpa using HA.out⟩⟩
  case round =>
    obtain ⟨i, hi, rfl, HV⟩ := hrel
    by_cases hiR : i < R
    · have ti : decide ((i : Int) < (R : Int)) = true := decide_eq_true (by omega)
      gi_wp2_with (fail)
      clear ti
      gi_loopw [37] (fun a wr => ∃ k : Nat, k ≤ C ∧ a = .int .i64 k ∧ Hid (∃ vs, SlW w wr w.heap.size R vs (fun r => if r < i then C else if r = i then k else 0) (fun _ _ => -1))) (fun a _ => C - (intOf a).toNat)
      case atStart => exact ⟨0, Nat.zero_le _, rfl, Lib.hid (by obtain ⟨vs, h⟩ := HV.out; exact ⟨vs, by simpa using h⟩)⟩
      case round =>
        obtain ⟨k, hk, rfl, HU⟩ := hrel
        by_cases hkC : k < C
        · have tk : decide ((k : Int) < (C : Int)) = true := decide_eq_true (by omega)
          obtain ⟨vs, hS⟩ := HU.out
          have HS := Lib.hid hS
          clear hS HU
          gi_wp2_with (fail)
          obtain ⟨I, hI0⟩ : ∃ I : OrdX.Off, I.row = (vs i).ownBlock := ⟨⟨_⟩, rfl⟩
          have hI := Lib.hid hI0
          have H5n : Hid (some (w.heap.size + 5) ≠ OrdX.Off.row) := fun e => by rw [hI0] at e; have := HS.out.nb i hiR _ e.symm; omega
          have H4n : Hid (some (w.heap.size + 4) ≠ OrdX.Off.row) := fun e => by rw [hI0] at e; have := HS.out.nb i hiR _ e.symm; omega
          clear hI0
          refine OrdX.wpIn_region_ordN_wide 9 [(0, true), (1, true), (2, true), (3, true), (4, true), (5, true), (6, false), (7, false), (8, true), (9, false)] (by kernel_rfl) (by kernel_rfl) ?_
          intro Wc hWc
          apply OrdX.OrdAt.op OrdX.on_put rfl rfl rfl
          · intro X hB
            have s : X.cell? ⟨w.heap.size + 1 + 1 + 1 + 1 + 1, 0, none⟩ = some (.slice (some ⟨w.heap.size + 1 + 1 + 1 + 1, 0, none⟩) R R) := OrdX.rd (hWc.g.tr hB) H5n.out (HS.out.b5.cell)
            go_simp
            try rfl
          · dsimp only [List.set_cons_zero, List.set_cons_succ]
          apply OrdX.OrdAt.op OrdX.on_put rfl rfl rfl
          · intro X hB
            go_simp
            try rfl
          · dsimp only [List.set_cons_zero, List.set_cons_succ]
          apply OrdX.OrdAt.op OrdX.on_put rfl rfl rfl
          · intro X hB
            have s : X.cell? ⟨w.heap.size + 1 + 1 + 1 + 1 + 1, 0, none⟩ = some (.slice (some ⟨w.heap.size + 1 + 1 + 1 + 1, 0, none⟩) R R) := OrdX.rd (hWc.g.tr hB) H5n.out (HS.out.b5.cell)
            go_simp
            try rfl
          · dsimp only [List.set_cons_zero, List.set_cons_succ]
          apply OrdX.OrdAt.op OrdX.on_put rfl rfl rfl
          · intro X hB
            go_simp
            try rfl
          · dsimp only [List.set_cons_zero, List.set_cons_succ]
          apply OrdX.OrdAt.op OrdX.on_put rfl rfl rfl
          · intro X hB
            have ti : decide ((i : Int) < (R : Int)) = true := decide_eq_true (by omega)
            go_simp
            try rfl
          · dsimp only [List.set_cons_zero, List.set_cons_succ]
          apply OrdX.OrdAt.op OrdX.on_put rfl rfl rfl
          · intro X hB
            have s : X.cell? ⟨w.heap.size + 1 + 1 + 1 + 1, i, none⟩ = some (vs i) := OrdX.rd (hWc.g.tr hB) H4n.out (HS.out.tab.cell hiR).1
            go_simp
            try rfl
          · dsimp only [List.set_cons_zero, List.set_cons_succ]
          refine OrdX.OrdAt.seq rfl rfl ?_
          intro X hB
          go_wp2_with (fail)
          refine ⟨.inr (World.grownBy_alloc X _ _), ?_⟩
          have HS6 := Lib.hid (((HS.out.turn hWc).turn hB).turn ((Below.refl _ X).alloc (Nat.le_refl _) (.cells #[.int .i64 (-1)] 3)))
          have HM := Lib.hid ((Boxed.new X 3 (.int .i64 (-1))))
          clear hB
          generalize X.alloc (.cells #[.int .i64 (-1)] 3) = X2 at *
          generalize X.heap.size = M at *
          refine OrdX.OrdAt.seq rfl rfl ?_
          intro X hB
          refine wp_app_int w.heap.size _ _ rfl (vs i) k _ rfl (by have h := (HS6.out.turn hB).tab.row i hiR; rw [show (if i < i then C else if i = i then k else 0) = k from by rw [if_neg (Nat.lt_irrefl i), if_pos rfl]] at h; exact h) M (-1) rfl (Boxed.cell (show Boxed X M 3 _ from (hB.block M HM.out.lt).trans HM.out)) (by omega) (by have := (HS6.out.turn hB).size; omega) ?_
          intro v' W' hown hgr hob
          obtain ⟨bv, cv, rfl⟩ : ∃ b c, v' = .slice (some ⟨b, 0, none⟩) (k + 1) c := own_some hown (Nat.succ_ne_zero k)
          refine ⟨.inr (by rw [show OrdX.Gxt X W' = X.grownBy W' (OrdX.Off.row) from rfl, hI.out]; exact hgr), ?_⟩
          have HSX := Lib.hid (HS6.out.turn hB)
          have Hown := Lib.hid hown
          have Hgr := Lib.hid hgr
          have Hob := Lib.hid hob
          have HLX := Lib.hid hB.size
          clear hB hown hgr hob HS6 HM
          generalize X = XA at *
          simp only [Act.put, List.setIfInBounds_toArray, List.set_cons_zero, List.set_cons_succ]
          apply OrdX.OrdAt.op OrdX.on_put rfl rfl rfl
          · intro X hB
            have ti : decide ((i : Int) < (R : Int)) = true := decide_eq_true (by omega)
            go_simp
            try rfl
          · dsimp only [List.set_cons_zero, List.set_cons_succ]
          refine OrdX.OrdAt.seq rfl rfl ?_
          intro X hB
          have hg9 := grown_ext Hgr.out hB
          obtain ⟨s, fz⟩ := HSX.out.cell4 hiR hg9
          have HG := Lib.hid (HSX.out.grow hiR (W1 := X) (x := -1) (by have h := GR.own_turn Hown.out hB; rw [show (if i < i then C else if i = i then k else 0) = k from by rw [if_neg (Nat.lt_irrefl i), if_pos rfl]]; exact h) hg9 Hob.out)
          clear hg9
          go_wp2_with (fail)
          refine ⟨.inl (by decide), OrdX.OrdAt.done ?_⟩
          intro W9 hW9
          have HG9 := Lib.hid (HG.out.turn hW9)
          clear hW9 hB HG Hown Hgr Hob HSX s fz hWc HS HLX

          refine OrdX.on_normal ?_
          rw [upd_const, if_neg (Nat.lt_irrefl i), if_pos trivial, upd_step] at HG9
          have tk := trivial
          gi_wp2_with (fail)
          go_roundw
          case rel => exact ⟨k + 1, by omega, by simp, Lib.hid ⟨_, HG9.out⟩⟩
          case measure => simp [intOf]; omega
        · obtain rfl : k = C := by omega
          have tk : decide ((k : Int) < (k : Int)) = false := decide_eq_false (by omega)
          have HU2 : Hid (∃ vs, SlW w wr w.heap.size R vs (fun r => if r < i + 1 then k else 0) (fun _ _ => -1)) := by obtain ⟨vs, h⟩ := HU.out; rw [upd_full] at h; exact ⟨vs, h⟩
          clear HU
          gi_wp2_with (fail)
          go_roundw
          case rel => exact ⟨i + 1, by omega, by simp, HU2⟩
          case measure => simp [intOf]; omega
    · obtain rfl : R = i := by omega
      have ti : decide ((R : Int) < (R : Int)) = false := decide_eq_false (by omega)
      obtain ⟨vs, hS⟩ := HV.out
      have HS := Lib.hid ((hS.congr_n (n' := fun _ => C) fun r hr => by rw [if_pos hr]).start ps)
      clear hS HV HA
      gi_wp2_with (fail)
      refine wpIn_loop (L3 ps A cp R C w) (fun a _ => ps.length - (intOf (a.tmps.getD 52 undef)).toNat) ?start3 ?round3
      case start3 => exact L3.mk 0 [] _ _ _ _ _ _ _ _ _ _ _ _ _ _ _ _ _ _ _ _ _ _ _ _ _ _ _ _ _ _ _ _ _ _ _ _ _ _ _ _ _ _ _ _ _ _ _ _ _ _ _ _ _ _ _ _ _ _ _ _ _ _ _ _ _ _ _ _ _ _ _ _ _ _ _ _ _ _ _ _ _ _ _ _ _ _ _ _ _ _ _ _ _ _ _ _ _ _ _ _ _ _ _ _ _ _ _ _ (Lib.hid (Nat.zero_le _)) (Lib.hid ⟨_, HS.out⟩) (Lib.hid fun j hj => absurd hj (Nat.not_lt_zero j)) (Lib.hid (Marks.nil _ _))
      case round3 =>
        rintro a wr ⟨k, Ds, f3, f4, f5, f9, f10, f11, f12, f13, f14, f15, f16, f17, f18, f19, f20, f21, f22, f23, f24, f25, f26, f27, f28, f29, f30, f31, f32, f33, f34, f35, f36, f37, f38, f39, f40, f41, f42, f43, f44, f45, f46, f47, f48, f49, f53, f54, f55, f56, f57, f58, f59, f60, f61, f62, f63, f64, f65, f66, f67, f68, f69, f70, f71, f72, f73, f74, f75, f76, f77, f78, f79, f80, f81, f82, f83, f84, f85, f86, f87, f88, f89, f90, f91, f92, f93, f94, f95, f96, f97, f98, f99, f100, f101, f102, f103, f104, f105, f106, f107, f108, f109, f110, f111, f112, f113, f114, f115, f116, hk, hS, ho, hM⟩
        by_cases hlt : k < ps.length
        · obtain ⟨vs, hS0⟩ := hS.out
          obtain ⟨x, b, off, hxk, rfl, hat, _⟩ := (Hx.out.below hS0.bl).get k hlt
          have HS := Lib.hid hS0
          obtain ⟨node, row, col, rows, cols⟩ := x
          have ti : decide ((k : Int) < (ps.length : Int)) = true := decide_eq_true (by omega)
          have q0 : wr.cell? ⟨b, off + k * 5, none⟩ = some (.int .i64 node) := hat 0 _ rfl
          have q1 : wr.cell? ⟨b, off + k * 5 + 1, none⟩ = some (.int .i64 row) := hat 1 _ rfl
          have q2 : wr.cell? ⟨b, off + k * 5 + 2, none⟩ = some (.int .i64 col) := hat 2 _ rfl
          have q3 : wr.cell? ⟨b, off + k * 5 + 3, none⟩ = some (.int .i64 rows) := hat 3 _ rfl
          have q4 : wr.cell? ⟨b, off + k * 5 + 4, none⟩ = some (.int .i64 cols) := hat 4 _ rfl
          clear hat hS0 hS
          gi_wp2_with (fail)
          obtain ⟨b0, hb0⟩ : ∃ b, decide ((0 : Int) ≤ row ∧ row ≤ (R : Int)) = b := ⟨_, rfl⟩
          have E0 := Lib.hid hb0
          clear hb0
          refine ⟨trivial, (callsIn_wide.2 (c39b b0 _ _ _ _ _ (new_cell (by simp)) E0.out)).mono ?_⟩
          rintro e w3 ⟨rfl, hw⟩
          obtain ⟨hbl, hbk, hpl, -⟩ := place_laid wr (.int .i64 k) ⟨node, row, col, rows, cols⟩ (.int .i64 row)
          have hw2 : ((wr.alloc (.cells #[.int .i64 k] 3)).alloc (.cells (Place.arr ⟨node, row, col, rows, cols⟩) 43)).alloc (.cells #[.int .i64 row] 3) = w3 := hw
          rw [hw2] at hbl hbk hpl
          have HS3 := Lib.hid (HS.out.turn hbl)
          have HM3 := Lib.hid (hM.out.turn hbl)
          have HB3 := Lib.hid hbk
          have HP3 := Lib.hid hpl
          have hN : Hid (w.heap.size + 6 ≤ wr.heap.size) := Lib.hid HS.out.size
          have HSo := HS
          clear hw hw2 q0 q1 q2 q3 q4 HS hM hbl hbk hpl ti
          have HVN : Hid (∀ r, r < R → ∀ b, (vs r).ownBlock = some b → b < wr.heap.size) := Lib.hid fun r hr b hb => (GR.own_block (HSo.out.tab.row r hr) hb).2
          clear HSo
          generalize wr.heap.size = N0 at *
          have p0 : w3.cell? ⟨N0 + 1, 0, none⟩ = some (.int .i64 node) := HP3.out.at0 0 _ rfl
          have p1 : w3.cell? ⟨N0 + 1, 1, none⟩ = some (.int .i64 row) := HP3.out.at0 1 _ rfl
          have p2 : w3.cell? ⟨N0 + 1, 2, none⟩ = some (.int .i64 col) := HP3.out.at0 2 _ rfl
          have p3 : w3.cell? ⟨N0 + 1, 3, none⟩ = some (.int .i64 rows) := HP3.out.at0 3 _ rfl
          have p4 : w3.cell? ⟨N0 + 1, 4, none⟩ = some (.int .i64 cols) := HP3.out.at0 4 _ rfl
          cases b0 with
          | false =>
            have z0 := HS3.out.b0.cell
            have z1 := HS3.out.b1.cell
            have z2 := HS3.out.b0.frozen
            have z3 := HS3.out.b1.frozen
            gi_wp2_with (fail)
            refine ⟨trivial, ?_⟩
            gi_wp2_with (fail)
            refine ⟨trivial, ?_⟩
            gi_wp2_with (fail)
            refine ⟨trivial, ?_⟩
            gi_wp2_with (fail)
            exact slots_fail (H0 := w.heap.size) HS3.out HM3.out rfl (okS_no hlt (okP_nofit (R := R) (C := C) (by rw [hxk.out]; unfold fitP; exact decide_eq_false fun h => by have h2 := of_decide_eq_false E0.out; dsimp only at h; omega))) (by rfl) (by rfl)
          | true =>
            gi_wp2_with (fail)
            obtain ⟨b1, hb1⟩ : ∃ b, decide ((0 : Int) ≤ col ∧ col ≤ (C : Int)) = b := ⟨_, rfl⟩
            have E1 := Lib.hid hb1
            clear hb1
            refine ⟨trivial, (callsIn_wide.2 (c39b b1 _ _ _ _ _ (new_cell (by simp)) E1.out)).mono ?_⟩
            rintro e w4 ⟨rfl, hw⟩
            have hbb : Below w3.heap.size w3 w4 := by rw [← hw]; exact (Below.refl _ _).alloc (Nat.le_refl _) _
            have HS4 := Lib.hid (HS3.out.turn hbb)
            have HM4 := Lib.hid (HM3.out.turn hbb)
            have HB4 : Hid (Boxed w4 N0 3 (.int .i64 k)) := Lib.hid ((hbb.block _ (Boxed.lt HB3.out)).trans HB3.out)
            have HP4 := Lib.hid (HP3.out.turn hbb)
            clear hw hbb p0 p1 p2 p3 p4 HS3 HM3 HB3 HP3
            have p0 : w4.cell? ⟨N0 + 1, 0, none⟩ = some (.int .i64 node) := HP4.out.at0 0 _ rfl
            have p1 : w4.cell? ⟨N0 + 1, 1, none⟩ = some (.int .i64 row) := HP4.out.at0 1 _ rfl
            have p2 : w4.cell? ⟨N0 + 1, 2, none⟩ = some (.int .i64 col) := HP4.out.at0 2 _ rfl
            have p3 : w4.cell? ⟨N0 + 1, 3, none⟩ = some (.int .i64 rows) := HP4.out.at0 3 _ rfl
            have p4 : w4.cell? ⟨N0 + 1, 4, none⟩ = some (.int .i64 cols) := HP4.out.at0 4 _ rfl
            cases b1 with
            | false =>
              have z0 := HS4.out.b0.cell
              have z1 := HS4.out.b1.cell
              have z2 := HS4.out.b0.frozen
              have z3 := HS4.out.b1.frozen
              gi_wp2_with (fail)
              refine ⟨trivial, ?_⟩
              gi_wp2_with (fail)
              refine ⟨trivial, ?_⟩
              gi_wp2_with (fail)
              exact slots_fail (H0 := w.heap.size) HS4.out HM4.out rfl (okS_no hlt (okP_nofit (R := R) (C := C) (by rw [hxk.out]; unfold fitP; exact decide_eq_false fun h => by have h2 := of_decide_eq_false E1.out; dsimp only at h; omega))) (by rfl) (by rfl)
            | true =>
              have g0 := of_decide_eq_true E0.out
              have g1 := of_decide_eq_true E1.out
              have g3 : IntKind.i64.wrap ((R : Int) - row) = (R : Int) - row := IntWalk.i64_in _ (by omega)
              have g4 : IntKind.i64.wrap ((C : Int) - col) = (C : Int) - col := IntWalk.i64_in _ (by omega)
              clear g0 g1
              gi_wp2_with (fail)
              obtain ⟨b2, hb2⟩ : ∃ b, decide ((1 : Int) ≤ rows ∧ rows ≤ ((R : Int) - row)) = b := ⟨_, rfl⟩
              have E2 := Lib.hid hb2
              clear hb2
              refine ⟨trivial, (callsIn_wide.2 (c39b b2 _ _ _ _ _ (new_cell (by simp)) E2.out)).mono ?_⟩
              rintro e w5 ⟨rfl, hw⟩
              have hbb : Below w4.heap.size w4 w5 := by rw [← hw]; exact (Below.refl _ _).alloc (Nat.le_refl _) _
              have HS5 := Lib.hid (HS4.out.turn hbb)
              have HM5 := Lib.hid (HM4.out.turn hbb)
              have HB5 : Hid (Boxed w5 N0 3 (.int .i64 k)) := Lib.hid ((hbb.block _ (Boxed.lt HB4.out)).trans HB4.out)
              have HP5 := Lib.hid (HP4.out.turn hbb)
              clear hw hbb p0 p1 p2 p3 p4 HS4 HM4 HB4 HP4
              have p0 : w5.cell? ⟨N0 + 1, 0, none⟩ = some (.int .i64 node) := HP5.out.at0 0 _ rfl
              have p1 : w5.cell? ⟨N0 + 1, 1, none⟩ = some (.int .i64 row) := HP5.out.at0 1 _ rfl
              have p2 : w5.cell? ⟨N0 + 1, 2, none⟩ = some (.int .i64 col) := HP5.out.at0 2 _ rfl
              have p3 : w5.cell? ⟨N0 + 1, 3, none⟩ = some (.int .i64 rows) := HP5.out.at0 3 _ rfl
              have p4 : w5.cell? ⟨N0 + 1, 4, none⟩ = some (.int .i64 cols) := HP5.out.at0 4 _ rfl
              cases b2 with
              | false =>
                have z0 := HS5.out.b0.cell
                have z1 := HS5.out.b1.cell
                have z2 := HS5.out.b0.frozen
                have z3 := HS5.out.b1.frozen
                gi_wp2_with (fail)
                refine ⟨trivial, ?_⟩
                gi_wp2_with (fail)
                exact slots_fail (H0 := w.heap.size) HS5.out HM5.out rfl (okS_no hlt (okP_nofit (R := R) (C := C) (by rw [hxk.out]; unfold fitP; exact decide_eq_false fun h => by have h2 := of_decide_eq_false E2.out; dsimp only at h; omega))) (by rfl) (by rfl)
              | true =>
                gi_wp2_with (fail)
                obtain ⟨b3, hb3⟩ : ∃ b, decide ((1 : Int) ≤ cols ∧ cols ≤ ((C : Int) - col)) = b := ⟨_, rfl⟩
                have E3 := Lib.hid hb3
                clear hb3
                refine ⟨trivial, (callsIn_wide.2 (c39b b3 _ _ _ _ _ (new_cell (by simp)) E3.out)).mono ?_⟩
                rintro e w6 ⟨rfl, hw⟩
                have hbb : Below w5.heap.size w5 w6 := by rw [← hw]; exact (Below.refl _ _).alloc (Nat.le_refl _) _
                have HS6 := Lib.hid (HS5.out.turn hbb)
                have HM6 := Lib.hid (HM5.out.turn hbb)
                have HB6 : Hid (Boxed w6 N0 3 (.int .i64 k)) := Lib.hid ((hbb.block _ (Boxed.lt HB5.out)).trans HB5.out)
                have HP6 := Lib.hid (HP5.out.turn hbb)
                clear hw hbb p0 p1 p2 p3 p4 HS5 HM5 HB5 HP5
                have p0 : w6.cell? ⟨N0 + 1, 0, none⟩ = some (.int .i64 node) := HP6.out.at0 0 _ rfl
                have p1 : w6.cell? ⟨N0 + 1, 1, none⟩ = some (.int .i64 row) := HP6.out.at0 1 _ rfl
                have p2 : w6.cell? ⟨N0 + 1, 2, none⟩ = some (.int .i64 col) := HP6.out.at0 2 _ rfl
                have p3 : w6.cell? ⟨N0 + 1, 3, none⟩ = some (.int .i64 rows) := HP6.out.at0 3 _ rfl
                have p4 : w6.cell? ⟨N0 + 1, 4, none⟩ = some (.int .i64 cols) := HP6.out.at0 4 _ rfl
                cases b3 with
                | false =>
                  have z0 := HS6.out.b0.cell
                  have z1 := HS6.out.b1.cell
                  have z2 := HS6.out.b0.frozen
                  have z3 := HS6.out.b1.frozen
                  gi_wp2_with (fail)
                  exact slots_fail (H0 := w.heap.size) HS6.out HM6.out rfl (okS_no hlt (okP_nofit (R := R) (C := C) (by rw [hxk.out]; unfold fitP; exact decide_eq_false fun h => by have h2 := of_decide_eq_false E3.out; dsimp only at h; omega))) (by rfl) (by rfl)
                | true =>
                  clear g3 g4
                  gi_wp2_with (fail)
                  have y0 := of_decide_eq_true E0.out
                  have y1 := of_decide_eq_true E1.out
                  have y2 := of_decide_eq_true E2.out
                  have y3 := of_decide_eq_true E3.out
                  have Hfit : Hid (fitP (ps[k]?.getD default) R C = true) := Lib.hid (by rw [hxk.out]; unfold fitP; exact decide_eq_true ⟨y0, y1, y2, y3⟩)
                  obtain ⟨r0, rfl⟩ := Int.eq_ofNat_of_zero_le y0.1
                  obtain ⟨c0, rfl⟩ := Int.eq_ofNat_of_zero_le y1.1
                  obtain ⟨m, rfl⟩ := Int.eq_ofNat_of_zero_le (show 0 ≤ rows by omega)
                  obtain ⟨q, rfl⟩ := Int.eq_ofNat_of_zero_le (show 0 ≤ cols by omega)
                  have Hmq : Hid (r0 + m ≤ R ∧ c0 + q ≤ C) := Lib.hid (by omega)
                  have HL : Hid (ownTo r0 c0 q m = slotsOf (ps[k]?.getD default)) := Lib.hid (by rw [hxk.out]; unfold slotsOf; simp)
                  clear y0 y1 y2 y3 E0 E1 E2 E3 hxk
                  refine ⟨trivial, (callsIn_wide.2 (c40 ⟨node, r0, c0, m, q⟩ w6)).mono ?_⟩
                  rintro e w7 ⟨rfl, hw⟩
                  have hbb : Below w6.heap.size w6 w7 := by rw [← hw]; exact (Below.refl _ _).alloc (Nat.le_refl _) _
                  have HP : Hid (GR.One Place.cells 43 w7 w6.heap.size ⟨node, r0, c0, m, q⟩) := Lib.hid (by rw [← hw]; exact GR.One.new 43 w6 _)
                  have HI : Hid (BI w w.heap.size R C N0 ps k Ds (ownTo r0 c0 q m) w7.heap.size [] w7) := Lib.hid ⟨⟨vs, _, HS6.out.turn hbb, HVN.out, fun _ => ⟨(markL_nil _ _).symm, fun s hs => by cases hs⟩⟩, HM6.out.turn hbb, (hbb.block _ (Boxed.lt HB6.out)).trans HB6.out, Nat.le_refl _⟩
                  have HDs : Hid (∀ D ∈ Ds, D < w7.heap.size) := Lib.hid fun D hD => Nat.lt_of_lt_of_le (HM6.out.lt hD) hbb.size
                  have HN6 : Hid (N0 < w6.heap.size ∧ w6.heap.size < w7.heap.size ∧ w.heap.size + 6 ≤ w7.heap.size) := Lib.hid ⟨Boxed.lt HB6.out, HP.out.lt, Nat.le_trans HS6.out.size hbb.size⟩
                  clear hw hbb p0 p1 p2 p3 p4 HS6 HM6 HB6 HP6
                  generalize w6.heap.size = Bp at *
                  gi_wp2_with (fail)
                  refine wpIn_rangeFunc_ownH (F := Fence.wide) (n := 3) rfl (by omega) (gf := 60) (lb := #[.pointer (some ⟨Bp, 0, none⟩)]) rfl trivial (enters_of Try.func60 (by kernel_rfl) rfl)
                    (c60_stops 2 (by omega) Bp (fun b => b = Bp) node r0 c0 m q (by have := Hmq.out; omega) rfl (fun s => s.1 < R ∧ s.2 < C) (fun i k hi hk => by have := Hmq.out; dsimp only; omega) w7 HP.out)
                    (fun h k => h.trans k) (Keeps.putObj w7 (fun b hb => by subst hb; exact HP.out.lt)) (Below.refl _ _) (fun _ => rfl)
                    (fun pre W => BI w w.heap.size R C N0 ps k Ds (ownTo r0 c0 q m) w7.heap.size (pre.map Subtype.val) W)
                    (fun c pre W => BX w w.heap.size ps k Ds (ownTo r0 c0 q m) c (pre.map Subtype.val) W)
                    (fun s X Y row hs hg hr => hs.own hg (by have := HN6.out; omega) hr HDs.out) (fun c s X Y row hs hg hr => hs.own hg (by have := HN6.out; omega) hr HDs.out)
                    HI.out
                    (fun x a' W => A2 w N0 w7.heap.size x.1 a' W)
                    ?hAx ?assign ?body ?done2 ?stop
                  case hAx =>
                    rintro x a' _ X Y row ⟨Bs, f0, f1, f2, f3, f4, f5, f9, f11, f13, f14, f15, f16, f17, f18, f19, f20, f21, f22, f23, f24, f25, f26, f27, f28, f29, f30, f31, f32, f33, f34, f35, f36, f37, f38, f39, f40, f41, f42, f43, f44, f45, f46, f47, f48, f49, f50, f51, f52, f53, f54, f55, f56, f57, f58, f59, f60, f61, f62, f63, f64, f65, f66, f67, f68, f69, f70, f71, f72, f73, f74, f75, f76, f77, f78, f79, f80, f81, f82, f83, f84, f85, f86, f87, f88, f89, f90, f91, f92, f93, f94, f95, f96, f97, f98, f99, f100, f101, f102, f103, f104, f105, f106, f107, f108, f109, f110, f111, f112, f113, f114, f115, f116, h1, h2⟩ hg hrow
                    refine ⟨Bs, _, _, _, _, _, _, _, _, _, _, _, _, _, _, _, _, _, _, _, _, _, _, _, _, _, _, _, _, _, _, _, _, _, _, _, _, _, _, _, _, _, _, _, _, _, _, _, _, _, _, _, _, _, _, _, _, _, _, _, _, _, _, _, _, _, _, _, _, _, _, _, _, _, _, _, _, _, _, _, _, _, _, _, _, _, _, _, _, _, _, _, _, _, _, _, _, _, _, _, _, _, _, _, _, _, _, _, _, _, _, _, _, h1, Lib.hid ((hg.block Bs (Array.getElem?_eq_some_iff.1 h2.out).1 (fun e' => ?_)).trans h2.out)⟩
                    obtain ⟨_, o, ho, hc⟩ := hrow Bs e'.symm
                    rw [h2.out] at ho; cases ho; cases hc
                  case assign =>
                    rintro l pre ⟨⟨xr, xc⟩, hx⟩ W K hI hK
                    have HK := Lib.hid hK
                    have HI2 := Lib.hid hI
                    clear hK hI
                    have hb := (Below.refl W.heap.size W).alloc (Nat.le_refl _) (.cells #[.int .i64 xr, .int .i64 xc] 95)
                    have HB2 := Lib.hid hb
                    have HA : Hid ((W.alloc (.cells #[.int .i64 xr, .int .i64 xc] 95)).heap[W.heap.size]? = some (.cells #[.int .i64 xr, .int .i64 xc] 95 (0, 0))) := Lib.hid (heap_alloc_new _ _)
                    clear hb
                    unfold encSl
                    dsimp only
                    gi_wp2
                    refine HK.out _ _ ((keepsOthers_below HB2.out).from _) (keeps_below HB2.out fun b hb => by subst hb; have := HN6.out; have := HI2.out.sz; omega) (HI2.out.turn HB2.out) ⟨_, _, _, _, _, _, _, _, _, _, _, _, _, _, _, _, _, _, _, _, _, _, _, _, _, _, _, _, _, _, _, _, _, _, _, _, _, _, _, _, _, _, _, _, _, _, _, _, _, _, _, _, _, _, _, _, _, _, _, _, _, _, _, _, _, _, _, _, _, _, _, _, _, _, _, _, _, _, _, _, _, _, _, _, _, _, _, _, _, _, _, _, _, _, _, _, _, _, _, _, _, _, _, _, _, _, _, _, _, _, _, _, _, Lib.hid HI2.out.sz, HA⟩
                  case body =>
                    rintro l pre ⟨⟨xr, xc⟩, hxr, hxc⟩ a' W hl' hrr hI ⟨Bs, f0, f1, f2, f3, f4, f5, f9, f11, f13, f14, f15, f16, f17, f18, f19, f20, f21, f22, f23, f24, f25, f26, f27, f28, f29, f30, f31, f32, f33, f34, f35, f36, f37, f38, f39, f40, f41, f42, f43, f44, f45, f46, f47, f48, f49, f50, f51, f52, f53, f54, f55, f56, f57, f58, f59, f60, f61, f62, f63, f64, f65, f66, f67, f68, f69, f70, f71, f72, f73, f74, f75, f76, f77, f78, f79, f80, f81, f82, f83, f84, f85, f86, f87, f88, f89, f90, f91, f92, f93, f94, f95, f96, f97, f98, f99, f100, f101, f102, f103, f104, f105, f106, f107, f108, f109, f110, f111, f112, f113, f114, f115, f116, h1, h2⟩ hlt2
                    obtain ⟨vs7, f7, hS, hvN, hf⟩ := hI.st
                    obtain ⟨b, cap, hv, hb1, hb2, hb3, hc1, hfz⟩ := hS.tab.at_ hxr hxc
                    have HS := Lib.hid hS
                    have Hf := Lib.hid hf
                    have HVN7 := Lib.hid hvN
                    have HM := Lib.hid hI.ms
                    have HBX := Lib.hid hI.bx
                    have HSZ := Lib.hid hI.sz
                    have Hv := Lib.hid hv
                    have F0 : Hid (W.cell? ⟨w.heap.size + 1 + 1 + 1 + 1 + 1, 0, none⟩ = some (.slice (some ⟨w.heap.size + 1 + 1 + 1 + 1, 0, none⟩) R R)) := Lib.hid hS.b5.cell
                    have F2 : Hid (W.cell? ⟨Bs, 0, none⟩ = some (.int .i64 xr)) := Lib.hid (by simp [World.cell?, h2.out])
                    have F6 : Hid (W.cell? ⟨Bs, 1, none⟩ = some (.int .i64 xc)) := Lib.hid (by simp [World.cell?, h2.out])
                    have F4 : Hid (W.cell? ⟨w.heap.size + 1 + 1 + 1 + 1, xr, none⟩ = some (.slice (some ⟨b, 0, none⟩) C cap)) := Lib.hid (by rw [← hv]; exact (hS.tab.cell hxr).1)
                    have F8 := Lib.hid hc1
                    obtain ⟨v7, hv7⟩ : ∃ v, f7 xr xc = v := ⟨_, rfl⟩
                    rw [hv7] at F8
                    have Hv7 := Lib.hid hv7
                    clear hS hf hvN hI hv hb1 hb2 hb3 hc1 hfz hv7 hrr
                    dsimp only at hxr hxc
                    obtain ⟨I, hI0⟩ : ∃ I : OrdX.Off, I.row = none := ⟨⟨_⟩, rfl⟩
                    have HIn : Hid (∀ b : Nat, some b ≠ OrdX.Off.row) := Lib.hid fun b e => by rw [hI0] at e; cases e
                    clear hI0
                    gi_wp2_with (fail)
                    refine OrdX.wpIn_region_ordN 10 [(0, true), (1, true), (2, true), (3, true), (4, true), (5, true), (6, true), (7, true), (8, true), (9, true)] (by kernel_rfl) (by kernel_rfl) ?_
                    intro Wc hWc
                    apply OrdX.OrdAt.op OrdX.on_put rfl rfl rfl
                    · intro X hB
                      have s := OrdX.rd (hWc.g.tr hB) (HIn.out _) F0.out
                      go_simp
                      try rfl
                    · dsimp only [List.set_cons_zero, List.set_cons_succ]
                    apply OrdX.OrdAt.op OrdX.on_put rfl rfl rfl
                    · intro X hB
                      go_simp
                      try rfl
                    · dsimp only [List.set_cons_zero, List.set_cons_succ]
                    apply OrdX.OrdAt.op OrdX.on_put rfl rfl rfl
                    · intro X hB
                      have s := OrdX.rd (hWc.g.tr hB) (HIn.out _) F2.out
                      go_simp
                      try rfl
                    · dsimp only [List.set_cons_zero, List.set_cons_succ]
                    apply OrdX.OrdAt.op OrdX.on_put rfl rfl rfl
                    · intro X hB
                      have ti : decide ((xr : Int) < (R : Int)) = true := decide_eq_true (by omega)
                      go_simp
                      try rfl
                    · dsimp only [List.set_cons_zero, List.set_cons_succ]
                    apply OrdX.OrdAt.op OrdX.on_put rfl rfl rfl
                    · intro X hB
                      have s := OrdX.rd (hWc.g.tr hB) (HIn.out _) F4.out
                      go_simp
                      try rfl
                    · dsimp only [List.set_cons_zero, List.set_cons_succ]
                    apply OrdX.OrdAt.op OrdX.on_put rfl rfl rfl
                    · intro X hB
                      go_simp
                      try rfl
                    · dsimp only [List.set_cons_zero, List.set_cons_succ]
                    apply OrdX.OrdAt.op OrdX.on_put rfl rfl rfl
                    · intro X hB
                      have s := OrdX.rd (hWc.g.tr hB) (HIn.out _) F6.out
                      go_simp
                      try rfl
                    · dsimp only [List.set_cons_zero, List.set_cons_succ]
                    apply OrdX.OrdAt.op OrdX.on_put rfl rfl rfl
                    · intro X hB
                      have ti : decide ((xc : Int) < (C : Int)) = true := decide_eq_true (by omega)
                      go_simp
                      try rfl
                    · dsimp only [List.set_cons_zero, List.set_cons_succ]
                    apply OrdX.OrdAt.op OrdX.on_put rfl rfl rfl
                    · intro X hB
                      have s := OrdX.rd (hWc.g.tr hB) (HIn.out _) F8.out
                      go_simp
                      try rfl
                    · dsimp only [List.set_cons_zero, List.set_cons_succ]
                    apply OrdX.OrdAt.op OrdX.on_put rfl rfl rfl
                    · intro X hB
                      go_simp
                      try rfl
                    · dsimp only [List.set_cons_zero, List.set_cons_succ]
                    refine OrdX.OrdAt.done ?_
                    intro W8 hW8
                    refine OrdX.on_normal ?_
                    have hbw : Below W.heap.size W W8 := hWc.trans (hW8.mono hWc.size)
                    have HBW := Lib.hid hbw
                    have HS8 := Lib.hid (HS.out.turn hbw)
                    have HM8 := Lib.hid (HM.out.turn hbw)
                    have HBX8 : Hid (Boxed W8 N0 3 (.int .i64 k)) := Lib.hid ((hbw.block _ (Boxed.lt HBX.out)).trans HBX.out)
                    have G0 := Lib.hid (OrdX.rd (OrdX.Ext.g hbw) (HIn.out _) F0.out)
                    have G2 := Lib.hid (OrdX.rd (OrdX.Ext.g hbw) (HIn.out _) F2.out)
                    have G4 := Lib.hid (OrdX.rd (OrdX.Ext.g hbw) (HIn.out _) F4.out)
                    have G6 := Lib.hid (OrdX.rd (OrdX.Ext.g hbw) (HIn.out _) F6.out)
                    have G8 := Lib.hid (OrdX.rd (OrdX.Ext.g hbw) (HIn.out _) F8.out)
                    clear hbw hWc hW8 F0 F2 F4 F6 F8 HS HM HBX
                    by_cases hn : v7 < 0
                    · have t1 : decide (0 ≤ v7) = false := decide_eq_false (by omega)
                      gi_wp2_with (fail)
                      refine OrdX.wpIn_region_ordN 9 [(0, true), (1, true), (2, true), (3, true), (4, true), (5, true), (6, true), (7, true), (8, true), (9, false)] (by kernel_rfl) (by kernel_rfl) ?_
                      intro Wc hWc
                      apply OrdX.OrdAt.op OrdX.on_put rfl rfl rfl
                      · intro X hB
                        have s := OrdX.rd (hWc.g.tr hB) (HIn.out _) G0.out
                        go_simp
                        try rfl
                      · dsimp only [List.set_cons_zero, List.set_cons_succ]
                      apply OrdX.OrdAt.op OrdX.on_put rfl rfl rfl
                      · intro X hB
                        go_simp
                        try rfl
                      · dsimp only [List.set_cons_zero, List.set_cons_succ]
                      apply OrdX.OrdAt.op OrdX.on_put rfl rfl rfl
                      · intro X hB
                        have s := OrdX.rd (hWc.g.tr hB) (HIn.out _) G2.out
                        go_simp
                        try rfl
                      · dsimp only [List.set_cons_zero, List.set_cons_succ]
                      apply OrdX.OrdAt.op OrdX.on_put rfl rfl rfl
                      · intro X hB
                        have ti : decide ((xr : Int) < (R : Int)) = true := decide_eq_true (by omega)
                        go_simp
                        try rfl
                      · dsimp only [List.set_cons_zero, List.set_cons_succ]
                      apply OrdX.OrdAt.op OrdX.on_put rfl rfl rfl
                      · intro X hB
                        have s := OrdX.rd (hWc.g.tr hB) (HIn.out _) G4.out
                        go_simp
                        try rfl
                      · dsimp only [List.set_cons_zero, List.set_cons_succ]
                      apply OrdX.OrdAt.op OrdX.on_put rfl rfl rfl
                      · intro X hB
                        go_simp
                        try rfl
                      · dsimp only [List.set_cons_zero, List.set_cons_succ]
                      apply OrdX.OrdAt.op OrdX.on_put rfl rfl rfl
                      · intro X hB
                        have s := OrdX.rd (hWc.g.tr hB) (HIn.out _) G6.out
                        go_simp
                        try rfl
                      · dsimp only [List.set_cons_zero, List.set_cons_succ]
                      apply OrdX.OrdAt.op OrdX.on_put rfl rfl rfl
                      · intro X hB
                        have s := OrdX.rd (hWc.g.tr hB) (HIn.out _) (Boxed.cell HBX8.out)
                        go_simp
                        try rfl
                      · dsimp only [List.set_cons_zero, List.set_cons_succ]
                      apply OrdX.OrdAt.op OrdX.on_put rfl rfl rfl
                      · intro X hB
                        have ti : decide ((xc : Int) < (C : Int)) = true := decide_eq_true (by omega)
                        go_simp
                        try rfl
                      · dsimp only [List.set_cons_zero, List.set_cons_succ]
                      refine OrdX.OrdAt.seq rfl rfl ?_
                      intro X hB
                      have hbx : Below W8.heap.size W8 X := hWc.trans (hB.mono hWc.size)
                      have s := OrdX.rd (OrdX.Ext.g hbx) (HIn.out _) G8.out
                      have fz : X.frozen? ⟨b, xc, none⟩ = false := by
                        have h := (HS8.out.turn hbx).tab.at_ hxr hxc
                        obtain ⟨b', cap', e1, _, _, _, _, e2⟩ := h
                        rw [Hv.out] at e1
                        cases e1
                        exact e2
                      go_wp2_with (fail)
                      refine ⟨.inl (by decide), OrdX.OrdAt.done ?_⟩
                      intro W9 hW9
                      refine OrdX.on_normal ?_
                      have hbX : Below W.heap.size W X := HBW.out.trans (hbx.mono HBW.out.size)
                      have hbn : b < N0 := HVN7.out xr hxr b (by rw [Hv.out]; rfl)
                      have hN6 := HN6.out
                      have hsz := HSZ.out
                      refine ⟨(((keepsOthers_below hbX).from _).trans ((KeepsOthers.setCell _ _ _).from _)).trans ((keepsOthers_below hW9).from _), ((keeps_below hbX fun b' hb' => by subst hb'; omega).setCell (p := ⟨b, xc, none⟩) (fun e => by dsimp only at e; omega) _).trans (keeps_below hW9 fun b' hb' => by subst hb'; have := hbX.size; simp [World.setCell]; omega), ?_⟩
                      dsimp only
                      rw [List.map_append]
                      exact (BI.step (HS8.out.turn hbx) Hf.out (HM8.out.turn hbx) ((hbx.block _ (Boxed.lt HBX8.out)).trans HBX8.out) HVN7.out (by have := hbX.size; omega) (ownTo_nodup _ _ _ _) hxr hxc Hv.out (by rw [Hv7.out]; exact hn) (by rw [Hv7.out]; exact s)).turn hW9
                    · have t1 : decide (0 ≤ v7) = true := decide_eq_true (by omega)
                      have z0 := HS8.out.b0.cell
                      have z1 := HS8.out.b1.cell
                      have z2 := HS8.out.b0.frozen
                      have z3 := HS8.out.b1.frozen
                      gi_wp2_with (fail)
                      try rw [Exit.noGoto_ret]
                      refine ⟨(((keepsOthers_below HBW.out).from _).trans ((KeepsOthers.setCell _ _ _).from _)).trans ((KeepsOthers.setCell _ _ _).from _), ?_⟩
                      dsimp only
                      rw [List.map_append]
                      exact BX.step HS8.out Hf.out HM8.out (ownTo_nodup _ _ _ _) (by rw [Hv7.out]; omega) rfl
                  case done2 =>
                    rintro D xs W hD hxs hI hK
                    have hsz := HN6.out
                    have hI2 : BI w w.heap.size R C N0 ps k Ds (ownTo r0 c0 q m) w7.heap.size (ownTo r0 c0 q m) W := by
                      have h := hI
                      try dsimp only at h
                      try dsimp only at hxs
                      rw [hxs] at h
                      exact h
                    obtain ⟨hS9, hok9⟩ := hI2.all HL.out Hfit.out
                    have HS9 := Lib.hid hS9
                    have HO9 : Hid (∀ j, j < k + 1 → okP ps R C j = true) := Lib.hid fun j hj => by
                      by_cases e : j = k
                      · subst e; exact hok9
                      · exact ho.out j (by omega)
                    have HM9 := Lib.hid (hI2.ms.cons (D := D) (by omega) hK fun hm => by have := HDs.out D hm; omega)
                    clear hI hI2 hxs hS9 hok9 hK hsz
                    have f9 : IntKind.i64.wrap ((k : Int) + 1) = (k : Int) + 1 := IntWalk.i64_in _ (by omega)
                    gi_wp2_with (fail)
                    refine ⟨L3.mk (k + 1) (D :: Ds) _ _ _ _ _ _ _ _ _ _ _ _ _ _ _ _ _ _ _ _ _ _ _ _ _ _ _ _ _ _ _ _ _ _ _ _ _ _ _ _ _ _ _ _ _ _ _ _ _ _ _ _ _ _ _ _ _ _ _ _ _ _ _ _ _ _ _ _ _ _ _ _ _ _ _ _ _ _ _ _ _ _ _ _ _ _ _ _ _ _ _ _ _ _ _ _ _ _ _ _ _ _ _ _ _ _ _ _ (Lib.hid (by omega)) HS9 HO9 HM9, ?_⟩
                    simp [intOf]
                    omega
                  case stop =>
                    rintro D c pre W hD ⟨i, kk, hi, hkk, hpe⟩ hX hK
                    obtain rfl := hX.ret
                    have hX2 : BX w w.heap.size ps k Ds (ownTo r0 c0 q m) .ret (ownTo r0 c0 q i ++ ownRow r0 c0 i (kk + 1)) W := by
                      have h := hX
                      try dsimp only at h
                      try dsimp only at hpe
                      rw [hpe] at h
                      exact h
                    have HE := Lib.hid (fun (tmps : Array Value) h6 h7 => slots_stop (R := R) (C := C) (tmps := tmps) hX2 (own_prefix r0 c0 hi (by omega)) rfl hlt HL.out hK hD HDs.out (by have := HN6.out; omega) h6 h7)
                    clear hX hX2 hpe hK
                    gi_wp2_with (fail)
                    try rw [Exit.noGoto_ret]
                    exact HE.out _ rfl rfl
        · obtain rfl : k = ps.length := by have := hk.out; omega
          have ti : decide ((ps.length : Int) < (ps.length : Int)) = false := decide_eq_false (by omega)
          obtain ⟨vs, hS0⟩ := hS.out
          have HS := Lib.hid hS0
          have z0 := hS0.b0.cell
          have z1 := hS0.b1.cell
          have z2 := hS0.b0.frozen
          have z3 := hS0.b1.frozen
          have z5 : wr.cell? ⟨w.heap.size + 1 + 1 + 1 + 1 + 1, 0, none⟩ = some (.slice (some ⟨w.heap.size + 1 + 1 + 1 + 1, 0, none⟩) R R) := hS0.b5.cell
          clear hS0 hS
          gi_wp2_with (fail)
          try rw [Exit.noGoto_ret]
          exact slots_done (H0 := w.heap.size) HS.out hM.out rfl (okS_yes ho.out) (by rfl) (by rfl)

end Go.Proofs.Ytmlcjiabnmdfeaa
