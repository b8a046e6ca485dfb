/- The walk of the law RectGrids. -/
import Derived.Test.YtnlojbkjhlhogaaGB
namespace Go.Proofs.Ytnlojbkjhlhogaa
open Go Go.RowKit IV
set_option linter.unusedVariables false

def gW (k : Nat) (x : Int) : Int := if k = 0 then 0 else x
def lenOf (n : Int) : Int := 1 + (IntKind.u64.wrap n).tmod 1000
theorem lenOf_part (n : Int) : ∃ p : Int, lenOf n = 1 + p ∧ (IntKind.u64.wrap n).tmod 1000 = p ∧ 0 ≤ p ∧ p ≤ 999 := by
  refine ⟨_, rfl, rfl, ?_⟩
  have h : 0 ≤ IntKind.u64.wrap n := by simp [IntKind.wrap, IntKind.bits, IntKind.signed]; omega
  rw [Int.tmod_eq_emod_of_nonneg h]
  omega
theorem at_part (wh : Int) {L : Nat} (h0 : 0 < L) (h1 : L ≤ 64) : ∃ n : Nat, n < L ∧ IntKind.i64.wrap ((IntKind.u64.wrap wh).tmod (L : Int)) = n := by
  have h : 0 ≤ IntKind.u64.wrap wh := by simp [IntKind.wrap, IntKind.bits, IntKind.signed]; omega
  generalize IntKind.u64.wrap wh = z at *
  rw [Int.tmod_eq_emod_of_nonneg h]
  have a := Int.emod_nonneg z (show (L : Int) ≠ 0 by omega)
  have b := Int.emod_lt_of_pos z (show (0 : Int) < L by omega)
  refine ⟨(z % (L : Int)).toNat, by omega, ?_⟩
  rw [IntWalk.i64_in _ (by omega)]
  omega
theorem few_of (l : List Int) (h : l.length ≤ 8) : Few (l.map lenOf) := by
  refine ⟨fun n hn => ?_, by rw [List.length_map]; exact h⟩
  obtain ⟨x, _, rfl⟩ := List.mem_map.1 hn
  obtain ⟨p, h1, _, h2, h3⟩ := lenOf_part x
  omega
theorem map_at (l : List Int) {k : Nat} (h : k < l.length) : (l.map lenOf)[k]?.getD 0 = lenOf (l[k]?.getD 0) := by
  rw [List.getElem?_map, List.getElem?_eq_getElem h]; rfl
theorem xa_next {ws : List Int} {k : Nat} (h : k < ws.length) : xa ws (k + 1) = xa ws k + ws[k]?.getD 0 := by
  unfold xa; rw [sum_next h]; omega
theorem ya_next {ws : List Int} {k : Nat} (h : k < ws.length) : ya ws (k + 1) = ya ws k + ws[k]?.getD 0 := by
  unfold ya; rw [sum_next h]; omega
theorem xa_bd {ws : List Int} (hw : Few ws) {k : Nat} (h : k ≤ ws.length) : -7 ≤ xa ws k ∧ xa ws k ≤ 8000 := by
  have := sum_le hw k h
  have := hw.2
  unfold xa; omega
theorem ya_bd {ws : List Int} (hw : Few ws) {k : Nat} (h : k ≤ ws.length) : 5 ≤ ya ws k ∧ ya ws k ≤ 8005 := by
  have := sum_le hw k h
  have := hw.2
  unfold ya; omega


/-- a row that a drawn region makes, fills and fills up; and a block of one rectangle -/
structure Row2 (base cap k1 : Nat) (l1 : List Rect) (k2 : Nat) (l2 : List Rect) (a : Rect) (d1 d5 d10 d8 : Bool) (v1 v5 v10 v8 : Value) (W : World) : Prop where
  le : base ≤ W.heap.size
  row : d1 = true → ∃ N, v1 = .slice (some ⟨N, 0, none⟩) 0 cap ∧ base ≤ N ∧ N < W.heap.size ∧ (d5 = true → v5 = .slice (some ⟨N, 0, none⟩) k1 cap) ∧ (d10 = true → v10 = .slice (some ⟨N, 0, none⟩) k2 cap) ∧
    (d5 = false → W.ownsRow base 23 4 (.slice (some ⟨N, 0, none⟩) 0 cap) 0 []) ∧ (d5 = true → d10 = false → W.ownsRow base 23 4 (.slice (some ⟨N, 0, none⟩) k1 cap) k1 (flat l1)) ∧ (d10 = true → W.ownsRow base 23 4 (.slice (some ⟨N, 0, none⟩) k2 cap) k2 (flat l2)) ∧
    (∀ M, d8 = true → v8 = .slice (some ⟨M, 0, none⟩) 1 1 → M ≠ N)
  one : d8 = true → ∃ M, v8 = .slice (some ⟨M, 0, none⟩) 1 1 ∧ RRow W M a
  o5 : d5 = true → d1 = true
  o10 : d10 = true → d5 = true
section
variable {base cap k1 k2 : Nat} {l1 l2 : List Rect} {a : Rect} {d1 d5 d10 d8 : Bool} {v1 v5 v10 v8 : Value} {W W' : World}
theorem Row2.none_yet (h : base ≤ W.heap.size) : Row2 base cap k1 l1 k2 l2 a false false false false v1 v5 v10 v8 W := ⟨h, by simp, by simp, by simp, by simp⟩
theorem Row2.turn (h : Row2 base cap k1 l1 k2 l2 a d1 d5 d10 d8 v1 v5 v10 v8 W) (hb : Below W.heap.size W W') : Row2 base cap k1 l1 k2 l2 a d1 d5 d10 d8 v1 v5 v10 v8 W' :=
  ⟨Nat.le_trans h.le hb.size, fun e => by
    obtain ⟨N, g1, g2, g3, g4, g5, g6, g7, g8, g9⟩ := h.row e
    exact ⟨N, g1, g2, Nat.lt_of_lt_of_le g3 hb.size, g4, g5, fun q => own_turn (g6 q) hb, fun q r => own_turn (g7 q r) hb, fun q => own_turn (g8 q) hb, g9⟩, fun e => by
    obtain ⟨M, g1, g2⟩ := h.one e
    exact ⟨M, g1, g2.turn hb⟩, h.o5, h.o10⟩
theorem Row2.make (h : Row2 base cap k1 l1 k2 l2 a false d5 d10 d8 v1 v5 v10 v8 W) (ho : W'.ownsRow base 23 4 (.slice (some ⟨W.heap.size, 0, none⟩) 0 cap) 0 []) (hg : W.grownBy W' none) (v5' v10' : Value) :
    Row2 base cap k1 l1 k2 l2 a true d5 d10 d8 (.slice (some ⟨W.heap.size, 0, none⟩) 0 cap) v5' v10' v8 W' := by
  have n5 : d5 = false := by cases e : d5 with | false => rfl | true => have := h.o5 e; simp at this
  have n10 : d10 = false := by cases e : d10 with | false => rfl | true => have := h.o10 e; rw [n5] at this; simp at this
  subst n5
  subst n10
  have hs : W.heap.size < W'.heap.size := (own_block1 ho (g := W.heap.size) rfl).2
  refine ⟨Nat.le_trans h.le hg.size, fun _ => ⟨W.heap.size, rfl, h.le, hs, by simp, by simp, fun _ => ho, by simp, by simp, fun M e1 e2 => ?_⟩, fun e => ?_, by simp, by simp⟩
  · obtain ⟨M', g1, g2⟩ := h.one e1
    rw [e2] at g1
    simp only [Value.slice.injEq, Option.some.injEq, Addr.mk.injEq] at g1
    have := g2.lt
    omega
  · obtain ⟨M, g1, g2⟩ := h.one e
    exact ⟨M, g1, ⟨(hg.block M g2.lt (by simp)).trans g2.at_⟩⟩
theorem Row2.wrote {N : Nat} (h : Row2 base cap k1 l1 k2 l2 a true d5 d10 d8 (.slice (some ⟨N, 0, none⟩) 0 cap) v5 v10 v8 W) (hg : W.grownBy W' (some N)) : d8 = true → ∃ M, v8 = .slice (some ⟨M, 0, none⟩) 1 1 ∧ RRow W' M a := fun e => by
  obtain ⟨N', g1, _, _, _, _, _, _, _, g9⟩ := h.row rfl
  simp only [Value.slice.injEq, Option.some.injEq, Addr.mk.injEq] at g1
  obtain ⟨⟨rfl, _⟩, _⟩ := g1
  obtain ⟨M, h1, h2⟩ := h.one e
  exact ⟨M, h1, ⟨(hg.block M h2.lt (fun q => g9 M e h1 (by simpa using q))).trans h2.at_⟩⟩
theorem Row2.first {N : Nat} (h : Row2 base cap k1 l1 k2 l2 a true false d10 d8 (.slice (some ⟨N, 0, none⟩) 0 cap) v5 v10 v8 W) (ho : W'.ownsRow base 23 4 (.slice (some ⟨N, 0, none⟩) k1 cap) k1 (flat l1)) (hg : W.grownBy W' (some N)) (v10' : Value) :
    Row2 base cap k1 l1 k2 l2 a true true d10 d8 (.slice (some ⟨N, 0, none⟩) 0 cap) (.slice (some ⟨N, 0, none⟩) k1 cap) v10' v8 W' := by
  have n10 : d10 = false := by cases e : d10 with | false => rfl | true => have := h.o10 e; simp at this
  subst n10
  obtain ⟨N', g1, g2, g3, _, _, _, _, _, g9⟩ := h.row rfl
  simp only [Value.slice.injEq, Option.some.injEq, Addr.mk.injEq] at g1
  obtain ⟨⟨rfl, _⟩, _⟩ := g1
  exact ⟨Nat.le_trans h.le hg.size, fun _ => ⟨N, rfl, g2, Nat.lt_of_lt_of_le g3 hg.size, fun _ => rfl, by simp, by simp, fun _ _ => ho, by simp, g9⟩, h.wrote hg, fun _ => rfl, by simp⟩
theorem Row2.last {N : Nat} (h : Row2 base cap k1 l1 k2 l2 a true true false d8 (.slice (some ⟨N, 0, none⟩) 0 cap) v5 v10 v8 W) (ho : W'.ownsRow base 23 4 (.slice (some ⟨N, 0, none⟩) k2 cap) k2 (flat l2)) (hg : W.grownBy W' (some N)) :
    Row2 base cap k1 l1 k2 l2 a true true true d8 (.slice (some ⟨N, 0, none⟩) 0 cap) v5 (.slice (some ⟨N, 0, none⟩) k2 cap) v8 W' := by
  obtain ⟨N', g1, g2, g3, g4, _, _, _, _, g9⟩ := h.row rfl
  simp only [Value.slice.injEq, Option.some.injEq, Addr.mk.injEq] at g1
  obtain ⟨⟨rfl, _⟩, _⟩ := g1
  exact ⟨Nat.le_trans h.le hg.size, fun _ => ⟨N, rfl, g2, Nat.lt_of_lt_of_le g3 hg.size, g4, fun _ => rfl, by simp, by simp, fun _ => ho, g9⟩, h.wrote hg, fun _ => rfl, fun _ => rfl⟩
theorem Row2.build (h : Row2 base cap k1 l1 k2 l2 a d1 d5 d10 d8 v1 v5 v10 v8 W) : Row2 base cap k1 l1 k2 l2 a d1 d5 d10 true v1 v5 v10 (.slice (some ⟨W.heap.size, 0, none⟩) 1 1) (W.alloc (.cells a.arr 23)) := by
  have hb := (Below.refl W.heap.size W).alloc (Nat.le_refl _) (.cells a.arr 23)
  have h' := h.turn hb
  refine ⟨h'.le, fun e => ?_, fun _ => ⟨_, rfl, RRow.new W a⟩, h.o5, h.o10⟩
  obtain ⟨N, g1, g2, g3, g4, g5, g6, g7, g8, _⟩ := h'.row e
  obtain ⟨N', q1, _, q3, _⟩ := h.row e
  rw [q1] at g1
  simp only [Value.slice.injEq, Option.some.injEq, Addr.mk.injEq] at g1
  obtain ⟨⟨rfl, _⟩, _⟩ := g1
  refine ⟨N', q1, g2, g3, g4, g5, g6, g7, g8, fun M _ e2 => ?_⟩
  simp only [Value.slice.injEq, Option.some.injEq, Addr.mk.injEq] at e2
  omega
end
theorem own_rects_cap {w : World} {base n cap : Nat} {A : Option Addr} {l : List Value} (h : w.ownsRow base 23 4 (.slice A n cap) n l) : n ≤ cap := by
  rcases h.2 with ⟨h0, h1⟩ | ⟨g, cp, cur, h0, hb, hg, h4, _⟩
  · omega
  · cases h0; exact h4
theorem Rects.drop {w : World} {b o : Nat} {l : List Rect} (h : Rects w (some ⟨b, o, none⟩) l) (n : Nat) : Rects w (some ⟨b, o + n * 4, none⟩) (l.drop n) := fun j hj => by
  rw [List.length_drop] at hj
  have := h.cells_at (k := n + j) (by omega)
  refine ⟨b, o + n * 4, rfl, ?_⟩
  rw [List.getElem?_drop, Nat.add_assoc, ← Nat.add_mul]
  exact this
theorem Row2.cast {base cap k1 k2 : Nat} {l1 l2 : List Rect} {a : Rect} {d1 d5 d10 d8 e1 e5 e10 : Bool} {v1 v5 v10 v8 : Value} {W : World} (h : Row2 base cap k1 l1 k2 l2 a d1 d5 d10 d8 v1 v5 v10 v8 W) (h1 : d1 = e1) (h5 : d5 = e5) (h10 : d10 = e10) : Row2 base cap k1 l1 k2 l2 a e1 e5 e10 d8 v1 v5 v10 v8 W := by
  subst h1; subst h5; subst h10; exact h

inductive G25 (W3 : World) (bR g o0 cap n L : Nat) (l : List Rect) (W0 Y : Int) (ad : Addr) (c9 l9 : Nat) (done : Nat → Bool) : Act → World → Prop
  | mk {W : World} (v20 v21 v107 v108 v109 v110 v111 v112 v113 v114 v115 v116 v117 v118 v119 v120 v121 f0 f1 f2 f3 f4 f5 f6 f9 f10 f11 f12 f13 f14 f15 f24 f25 f26 f27 f28 f29 f30 f31 f32 f33 f34 f35 f36 f37 f38 f39 f40 f41 f42 f43 f44 f45 f46 f47 f48 f49 f50 f51 f52 f53 f54 f55 f56 f57 f58 f59 f60 f61 f62 f63 f64 f65 f66 f67 f68 f69 f70 f71 f72 f73 f74 f75 f76 f77 f78 f79 f80 f81 f82 f83 f84 f85 f86 f87 f88 f89 f90 f91 f92 f93 f94 f95 f96 f97 f98 f99 f100 f101 f102 f103 f104 f105 f106 : Value) (hX : Hid (Below W3.heap.size W3 W)) (q : Hid (Row2 W3.heap.size 64 n (l.take n) (L - 1) (l.take n ++ l.drop (n + 1)) default (done 1) (done 5) (done 10) false v109 v113 v118 undef W)) (i0 : Hid (done 0 = true → v108 = .agg #[.int .i64 (-7), .int .i64 5, .int .i64 W0, .int .i64 (Y - 5)])) (i2 : Hid (done 2 = true → v110 = .slice (some ⟨g, o0, none⟩) L cap)) (i3 : Hid (done 3 = true → v111 = .int .i64 n)) (i4 : Hid (done 4 = true → v112 = .slice (some ⟨g, o0, none⟩) n cap)) (i6 : Hid (done 6 = true → v114 = .slice (some ⟨g, o0, none⟩) L cap)) (i7 : Hid (done 7 = true → v115 = .int .i64 n)) (i8 : Hid (done 8 = true → v116 = .int .i64 ((n : Int) + 1))) (i9 : Hid (done 9 = true → v117 = .slice (some ad) l9 c9)) (i11 : Hid (done 11 = true → v119 = .tuple #[.bool false, .int .i64 0])) (i12 : Hid (done 12 = true → v107 = .tuple #[.bool false, .int .i64 0])) (i13 : Hid (done 13 = true → v120 = .bool false)) (i14 : Hid (done 14 = true → v121 = .int .i64 0)) (i15 : Hid (done 15 = true → v20 = .bool false)) (i16 : Hid (done 16 = true → v21 = .int .i64 0)) : G25 W3 bR g o0 cap n L l W0 Y ad c9 l9 done { tmps := #[f0, f1, f2, f3, f4, f5, f6, .bool true, .slice (some ⟨g, o0, none⟩) L cap, f9, f10, f11, f12, f13, f14, f15, .pointer (some ⟨bR, 0, none⟩), .bool true, .int .i64 0, .int .i64 n, v20, v21, undef, undef, f24, f25, f26, f27, f28, f29, f30, f31, f32, f33, f34, f35, f36, f37, f38, f39, f40, f41, f42, f43, f44, f45, f46, f47, f48, f49, f50, f51, f52, f53, f54, f55, f56, f57, f58, f59, f60, f61, f62, f63, f64, f65, f66, f67, f68, f69, f70, f71, f72, f73, f74, f75, f76, f77, f78, f79, f80, f81, f82, f83, f84, f85, f86, f87, f88, f89, f90, f91, f92, f93, f94, f95, f96, f97, f98, f99, f100, f101, f102, f103, f104, f105, f106, v107, v108, v109, v110, v111, v112, v113, v114, v115, v116, v117, v118, v119, v120, v121, undef, undef, undef, undef, undef, undef, undef, undef, undef, undef, undef, undef, undef, undef, undef, undef, undef, undef, undef, undef, undef, undef, undef, undef, undef, undef, undef, undef, undef, undef, undef, undef, undef, undef, undef, undef, undef, undef], defers := [] } W

inductive G26 (W3 : World) (bR g o0 cap n L : Nat) (l : List Rect) (W0 Y : Int) (ad : Addr) (c9 l9 : Nat) (done : Nat → Bool) : Act → World → Prop
  | mk {W : World} (v22 v23 v122 v123 v124 v125 v126 v127 v128 v129 v130 v131 v132 v133 v134 v135 f0 f1 f2 f3 f4 f5 f6 f9 f10 f11 f12 f13 f14 f15 f24 f25 f26 f27 f28 f29 f30 f31 f32 f33 f34 f35 f36 f37 f38 f39 f40 f41 f42 f43 f44 f45 f46 f47 f48 f49 f50 f51 f52 f53 f54 f55 f56 f57 f58 f59 f60 f61 f62 f63 f64 f65 f66 f67 f68 f69 f70 f71 f72 f73 f74 f75 f76 f77 f78 f79 f80 f81 f82 f83 f84 f85 f86 f87 f88 f89 f90 f91 f92 f93 f94 f95 f96 f97 f98 f99 f100 f101 f102 f103 f104 f105 f106 f107 f108 f109 f110 f111 f112 f113 f114 f115 f116 f117 f118 f119 f120 f121 : Value) (hX : Hid (Below W3.heap.size W3 W)) (q : Hid (Row2 W3.heap.size 65 L l (L + 1) (l ++ [l[n]?.getD default]) (l[n]?.getD default) (done 1) (done 3) (done 9) (done 8) v124 v126 v132 v131 W)) (i0 : Hid (done 0 = true → v123 = .agg #[.int .i64 (-7), .int .i64 5, .int .i64 W0, .int .i64 (Y - 5)])) (i2 : Hid (done 2 = true → v125 = .slice (some ⟨g, o0, none⟩) L cap)) (i4 : Hid (done 4 = true → v127 = .slice (some ⟨g, o0, none⟩) L cap)) (i5 : Hid (done 5 = true → v128 = .int .i64 n)) (i6 : Hid (done 6 = true → v129 = .pointer (some ⟨g, o0 + n * 4, none⟩))) (i7 : Hid (done 7 = true → v130 = .agg #[.int .i64 (l[n]?.getD default).x, .int .i64 (l[n]?.getD default).y, .int .i64 (l[n]?.getD default).w, .int .i64 (l[n]?.getD default).h])) (i10 : Hid (done 10 = true → v133 = .tuple #[.bool false, .int .i64 0])) (i11 : Hid (done 11 = true → v122 = .tuple #[.bool false, .int .i64 0])) (i12 : Hid (done 12 = true → v134 = .bool false)) (i13 : Hid (done 13 = true → v135 = .int .i64 0)) (i14 : Hid (done 14 = true → v22 = .bool false)) (i15 : Hid (done 15 = true → v23 = .int .i64 0)) : G26 W3 bR g o0 cap n L l W0 Y ad c9 l9 done { tmps := #[f0, f1, f2, f3, f4, f5, f6, .bool true, .slice (some ⟨g, o0, none⟩) L cap, f9, f10, f11, f12, f13, f14, f15, .pointer (some ⟨bR, 0, none⟩), .bool true, .int .i64 0, .int .i64 n, .bool false, .int .i64 0, v22, v23, f24, f25, f26, f27, f28, f29, f30, f31, f32, f33, f34, f35, f36, f37, f38, f39, f40, f41, f42, f43, f44, f45, f46, f47, f48, f49, f50, f51, f52, f53, f54, f55, f56, f57, f58, f59, f60, f61, f62, f63, f64, f65, f66, f67, f68, f69, f70, f71, f72, f73, f74, f75, f76, f77, f78, f79, f80, f81, f82, f83, f84, f85, f86, f87, f88, f89, f90, f91, f92, f93, f94, f95, f96, f97, f98, f99, f100, f101, f102, f103, f104, f105, f106, f107, f108, f109, f110, f111, f112, f113, f114, f115, f116, f117, f118, f119, f120, f121, v122, v123, v124, v125, v126, v127, v128, v129, v130, v131, v132, v133, v134, v135, undef, undef, undef, undef, undef, undef, undef, undef, undef, undef, undef, undef, undef, undef, undef, undef, undef, undef, undef, undef, undef, undef, undef, undef], defers := [] } W

set_option maxRecDepth 100000 in
set_option maxHeartbeats 8000000 in
theorem grids_walk (A0 A1 : Option Addr) (xs0 xs1 : List Int) (c0 c1 : Nat) (wh : Int) (w : World) (hx0 : Ints w A0 xs0) (hx1 : Ints w A1 xs1) (h00 : xs0.length ≤ c0) (h11 : xs1.length ≤ c1) (hl0 : xs0.length ≤ 17592186044416) (hl1 : xs1.length ≤ 17592186044416) :
    Calls Try.prog 6 #[.slice A0 xs0.length c0, .slice A1 xs1.length c1, .int .i64 wh] w fun e w' => e = .returned (.bool true) ∧ Below w.heap.size w w' := by
  have Hx0 := Lib.hid (hx0.take 8)
  have Hx1 := Lib.hid (hx1.take 8)
  have m0 : (if (8 : Int) < (xs0.length : Int) then (8 : Int) else (xs0.length : Int)) = ((xs0.take 8).length : Int) := by rw [List.length_take]; split <;> omega
  have m1 : (if (8 : Int) < (xs1.length : Int) then (8 : Int) else (xs1.length : Int)) = ((xs1.take 8).length : Int) := by rw [List.length_take]; split <;> omega
  have s0 : (xs0.take 8).length ≤ c0 := by rw [List.length_take]; omega
  have s1 : (xs1.take 8).length ≤ c1 := by rw [List.length_take]; omega
  have e0 : (xs0.take 8).length ≤ 8 := by rw [List.length_take]; omega
  have e1 : (xs1.take 8).length ≤ 8 := by rw [List.length_take]; omega
  clear hx0 hx1
  generalize xs0.take 8 = bs at *
  generalize xs1.take 8 = ds at *
  go_enter Try.func6, Try.ntmps6
  go_wp2_with (fail)
  refine (shown w).mono ?_
  rintro e w1 ⟨rfl, hb⟩
  have HB1 := Lib.hid hb
  have Hy0 := Lib.hid (Hx0.out.below hb)
  have Hy1 := Lib.hid (Hx1.out.below hb)
  clear hb Hx0 Hx1
  have hb8 : bs.length ≤ 8 := e0
  have hd8 : ds.length ≤ 8 := e1
  have Hw := Lib.hid (few_of bs e0)
  have Hh := Lib.hid (few_of ds e1)
  have Nb := Lib.hid (show (bs.map lenOf).length = bs.length from List.length_map ..)
  have Nd := Lib.hid (show (ds.map lenOf).length = ds.length from List.length_map ..)
  have Mb := Lib.hid (fun k (h : k < bs.length) => map_at bs h)
  have Md := Lib.hid (fun k (h : k < ds.length) => map_at ds h)
  clear e0 e1
  generalize bs.map lenOf = ws at *
  generalize ds.map lenOf = hs at *
  go_wp2_with (fail)
  clear m0 m1 s0 s1
  go_loopw [8, 9, 10, 11] (fun l y wd i wr => ∃ k : Nat, k ≤ ds.length ∧ i = .int .i64 k ∧ y = .int .i64 (ya hs k) ∧ wd = .int .i64 (gW k (xa ws bs.length + 7)) ∧ Hid (Below w1.heap.size w1 wr) ∧ Hid (wr.ownsRow w1.heap.size 23 4 l (k * bs.length) (flat (grid ws hs k)))) (fun _ _ _ i _ => ds.length - (intOf i).toNat)
  case atStart => exact ⟨0, Nat.zero_le _, rfl, rfl, rfl, Lib.hid (Below.refl _ _), Lib.hid (by rw [Nat.zero_mul]; exact ⟨rfl, .inl ⟨rfl, rfl⟩⟩)⟩
  case round =>
    obtain ⟨k, hk, rfl, rfl, rfl, HBk, HOk⟩ := hrel
    have hkb : k * bs.length ≤ 8 * 8 := Nat.mul_le_mul (by omega) hb8
    by_cases hlt : k < ds.length
    · have ti : decide ((k : Int) < (ds.length : Int)) = true := decide_eq_true (by omega)
      obtain ⟨n, b, off, hn, rfl, hc⟩ := (Hy1.out.below HBk.out).get k hlt
      obtain ⟨p, hp, f1, hp0, hp1⟩ := lenOf_part n
      have f1 : IntKind.i64.wrap ((IntKind.u64.wrap n).tmod 1000) = p := by rw [f1]; exact IntWalk.i64_in _ (by omega)
      have f2 : IntKind.i64.wrap (1 + p) = 1 + p := IntWalk.i64_in _ (by omega)
      have hhk := Md.out k hlt
      rw [hn.out, hp] at hhk
      have Hhk := Lib.hid hhk
      have hyb := ya_bd Hh.out (show k ≤ hs.length by rw [Nd.out]; omega)
      have Hya := Lib.hid (ya_next (ws := hs) (show k < hs.length by rw [Nd.out]; exact hlt))
      rw [Hhk.out] at Hya
      clear hhk hn hp
      generalize hyy : ya hs k = Y at *
      have HY := Lib.hid hyy
      clear hyy
      obtain ⟨wa, hwa⟩ : ∃ wa, wa = wr := ⟨_, rfl⟩
      subst hwa
      go_wp2_with (fail)
      clear f1 f2 hc
      go_loopw [8, 13, 14] (fun l x i wr => ∃ j : Nat, j ≤ bs.length ∧ i = .int .i64 j ∧ x = .int .i64 (xa ws j) ∧ Hid (Below w1.heap.size w1 wr) ∧ Hid (wr.ownsRow w1.heap.size 23 4 l (k * bs.length + j) (flat (grid ws hs k ++ gRow ws hs k j)))) (fun _ _ i _ => bs.length - (intOf i).toNat)
      case atStart => exact ⟨0, Nat.zero_le _, rfl, rfl, HBk, by rw [show gRow ws hs k 0 = [] from rfl, List.append_nil, Nat.add_zero]; exact HOk⟩
      case round =>
        obtain ⟨j, hj, rfl, rfl, HBj, HOj⟩ := hrel
        have hxb := xa_bd Hw.out (show j ≤ ws.length by rw [Nb.out]; omega)
        by_cases hlj : j < bs.length
        · have tj : decide ((j : Int) < (bs.length : Int)) = true := decide_eq_true (by omega)
          obtain ⟨n, b2, o2, hn, rfl, hc⟩ := (Hy0.out.below HBj.out).get j hlj
          obtain ⟨q, hq, f1, hq0, hq1⟩ := lenOf_part n
          have f1 : IntKind.i64.wrap ((IntKind.u64.wrap n).tmod 1000) = q := by rw [f1]; exact IntWalk.i64_in _ (by omega)
          have f2 : IntKind.i64.wrap (1 + q) = 1 + q := IntWalk.i64_in _ (by omega)
          have hwj := Mb.out j hlj
          rw [hn.out, hq] at hwj
          have Hxn := Lib.hid (xa_next (ws := ws) (show j < ws.length by rw [Nb.out]; exact hlj))
          rw [hwj] at Hxn
          have Hrow : Hid (gRow ws hs k (j + 1) = gRow ws hs k j ++ [⟨xa ws j, Y, 1 + q, 1 + p⟩]) := Lib.hid (by rw [gRow, gcell, hwj, Hhk.out, HY.out])
          have f3 : IntKind.i64.wrap (xa ws j + (1 + q)) = xa ws j + (1 + q) := IntWalk.i64_in _ (by omega)
          clear hn hq hwj
          generalize hxx : xa ws j = X at *
          clear hxx
          have hm := RRow.new wr ⟨X, Y, 1 + q, 1 + p⟩
          have Hm := Lib.hid hm
          have HOn := Lib.hid (own_turn HOj.out ((Below.refl _ wr).alloc (Nat.le_refl _) (.cells (Rect.arr ⟨X, Y, 1 + q, 1 + p⟩) 23)))
          have HBn := Lib.hid (HBj.out.alloc HBj.out.size (.cells (Rect.arr ⟨X, Y, 1 + q, 1 + p⟩) 23))
          unfold Rect.arr at Hm HOn HBn
          dsimp only at Hm HOn HBn
          clear hm
          go_wp2_with (at_builtin; go_must (refine wpList_app_rect rfl w1.heap.size _ _ rfl _ (k * bs.length + j) _ rfl HOn.out wr.heap.size ⟨X, Y, 1 + q, 1 + p⟩ rfl Hm.out (by omega) HBn.out.size ?_; intro v' W' hown' hg'; have HB2 := Lib.hid (HBn.out.trans hg'); have HO2 := Lib.hid hown'; clear hown' hg' Hm HOn HBn))
          go_roundw
          case rel => exact ⟨j + 1, by omega, by go_num, by rw [Hxn.out], HB2, by rw [Hrow.out, ← List.append_assoc, ← Nat.add_assoc]; exact HO2⟩
          case measure => simp [intOf]; omega
        · obtain rfl : j = bs.length := by omega
          have tj : decide ((bs.length : Int) < (bs.length : Int)) = false := decide_eq_false (by omega)
          have g1 : IntKind.i64.wrap (xa ws bs.length + 7) = xa ws bs.length + 7 := IntWalk.i64_in _ (by omega)
          have g2 : IntKind.i64.wrap (Y + (1 + p)) = Y + (1 + p) := IntWalk.i64_in _ (by omega)
          have HOn : Hid (wr.ownsRow w1.heap.size 23 4 u8 ((k + 1) * bs.length) (flat (grid ws hs (k + 1)))) := Lib.hid (by rw [Nat.succ_mul, grid, Nb.out]; exact HOj.out)
          go_wp2_with (fail)
          go_roundw
          case rel => exact ⟨k + 1, by omega, by go_num, by rw [Hya.out], by rw [gW, if_neg (by omega)], HBj, HOn⟩
          case measure => simp [intOf]; omega
    · obtain rfl : k = ds.length := by omega
      have ti : decide ((ds.length : Int) < (ds.length : Int)) = false := decide_eq_false (by omega)
      have hyb := ya_bd Hh.out (show ds.length ≤ hs.length by rw [Nd.out]; omega)
      have g1 : IntKind.i64.wrap (ya hs ds.length - 5) = ya hs ds.length - 5 := IntWalk.i64_in _ (by omega)
      have HG : Hid (gBox ws hs = ⟨-7, 5, gW ds.length (xa ws bs.length + 7), ya hs ds.length - 5⟩) := Lib.hid (by unfold gBox gW; rw [Nb.out, Nd.out])
      have hT := grid_tiles Hw.out Hh.out
      have hL := fun n => @less_tiles ws hs Hw.out Hh.out n
      have hM := fun n => @more_tiles ws hs Hw.out Hh.out n
      have hgl := grid_len ws hs ds.length
      rw [Nb.out] at hgl
      rw [Nd.out] at hT hL hM
      obtain ⟨A, cap, rfl, hA⟩ := own_rects HOk.out hgl.symm
      have HOc := Lib.hid HOk.out
      have HA := Lib.hid hA
      rw [HG.out] at hT hL hM
      have HT := Lib.hid hT
      have HL := Lib.hid hL
      have HM := Lib.hid hM
      have Hgl := Lib.hid hgl
      clear hT hL hM hgl hA HG
      generalize grid ws hs ds.length = l at *
      generalize ds.length * bs.length = L at *
      have hkb : L ≤ 64 := hkb
      generalize gW ds.length (xa ws bs.length + 7) = W0 at *
      generalize ya hs ds.length = Y at *
      have hR := RRow.new wr ⟨-7, 5, W0, Y - 5⟩
      have hb := (Below.refl _ wr).alloc (Nat.le_refl _) (.cells (Rect.arr ⟨-7, 5, W0, Y - 5⟩) 23)
      have HR2 := Lib.hid hR
      have HB2 := Lib.hid (HBk.out.trans (hb.mono HBk.out.size))
      have HA2 := Lib.hid (HA.out.below hb)
      unfold Rect.arr at HR2 HB2 HA2
      dsimp only at HR2 HB2 HA2
      have p0 : (wr.alloc (.cells #[.int .i64 (-7), .int .i64 5, .int .i64 W0, .int .i64 (Y - 5)] 23)).cell? ⟨wr.heap.size, 0, none⟩ = some (.int .i64 (-7)) := HR2.out.cells.1
      have p1 : (wr.alloc (.cells #[.int .i64 (-7), .int .i64 5, .int .i64 W0, .int .i64 (Y - 5)] 23)).cell? ⟨wr.heap.size, 1, none⟩ = some (.int .i64 5) := HR2.out.cells.2.1
      have p2 : (wr.alloc (.cells #[.int .i64 (-7), .int .i64 5, .int .i64 W0, .int .i64 (Y - 5)] 23)).cell? ⟨wr.heap.size, 2, none⟩ = some (.int .i64 W0) := HR2.out.cells.2.2.1
      have p3 : (wr.alloc (.cells #[.int .i64 (-7), .int .i64 5, .int .i64 W0, .int .i64 (Y - 5)] 23)).cell? ⟨wr.heap.size, 3, none⟩ = some (.int .i64 (Y - 5)) := HR2.out.cells.2.2.2
      have C19 := Lib.hid (fun W h => c19 ⟨-7, 5, W0, Y - 5⟩ A l cap W h (by rw [Hgl.out]; omega))
      have CC := Lib.hid (fun A m cap W h hm => c19 ⟨-7, 5, W0, Y - 5⟩ A m cap W h hm)
      rw [HT.out.1, HT.out.2] at C19
      rw [Hgl.out] at C19
      unfold Rect.arr at C19 CC
      dsimp only at C19 CC
      go_wp2_with (fail)
      generalize wr.alloc (.cells #[.int .i64 (-7), .int .i64 5, .int .i64 W0, .int .i64 (Y - 5)] 23) = w2 at *
      refine (C19.out _ HA2.out).mono ?_
      rintro e w3 ⟨rfl, hb⟩
      have HR3 := Lib.hid (HR2.out.turn hb)
      have HB3 := Lib.hid (HB1.out.trans ((HB2.out.trans (hb.mono HB2.out.size)).mono HB1.out.size))
      have HA3 := Lib.hid (HA2.out.below hb)
      clear hb HR2 HB2 HA2 C19 p0 p1 p2 p3 HT g1 hyb HBk HOk HA
      generalize wr.heap.size = bR at *
      by_cases h0 : l.length = 0
      · have t0 : ((L : Int) == 0) = true := by rw [beq_iff_eq]; have := Hgl.out; omega
        clear HL HM CC
        go_wp2_with (fail)
        go_ret
        exact ⟨rfl, HB3.out⟩
      · have t0 : ((L : Int) == 0) = false := by rw [beq_eq_false_iff_ne]; have := Hgl.out; omega
        have hL0 : 0 < L := by have := Hgl.out; omega
        have tz : ((L : Int) = 0) = False := eq_false (by omega)
        have tz2 : (L = 0) = False := eq_false (by omega)
        have fL : IntKind.u64.wrap (L : Int) = L := IntWalk.u64_in _ ⟨by omega, by omega⟩
        obtain ⟨n, hn, fn⟩ := at_part wh hL0 (by omega)
        have Hn : Hid (n < L) := Lib.hid hn
        clear h0 hL0 hn
        obtain ⟨g, o0, hA, _⟩ := HA3.out 0 (by have := Hgl.out; have := Hn.out; omega)
        subst hA
        have hLc := (own_rects_cap HOc.out)
        have HLc := Lib.hid hLc
        have Hnc : Hid (n ≤ cap) := Lib.hid (by have := Hn.out; omega)
        have HnL : Hid (n + 1 ≤ L) := Lib.hid (by have := Hn.out; omega)
        have HnL2 : Hid (n + (L - (n + 1)) = L - 1) := Lib.hid (by have := Hn.out; omega)
        have Hwn : Hid (IntKind.i64.wrap ((n : Int) + 1) = (n : Int) + 1) := Lib.hid (IntWalk.i64_in _ (by have := Hn.out; omega))
        have Htk : Hid ((l.take n).length = n) := Lib.hid (by rw [List.length_take, Hgl.out]; have := Hn.out; omega)
        have Hdr : Hid ((l.drop (n + 1)).length = L - (n + 1)) := Lib.hid (by rw [List.length_drop, Hgl.out])
        have Hlen1 : Hid (L - 1 = (l.take n ++ l.drop (n + 1)).length) := Lib.hid (by rw [List.length_append, Htk.out, Hdr.out, HnL2.out])
        have Hlen2 : Hid (L + 1 = (l ++ [l[n]?.getD default]).length) := Lib.hid (by rw [List.length_append, Hgl.out]; rfl)
        have CL := Lib.hid (fun A cap W h => CC.out A (l.take n ++ l.drop (n + 1)) cap W h (by rw [← Hlen1.out]; omega))
        have CM := Lib.hid (fun A cap W h => CC.out A (l ++ [l[n]?.getD default]) cap W h (by rw [← Hlen2.out]; omega))
        rw [(HL.out n (by rw [Hgl.out]; exact Hn.out)).1, (HL.out n (by rw [Hgl.out]; exact Hn.out)).2, ← Hlen1.out] at CL
        rw [(HM.out n (by rw [Hgl.out]; exact Hn.out)).1, (HM.out n (by rw [Hgl.out]; exact Hn.out)).2, ← Hlen2.out] at CM
        have A0 := Lib.hid HR3.out.cells.1
        have A1 := Lib.hid HR3.out.cells.2.1
        have A2 := Lib.hid HR3.out.cells.2.2.1
        have A3 := Lib.hid HR3.out.cells.2.2.2
        dsimp only at A0 A1 A2 A3
        clear hLc CC HL HM
        by_cases hcp : cap = n + 1
        · subst hcp
          have hLn : L = n + 1 := by have := HnL.out; have := HLc.out; omega
          have HDR : Hid (∀ X, Below w3.heap.size w3 X → Rects X (some ⟨g, o0, none⟩) (l.drop (n + 1))) := Lib.hid fun X _ => by
            rw [List.drop_eq_nil_of_le (by rw [Hgl.out]; omega)]; exact rects_nil _ _
          have HD9 : Hid ((l.drop (n + 1)).length = 0) := Lib.hid (by rw [List.length_drop, Hgl.out]; omega)
          have HN9 : Hid (n + 0 = L - 1) := Lib.hid (by omega)
          clear hLn
          go_wp2_with (fail)
          refine wp_region_done2 (by kernel_rfl) (by kernel_rfl) (G25 w3 bR g o0 (n + 1) n L l W0 Y ⟨g, o0, none⟩ 0 0) ?_ ?_ ?_
          · exact ⟨_, _, _, _, _, _, _, _, _, _, _, _, _, _, _, _, _, _, _, _, _, _, _, _, _, _, _, _, _, _, _, _, _, _, _, _, _, _, _, _, _, _, _, _, _, _, _, _, _, _, _, _, _, _, _, _, _, _, _, _, _, _, _, _, _, _, _, _, _, _, _, _, _, _, _, _, _, _, _, _, _, _, _, _, _, _, _, _, _, _, _, _, _, _, _, _, _, _, _, _, _, _, _, _, _, _, _, _, _, _, _, _, _, _, Lib.hid (Below.refl _ w3).drew, Lib.hid (Row2.none_yet (Nat.le_refl _)), Lib.hid fun h => by simp at h, Lib.hid fun h => by simp at h, Lib.hid fun h => by simp at h, Lib.hid fun h => by simp at h, Lib.hid fun h => by simp at h, Lib.hid fun h => by simp at h, Lib.hid fun h => by simp at h, Lib.hid fun h => by simp at h, Lib.hid fun h => by simp at h, Lib.hid fun h => by simp at h, Lib.hid fun h => by simp at h, Lib.hid fun h => by simp at h, Lib.hid fun h => by simp at h, Lib.hid fun h => by simp at h⟩
          · rintro done i o a X ho hd he ⟨v20, v21, v107, v108, v109, v110, v111, v112, v113, v114, v115, v116, v117, v118, v119, v120, v121, f0, f1, f2, f3, f4, f5, f6, f9, f10, f11, f12, f13, f14, f15, f24, f25, f26, f27, f28, f29, f30, f31, f32, f33, f34, f35, f36, f37, f38, f39, f40, f41, f42, f43, f44, f45, f46, f47, f48, f49, f50, f51, f52, f53, f54, f55, f56, f57, f58, f59, f60, f61, f62, f63, f64, f65, f66, f67, f68, f69, f70, f71, f72, f73, f74, f75, f76, f77, f78, f79, f80, f81, f82, f83, f84, f85, f86, f87, f88, f89, f90, f91, f92, f93, f94, f95, f96, f97, f98, f99, f100, f101, f102, f103, f104, f105, f106, hX, q, i0, i2, i3, i4, i6, i7, i8, i9, i11, i12, i13, i14, i15, i16⟩ K hK
            have Hd := Lib.hid he
            clear he
            rcases i with _ | _ | _ | _ | _ | _ | _ | _ | _ | _ | _ | _ | _ | _ | _ | _ | _ | i
            rotate_left 17
            · exact absurd (Array.getElem?_eq_some_iff.1 ho).1 (by simp)
            · obtain rfl := Option.some.inj ho
              have s0 := rd hX.out A0.out
              have s1 := rd hX.out A1.out
              have s2 := rd hX.out A2.out
              have s3 := rd hX.out A3.out
              refine wpOp_plain ho rfl ?_
              clear ho hd
              go_wp2
              exact ⟨_, _, _, _, _, _, _, _, _, _, _, _, _, _, _, _, _, _, _, _, _, _, _, _, _, _, _, _, _, _, _, _, _, _, _, _, _, _, _, _, _, _, _, _, _, _, _, _, _, _, _, _, _, _, _, _, _, _, _, _, _, _, _, _, _, _, _, _, _, _, _, _, _, _, _, _, _, _, _, _, _, _, _, _, _, _, _, _, _, _, _, _, _, _, _, _, _, _, _, _, _, _, _, _, _, _, _, _, _, _, _, _, _, _, hX, q, Lib.hid fun _ => rfl, Lib.hid fun h => i2.out h, Lib.hid fun h => i3.out h, Lib.hid fun h => i4.out h, Lib.hid fun h => i6.out h, Lib.hid fun h => i7.out h, Lib.hid fun h => i8.out h, Lib.hid fun h => i9.out h, Lib.hid fun h => i11.out h, Lib.hid fun h => i12.out h, Lib.hid fun h => i13.out h, Lib.hid fun h => i14.out h, Lib.hid fun h => i15.out h, Lib.hid fun h => i16.out h⟩
            · obtain rfl := Option.some.inj ho
              have q1 := q.out
              rw [hd] at q1
              have Q1 := Lib.hid q1
              clear q1
              refine wpOp_plain ho rfl ?_
              clear ho hd
              refine wp_make_rects w3.heap.size _ _ 64 rfl rfl rfl (by decide) Q1.out.le ?_
              intro W1 hown hg
              have hb : Below X.heap.size X W1 := ⟨hg.os, hg.tape, hg.output, hg.size, fun q hq => hg.block q hq (by simp)⟩
              refine hK _ _ ?_
              exact ⟨_, _, _, _, _, _, _, _, _, _, _, _, _, _, _, _, _, _, _, _, _, _, _, _, _, _, _, _, _, _, _, _, _, _, _, _, _, _, _, _, _, _, _, _, _, _, _, _, _, _, _, _, _, _, _, _, _, _, _, _, _, _, _, _, _, _, _, _, _, _, _, _, _, _, _, _, _, _, _, _, _, _, _, _, _, _, _, _, _, _, _, _, _, _, _, _, _, _, _, _, _, _, _, _, _, _, _, _, _, _, _, _, _, _, Lib.hid (hX.out.trans (hb.mono hX.out.size)), Lib.hid (Q1.out.make hown hg _ _), Lib.hid fun h => i0.out h, Lib.hid fun h => i2.out h, Lib.hid fun h => i3.out h, Lib.hid fun h => i4.out h, Lib.hid fun h => i6.out h, Lib.hid fun h => i7.out h, Lib.hid fun h => i8.out h, Lib.hid fun h => i9.out h, Lib.hid fun h => i11.out h, Lib.hid fun h => i12.out h, Lib.hid fun h => i13.out h, Lib.hid fun h => i14.out h, Lib.hid fun h => i15.out h, Lib.hid fun h => i16.out h⟩
            · obtain rfl := Option.some.inj ho
              refine wpOp_plain ho rfl ?_
              clear ho hd
              go_wp2
              exact ⟨_, _, _, _, _, _, _, _, _, _, _, _, _, _, _, _, _, _, _, _, _, _, _, _, _, _, _, _, _, _, _, _, _, _, _, _, _, _, _, _, _, _, _, _, _, _, _, _, _, _, _, _, _, _, _, _, _, _, _, _, _, _, _, _, _, _, _, _, _, _, _, _, _, _, _, _, _, _, _, _, _, _, _, _, _, _, _, _, _, _, _, _, _, _, _, _, _, _, _, _, _, _, _, _, _, _, _, _, _, _, _, _, _, _, hX, q, Lib.hid fun h => i0.out h, Lib.hid fun _ => rfl, Lib.hid fun h => i3.out h, Lib.hid fun h => i4.out h, Lib.hid fun h => i6.out h, Lib.hid fun h => i7.out h, Lib.hid fun h => i8.out h, Lib.hid fun h => i9.out h, Lib.hid fun h => i11.out h, Lib.hid fun h => i12.out h, Lib.hid fun h => i13.out h, Lib.hid fun h => i14.out h, Lib.hid fun h => i15.out h, Lib.hid fun h => i16.out h⟩
            · obtain rfl := Option.some.inj ho
              refine wpOp_plain ho rfl ?_
              clear ho hd
              go_wp2
              exact ⟨_, _, _, _, _, _, _, _, _, _, _, _, _, _, _, _, _, _, _, _, _, _, _, _, _, _, _, _, _, _, _, _, _, _, _, _, _, _, _, _, _, _, _, _, _, _, _, _, _, _, _, _, _, _, _, _, _, _, _, _, _, _, _, _, _, _, _, _, _, _, _, _, _, _, _, _, _, _, _, _, _, _, _, _, _, _, _, _, _, _, _, _, _, _, _, _, _, _, _, _, _, _, _, _, _, _, _, _, _, _, _, _, _, _, hX, q, Lib.hid fun h => i0.out h, Lib.hid fun h => i2.out h, Lib.hid fun _ => rfl, Lib.hid fun h => i4.out h, Lib.hid fun h => i6.out h, Lib.hid fun h => i7.out h, Lib.hid fun h => i8.out h, Lib.hid fun h => i9.out h, Lib.hid fun h => i11.out h, Lib.hid fun h => i12.out h, Lib.hid fun h => i13.out h, Lib.hid fun h => i14.out h, Lib.hid fun h => i15.out h, Lib.hid fun h => i16.out h⟩
            · obtain rfl := Option.some.inj ho
              obtain rfl := i2.out (Hd.out ⟨2, .data⟩ (by simp) rfl)
              obtain rfl := i3.out (Hd.out ⟨3, .data⟩ (by simp) rfl)
              have s := Hnc.out
              refine wpOp_plain ho rfl ?_
              clear ho hd
              go_wp2
              exact ⟨_, _, _, _, _, _, _, _, _, _, _, _, _, _, _, _, _, _, _, _, _, _, _, _, _, _, _, _, _, _, _, _, _, _, _, _, _, _, _, _, _, _, _, _, _, _, _, _, _, _, _, _, _, _, _, _, _, _, _, _, _, _, _, _, _, _, _, _, _, _, _, _, _, _, _, _, _, _, _, _, _, _, _, _, _, _, _, _, _, _, _, _, _, _, _, _, _, _, _, _, _, _, _, _, _, _, _, _, _, _, _, _, _, _, hX, q, Lib.hid fun h => i0.out h, Lib.hid fun _ => rfl, Lib.hid fun _ => rfl, Lib.hid fun _ => rfl, Lib.hid fun h => i6.out h, Lib.hid fun h => i7.out h, Lib.hid fun h => i8.out h, Lib.hid fun h => i9.out h, Lib.hid fun h => i11.out h, Lib.hid fun h => i12.out h, Lib.hid fun h => i13.out h, Lib.hid fun h => i14.out h, Lib.hid fun h => i15.out h, Lib.hid fun h => i16.out h⟩
            · obtain rfl := Option.some.inj ho
              obtain rfl := i4.out (Hd.out ⟨4, .data⟩ (by simp) rfl)
              have d1 := Hd.out ⟨1, .data⟩ (by simp) rfl
              have q1 := q.out
              rw [hd, d1] at q1
              obtain ⟨N, rfl, g2, g3, _, _, g6, _, _, _⟩ := q1.row rfl
              have hown0 := g6 rfl
              refine wpOp_plain ho rfl ?_
              clear ho hd
              refine wp_app_fits w3.heap.size _ _ 64 rfl N 0 [] rfl hown0 ⟨g, o0, none⟩ (n + 1) n (l.take n) Htk.out rfl ((HA3.out.below hX.out).take n) n (Nat.zero_add n) (by have := HnL.out; omega) ?_
              intro W1 hown hg
              rw [List.nil_append] at hown
              have hb := grown_base hown0 hg (Below.size hX.out)
              refine hK _ _ ?_
              exact ⟨_, _, _, _, _, _, _, _, _, _, _, _, _, _, _, _, _, _, _, _, _, _, _, _, _, _, _, _, _, _, _, _, _, _, _, _, _, _, _, _, _, _, _, _, _, _, _, _, _, _, _, _, _, _, _, _, _, _, _, _, _, _, _, _, _, _, _, _, _, _, _, _, _, _, _, _, _, _, _, _, _, _, _, _, _, _, _, _, _, _, _, _, _, _, _, _, _, _, _, _, _, _, _, _, _, _, _, _, _, _, _, _, _, _, Lib.hid (hX.out.trans hb), Lib.hid ((q1.first hown hg _).cast d1.symm rfl rfl), Lib.hid fun h => i0.out h, Lib.hid fun h => i2.out h, Lib.hid fun h => i3.out h, Lib.hid fun _ => rfl, Lib.hid fun h => i6.out h, Lib.hid fun h => i7.out h, Lib.hid fun h => i8.out h, Lib.hid fun h => i9.out h, Lib.hid fun h => i11.out h, Lib.hid fun h => i12.out h, Lib.hid fun h => i13.out h, Lib.hid fun h => i14.out h, Lib.hid fun h => i15.out h, Lib.hid fun h => i16.out h⟩
            · obtain rfl := Option.some.inj ho
              refine wpOp_plain ho rfl ?_
              clear ho hd
              go_wp2
              exact ⟨_, _, _, _, _, _, _, _, _, _, _, _, _, _, _, _, _, _, _, _, _, _, _, _, _, _, _, _, _, _, _, _, _, _, _, _, _, _, _, _, _, _, _, _, _, _, _, _, _, _, _, _, _, _, _, _, _, _, _, _, _, _, _, _, _, _, _, _, _, _, _, _, _, _, _, _, _, _, _, _, _, _, _, _, _, _, _, _, _, _, _, _, _, _, _, _, _, _, _, _, _, _, _, _, _, _, _, _, _, _, _, _, _, _, hX, q, Lib.hid fun h => i0.out h, Lib.hid fun h => i2.out h, Lib.hid fun h => i3.out h, Lib.hid fun h => i4.out h, Lib.hid fun _ => rfl, Lib.hid fun h => i7.out h, Lib.hid fun h => i8.out h, Lib.hid fun h => i9.out h, Lib.hid fun h => i11.out h, Lib.hid fun h => i12.out h, Lib.hid fun h => i13.out h, Lib.hid fun h => i14.out h, Lib.hid fun h => i15.out h, Lib.hid fun h => i16.out h⟩
            · obtain rfl := Option.some.inj ho
              refine wpOp_plain ho rfl ?_
              clear ho hd
              go_wp2
              exact ⟨_, _, _, _, _, _, _, _, _, _, _, _, _, _, _, _, _, _, _, _, _, _, _, _, _, _, _, _, _, _, _, _, _, _, _, _, _, _, _, _, _, _, _, _, _, _, _, _, _, _, _, _, _, _, _, _, _, _, _, _, _, _, _, _, _, _, _, _, _, _, _, _, _, _, _, _, _, _, _, _, _, _, _, _, _, _, _, _, _, _, _, _, _, _, _, _, _, _, _, _, _, _, _, _, _, _, _, _, _, _, _, _, _, _, hX, q, Lib.hid fun h => i0.out h, Lib.hid fun h => i2.out h, Lib.hid fun h => i3.out h, Lib.hid fun h => i4.out h, Lib.hid fun h => i6.out h, Lib.hid fun _ => rfl, Lib.hid fun h => i8.out h, Lib.hid fun h => i9.out h, Lib.hid fun h => i11.out h, Lib.hid fun h => i12.out h, Lib.hid fun h => i13.out h, Lib.hid fun h => i14.out h, Lib.hid fun h => i15.out h, Lib.hid fun h => i16.out h⟩
            · obtain rfl := Option.some.inj ho
              obtain rfl := i7.out (Hd.out ⟨7, .data⟩ (by simp) rfl)
              have s := Hwn.out
              refine wpOp_plain ho rfl ?_
              clear ho hd
              go_wp2
              exact ⟨_, _, _, _, _, _, _, _, _, _, _, _, _, _, _, _, _, _, _, _, _, _, _, _, _, _, _, _, _, _, _, _, _, _, _, _, _, _, _, _, _, _, _, _, _, _, _, _, _, _, _, _, _, _, _, _, _, _, _, _, _, _, _, _, _, _, _, _, _, _, _, _, _, _, _, _, _, _, _, _, _, _, _, _, _, _, _, _, _, _, _, _, _, _, _, _, _, _, _, _, _, _, _, _, _, _, _, _, _, _, _, _, _, _, hX, q, Lib.hid fun h => i0.out h, Lib.hid fun h => i2.out h, Lib.hid fun h => i3.out h, Lib.hid fun h => i4.out h, Lib.hid fun h => i6.out h, Lib.hid fun _ => rfl, Lib.hid fun _ => rfl, Lib.hid fun h => i9.out h, Lib.hid fun h => i11.out h, Lib.hid fun h => i12.out h, Lib.hid fun h => i13.out h, Lib.hid fun h => i14.out h, Lib.hid fun h => i15.out h, Lib.hid fun h => i16.out h⟩
            · obtain rfl := Option.some.inj ho
              obtain rfl := i6.out (Hd.out ⟨6, .data⟩ (by simp) rfl)
              obtain rfl := i8.out (Hd.out ⟨8, .data⟩ (by simp) rfl)
              have s := HnL.out
              have s2 := HLc.out
              skip
              refine wpOp_plain ho rfl ?_
              clear ho hd
              go_wp2
              exact ⟨_, _, _, _, _, _, _, _, _, _, _, _, _, _, _, _, _, _, _, _, _, _, _, _, _, _, _, _, _, _, _, _, _, _, _, _, _, _, _, _, _, _, _, _, _, _, _, _, _, _, _, _, _, _, _, _, _, _, _, _, _, _, _, _, _, _, _, _, _, _, _, _, _, _, _, _, _, _, _, _, _, _, _, _, _, _, _, _, _, _, _, _, _, _, _, _, _, _, _, _, _, _, _, _, _, _, _, _, _, _, _, _, _, _, hX, q, Lib.hid fun h => i0.out h, Lib.hid fun h => i2.out h, Lib.hid fun h => i3.out h, Lib.hid fun h => i4.out h, Lib.hid fun _ => rfl, Lib.hid fun h => i7.out h, Lib.hid fun _ => rfl, Lib.hid fun _ => rfl, Lib.hid fun h => i11.out h, Lib.hid fun h => i12.out h, Lib.hid fun h => i13.out h, Lib.hid fun h => i14.out h, Lib.hid fun h => i15.out h, Lib.hid fun h => i16.out h⟩
            · obtain rfl := Option.some.inj ho
              obtain rfl := i9.out (Hd.out ⟨9, .data⟩ (by simp) rfl)
              have d5 := Hd.out ⟨5, .data⟩ (by simp) rfl
              have q1 := q.out
              have d1 := q1.o5 d5
              rw [hd, d5, d1] at q1
              obtain ⟨N, rfl, g2, g3, g4, _, _, g7, _, _⟩ := q1.row rfl
              obtain rfl := g4 rfl
              have hown0 := g7 rfl rfl
              refine wpOp_plain ho rfl ?_
              clear ho hd
              refine wp_app_fits w3.heap.size _ _ 64 rfl N n (l.take n) rfl hown0 ⟨g, o0, none⟩ 0 0 (l.drop (n + 1)) HD9.out rfl (HDR.out X hX.out) (L - 1) HN9.out (by have := HnL.out; omega) ?_
              intro W1 hown hg
              have hb := grown_base hown0 hg (Below.size hX.out)
              refine hK _ _ ?_
              exact ⟨_, _, _, _, _, _, _, _, _, _, _, _, _, _, _, _, _, _, _, _, _, _, _, _, _, _, _, _, _, _, _, _, _, _, _, _, _, _, _, _, _, _, _, _, _, _, _, _, _, _, _, _, _, _, _, _, _, _, _, _, _, _, _, _, _, _, _, _, _, _, _, _, _, _, _, _, _, _, _, _, _, _, _, _, _, _, _, _, _, _, _, _, _, _, _, _, _, _, _, _, _, _, _, _, _, _, _, _, _, _, _, _, _, _, Lib.hid (hX.out.trans hb), Lib.hid ((q1.last hown hg).cast d1.symm d5.symm rfl), Lib.hid fun h => i0.out h, Lib.hid fun h => i2.out h, Lib.hid fun h => i3.out h, Lib.hid fun h => i4.out h, Lib.hid fun h => i6.out h, Lib.hid fun h => i7.out h, Lib.hid fun h => i8.out h, Lib.hid fun _ => rfl, Lib.hid fun h => i11.out h, Lib.hid fun h => i12.out h, Lib.hid fun h => i13.out h, Lib.hid fun h => i14.out h, Lib.hid fun h => i15.out h, Lib.hid fun h => i16.out h⟩
            · obtain rfl := Option.some.inj ho
              obtain rfl := i0.out (Hd.out ⟨0, .data⟩ (by simp) rfl)
              have d10 := Hd.out ⟨10, .data⟩ (by simp) rfl
              have d5 := q.out.o10 d10
              have d1 := q.out.o5 d5
              obtain ⟨N, g1, g2, g3, _, g5, _, _, g8, _⟩ := q.out.row d1
              obtain rfl := g5 d10
              have hown := g8 d10
              obtain ⟨A2, c2, hv, hr⟩ := own_rects hown Hlen1.out
              cases hv
              have Hr := Lib.hid hr
              clear g1 g2 g3 g5 g8 hown hr d10 d5 d1
              refine wpOp_plain ho rfl ?_
              clear ho hd
              go_wp2_with (go_at_call 19; refine (CL.out _ _ _ Hr.out).mono ?_; rintro e W1 ⟨rfl, hb⟩)
              exact ⟨_, _, _, _, _, _, _, _, _, _, _, _, _, _, _, _, _, _, _, _, _, _, _, _, _, _, _, _, _, _, _, _, _, _, _, _, _, _, _, _, _, _, _, _, _, _, _, _, _, _, _, _, _, _, _, _, _, _, _, _, _, _, _, _, _, _, _, _, _, _, _, _, _, _, _, _, _, _, _, _, _, _, _, _, _, _, _, _, _, _, _, _, _, _, _, _, _, _, _, _, _, _, _, _, _, _, _, _, _, _, _, _, _, _, Lib.hid (hX.out.trans (hb.mono hX.out.size)), Lib.hid (q.out.turn hb), Lib.hid fun _ => rfl, Lib.hid fun h => i2.out h, Lib.hid fun h => i3.out h, Lib.hid fun h => i4.out h, Lib.hid fun h => i6.out h, Lib.hid fun h => i7.out h, Lib.hid fun h => i8.out h, Lib.hid fun h => i9.out h, Lib.hid fun _ => rfl, Lib.hid fun h => i12.out h, Lib.hid fun h => i13.out h, Lib.hid fun h => i14.out h, Lib.hid fun h => i15.out h, Lib.hid fun h => i16.out h⟩
            · obtain rfl := Option.some.inj ho
              obtain rfl := i11.out (Hd.out ⟨11, .data⟩ (by simp) rfl)
              refine wpOp_plain ho rfl ?_
              clear ho hd
              go_wp2
              exact ⟨_, _, _, _, _, _, _, _, _, _, _, _, _, _, _, _, _, _, _, _, _, _, _, _, _, _, _, _, _, _, _, _, _, _, _, _, _, _, _, _, _, _, _, _, _, _, _, _, _, _, _, _, _, _, _, _, _, _, _, _, _, _, _, _, _, _, _, _, _, _, _, _, _, _, _, _, _, _, _, _, _, _, _, _, _, _, _, _, _, _, _, _, _, _, _, _, _, _, _, _, _, _, _, _, _, _, _, _, _, _, _, _, _, _, hX, q, Lib.hid fun h => i0.out h, Lib.hid fun h => i2.out h, Lib.hid fun h => i3.out h, Lib.hid fun h => i4.out h, Lib.hid fun h => i6.out h, Lib.hid fun h => i7.out h, Lib.hid fun h => i8.out h, Lib.hid fun h => i9.out h, Lib.hid fun _ => rfl, Lib.hid fun _ => rfl, Lib.hid fun h => i13.out h, Lib.hid fun h => i14.out h, Lib.hid fun h => i15.out h, Lib.hid fun h => i16.out h⟩
            · obtain rfl := Option.some.inj ho
              obtain rfl := i12.out (Hd.out ⟨12, .data⟩ (by simp) rfl)
              refine wpOp_plain ho rfl ?_
              clear ho hd
              go_wp2
              exact ⟨_, _, _, _, _, _, _, _, _, _, _, _, _, _, _, _, _, _, _, _, _, _, _, _, _, _, _, _, _, _, _, _, _, _, _, _, _, _, _, _, _, _, _, _, _, _, _, _, _, _, _, _, _, _, _, _, _, _, _, _, _, _, _, _, _, _, _, _, _, _, _, _, _, _, _, _, _, _, _, _, _, _, _, _, _, _, _, _, _, _, _, _, _, _, _, _, _, _, _, _, _, _, _, _, _, _, _, _, _, _, _, _, _, _, hX, q, Lib.hid fun h => i0.out h, Lib.hid fun h => i2.out h, Lib.hid fun h => i3.out h, Lib.hid fun h => i4.out h, Lib.hid fun h => i6.out h, Lib.hid fun h => i7.out h, Lib.hid fun h => i8.out h, Lib.hid fun h => i9.out h, Lib.hid fun h => i11.out h, Lib.hid fun _ => rfl, Lib.hid fun _ => rfl, Lib.hid fun h => i14.out h, Lib.hid fun h => i15.out h, Lib.hid fun h => i16.out h⟩
            · obtain rfl := Option.some.inj ho
              obtain rfl := i12.out (Hd.out ⟨12, .data⟩ (by simp) rfl)
              refine wpOp_plain ho rfl ?_
              clear ho hd
              go_wp2
              exact ⟨_, _, _, _, _, _, _, _, _, _, _, _, _, _, _, _, _, _, _, _, _, _, _, _, _, _, _, _, _, _, _, _, _, _, _, _, _, _, _, _, _, _, _, _, _, _, _, _, _, _, _, _, _, _, _, _, _, _, _, _, _, _, _, _, _, _, _, _, _, _, _, _, _, _, _, _, _, _, _, _, _, _, _, _, _, _, _, _, _, _, _, _, _, _, _, _, _, _, _, _, _, _, _, _, _, _, _, _, _, _, _, _, _, _, hX, q, Lib.hid fun h => i0.out h, Lib.hid fun h => i2.out h, Lib.hid fun h => i3.out h, Lib.hid fun h => i4.out h, Lib.hid fun h => i6.out h, Lib.hid fun h => i7.out h, Lib.hid fun h => i8.out h, Lib.hid fun h => i9.out h, Lib.hid fun h => i11.out h, Lib.hid fun _ => rfl, Lib.hid fun h => i13.out h, Lib.hid fun _ => rfl, Lib.hid fun h => i15.out h, Lib.hid fun h => i16.out h⟩
            · obtain rfl := Option.some.inj ho
              obtain rfl := i13.out (Hd.out ⟨13, .data⟩ (by simp) rfl)
              refine wpOp_plain ho rfl ?_
              clear ho hd
              go_wp2
              exact ⟨_, _, _, _, _, _, _, _, _, _, _, _, _, _, _, _, _, _, _, _, _, _, _, _, _, _, _, _, _, _, _, _, _, _, _, _, _, _, _, _, _, _, _, _, _, _, _, _, _, _, _, _, _, _, _, _, _, _, _, _, _, _, _, _, _, _, _, _, _, _, _, _, _, _, _, _, _, _, _, _, _, _, _, _, _, _, _, _, _, _, _, _, _, _, _, _, _, _, _, _, _, _, _, _, _, _, _, _, _, _, _, _, _, _, hX, q, Lib.hid fun h => i0.out h, Lib.hid fun h => i2.out h, Lib.hid fun h => i3.out h, Lib.hid fun h => i4.out h, Lib.hid fun h => i6.out h, Lib.hid fun h => i7.out h, Lib.hid fun h => i8.out h, Lib.hid fun h => i9.out h, Lib.hid fun h => i11.out h, Lib.hid fun h => i12.out h, Lib.hid fun _ => rfl, Lib.hid fun h => i14.out h, Lib.hid fun _ => rfl, Lib.hid fun h => i16.out h⟩
            · obtain rfl := Option.some.inj ho
              obtain rfl := i14.out (Hd.out ⟨14, .data⟩ (by simp) rfl)
              refine wpOp_plain ho rfl ?_
              clear ho hd
              go_wp2
              exact ⟨_, _, _, _, _, _, _, _, _, _, _, _, _, _, _, _, _, _, _, _, _, _, _, _, _, _, _, _, _, _, _, _, _, _, _, _, _, _, _, _, _, _, _, _, _, _, _, _, _, _, _, _, _, _, _, _, _, _, _, _, _, _, _, _, _, _, _, _, _, _, _, _, _, _, _, _, _, _, _, _, _, _, _, _, _, _, _, _, _, _, _, _, _, _, _, _, _, _, _, _, _, _, _, _, _, _, _, _, _, _, _, _, _, _, hX, q, Lib.hid fun h => i0.out h, Lib.hid fun h => i2.out h, Lib.hid fun h => i3.out h, Lib.hid fun h => i4.out h, Lib.hid fun h => i6.out h, Lib.hid fun h => i7.out h, Lib.hid fun h => i8.out h, Lib.hid fun h => i9.out h, Lib.hid fun h => i11.out h, Lib.hid fun h => i12.out h, Lib.hid fun h => i13.out h, Lib.hid fun _ => rfl, Lib.hid fun h => i15.out h, Lib.hid fun _ => rfl⟩
          · rintro done a X hall ⟨v20, v21, v107, v108, v109, v110, v111, v112, v113, v114, v115, v116, v117, v118, v119, v120, v121, f0, f1, f2, f3, f4, f5, f6, f9, f10, f11, f12, f13, f14, f15, f24, f25, f26, f27, f28, f29, f30, f31, f32, f33, f34, f35, f36, f37, f38, f39, f40, f41, f42, f43, f44, f45, f46, f47, f48, f49, f50, f51, f52, f53, f54, f55, f56, f57, f58, f59, f60, f61, f62, f63, f64, f65, f66, f67, f68, f69, f70, f71, f72, f73, f74, f75, f76, f77, f78, f79, f80, f81, f82, f83, f84, f85, f86, f87, f88, f89, f90, f91, f92, f93, f94, f95, f96, f97, f98, f99, f100, f101, f102, f103, f104, f105, f106, hX, q, i0, i2, i3, i4, i6, i7, i8, i9, i11, i12, i13, i14, i15, i16⟩
            obtain rfl := i0.out (hall 0 (by simp))
            obtain rfl := i2.out (hall 2 (by simp))
            obtain rfl := i3.out (hall 3 (by simp))
            obtain rfl := i4.out (hall 4 (by simp))
            obtain rfl := i6.out (hall 6 (by simp))
            obtain rfl := i7.out (hall 7 (by simp))
            obtain rfl := i8.out (hall 8 (by simp))
            obtain rfl := i9.out (hall 9 (by simp))
            obtain rfl := i11.out (hall 11 (by simp))
            obtain rfl := i12.out (hall 12 (by simp))
            obtain rfl := i13.out (hall 13 (by simp))
            obtain rfl := i14.out (hall 14 (by simp))
            obtain rfl := i15.out (hall 15 (by simp))
            obtain rfl := i16.out (hall 16 (by simp))
            clear i0 i2 i3 i4 i6 i7 i8 i9 i11 i12 i13 i14 i15 i16
            have HA4 := Lib.hid (HA3.out.below hX.out)
            have HR4 := Lib.hid (HR3.out.turn hX.out)
            have HB4 := Lib.hid (HB3.out.trans (hX.out.mono HB3.out.size))
            clear q hX hall A0 A1 A2 A3 HA3 HR3 HB3 CL
            obtain ⟨w4, hw4⟩ : ∃ w4, w4 = X := ⟨_, rfl⟩
            subst hw4
            have A0 := Lib.hid HR4.out.cells.1
            have A1 := Lib.hid HR4.out.cells.2.1
            have A2 := Lib.hid HR4.out.cells.2.2.1
            have A3 := Lib.hid HR4.out.cells.2.2.2
            have hel := HA4.out.cells_at (k := n) (by rw [Hgl.out]; exact Hn.out)
            have E0 := Lib.hid hel.1
            have E1 := Lib.hid hel.2.1
            have E2 := Lib.hid hel.2.2.1
            have E3 := Lib.hid hel.2.2.2
            dsimp only at A0 A1 A2 A3
            clear hel
            dsimp only
            go_wp2_with (fail)
            refine wp_region_done2 (by kernel_rfl) (by kernel_rfl) (G26 w4 bR g o0 (n + 1) n L l W0 Y ⟨g, o0, none⟩ 0 0) ?_ ?_ ?_
            · exact ⟨_, _, _, _, _, _, _, _, _, _, _, _, _, _, _, _, _, _, _, _, _, _, _, _, _, _, _, _, _, _, _, _, _, _, _, _, _, _, _, _, _, _, _, _, _, _, _, _, _, _, _, _, _, _, _, _, _, _, _, _, _, _, _, _, _, _, _, _, _, _, _, _, _, _, _, _, _, _, _, _, _, _, _, _, _, _, _, _, _, _, _, _, _, _, _, _, _, _, _, _, _, _, _, _, _, _, _, _, _, _, _, _, _, _, _, _, _, _, _, _, _, _, _, _, _, _, _, _, Lib.hid (Below.refl _ w4).drew, Lib.hid (Row2.none_yet (Nat.le_refl _)), Lib.hid fun h => by simp at h, Lib.hid fun h => by simp at h, Lib.hid fun h => by simp at h, Lib.hid fun h => by simp at h, Lib.hid fun h => by simp at h, Lib.hid fun h => by simp at h, Lib.hid fun h => by simp at h, Lib.hid fun h => by simp at h, Lib.hid fun h => by simp at h, Lib.hid fun h => by simp at h, Lib.hid fun h => by simp at h, Lib.hid fun h => by simp at h⟩
            · rintro done i o a X ho hd he ⟨v22, v23, v122, v123, v124, v125, v126, v127, v128, v129, v130, v131, v132, v133, v134, v135, f0, f1, f2, f3, f4, f5, f6, f9, f10, f11, f12, f13, f14, f15, f24, f25, f26, f27, f28, f29, f30, f31, f32, f33, f34, f35, f36, f37, f38, f39, f40, f41, f42, f43, f44, f45, f46, f47, f48, f49, f50, f51, f52, f53, f54, f55, f56, f57, f58, f59, f60, f61, f62, f63, f64, f65, f66, f67, f68, f69, f70, f71, f72, f73, f74, f75, f76, f77, f78, f79, f80, f81, f82, f83, f84, f85, f86, f87, f88, f89, f90, f91, f92, f93, f94, f95, f96, f97, f98, f99, f100, f101, f102, f103, f104, f105, f106, f107, f108, f109, f110, f111, f112, f113, f114, f115, f116, f117, f118, f119, f120, f121, hX, q, i0, i2, i4, i5, i6, i7, i10, i11, i12, i13, i14, i15⟩ K hK
              have Hd := Lib.hid he
              clear he
              rcases i with _ | _ | _ | _ | _ | _ | _ | _ | _ | _ | _ | _ | _ | _ | _ | _ | i
              rotate_left 16
              · exact absurd (Array.getElem?_eq_some_iff.1 ho).1 (by simp)
              · obtain rfl := Option.some.inj ho
                have s0 := rd hX.out A0.out
                have s1 := rd hX.out A1.out
                have s2 := rd hX.out A2.out
                have s3 := rd hX.out A3.out
                refine wpOp_plain ho rfl ?_
                clear ho hd
                go_wp2
                exact ⟨_, _, _, _, _, _, _, _, _, _, _, _, _, _, _, _, _, _, _, _, _, _, _, _, _, _, _, _, _, _, _, _, _, _, _, _, _, _, _, _, _, _, _, _, _, _, _, _, _, _, _, _, _, _, _, _, _, _, _, _, _, _, _, _, _, _, _, _, _, _, _, _, _, _, _, _, _, _, _, _, _, _, _, _, _, _, _, _, _, _, _, _, _, _, _, _, _, _, _, _, _, _, _, _, _, _, _, _, _, _, _, _, _, _, _, _, _, _, _, _, _, _, _, _, _, _, _, _, hX, q, Lib.hid fun _ => rfl, Lib.hid fun h => i2.out h, Lib.hid fun h => i4.out h, Lib.hid fun h => i5.out h, Lib.hid fun h => i6.out h, Lib.hid fun h => i7.out h, Lib.hid fun h => i10.out h, Lib.hid fun h => i11.out h, Lib.hid fun h => i12.out h, Lib.hid fun h => i13.out h, Lib.hid fun h => i14.out h, Lib.hid fun h => i15.out h⟩
              · obtain rfl := Option.some.inj ho
                have q1 := q.out
                rw [hd] at q1
                have Q1 := Lib.hid q1
                clear q1
                refine wpOp_plain ho rfl ?_
                clear ho hd
                refine wp_make_rects w4.heap.size _ _ 65 rfl rfl rfl (by decide) Q1.out.le ?_
                intro W1 hown hg
                have hb : Below X.heap.size X W1 := ⟨hg.os, hg.tape, hg.output, hg.size, fun q hq => hg.block q hq (by simp)⟩
                refine hK _ _ ?_
                exact ⟨_, _, _, _, _, _, _, _, _, _, _, _, _, _, _, _, _, _, _, _, _, _, _, _, _, _, _, _, _, _, _, _, _, _, _, _, _, _, _, _, _, _, _, _, _, _, _, _, _, _, _, _, _, _, _, _, _, _, _, _, _, _, _, _, _, _, _, _, _, _, _, _, _, _, _, _, _, _, _, _, _, _, _, _, _, _, _, _, _, _, _, _, _, _, _, _, _, _, _, _, _, _, _, _, _, _, _, _, _, _, _, _, _, _, _, _, _, _, _, _, _, _, _, _, _, _, _, _, Lib.hid (hX.out.trans (hb.mono hX.out.size)), Lib.hid (Q1.out.make hown hg _ _), Lib.hid fun h => i0.out h, Lib.hid fun h => i2.out h, Lib.hid fun h => i4.out h, Lib.hid fun h => i5.out h, Lib.hid fun h => i6.out h, Lib.hid fun h => i7.out h, Lib.hid fun h => i10.out h, Lib.hid fun h => i11.out h, Lib.hid fun h => i12.out h, Lib.hid fun h => i13.out h, Lib.hid fun h => i14.out h, Lib.hid fun h => i15.out h⟩
              · obtain rfl := Option.some.inj ho
                refine wpOp_plain ho rfl ?_
                clear ho hd
                go_wp2
                exact ⟨_, _, _, _, _, _, _, _, _, _, _, _, _, _, _, _, _, _, _, _, _, _, _, _, _, _, _, _, _, _, _, _, _, _, _, _, _, _, _, _, _, _, _, _, _, _, _, _, _, _, _, _, _, _, _, _, _, _, _, _, _, _, _, _, _, _, _, _, _, _, _, _, _, _, _, _, _, _, _, _, _, _, _, _, _, _, _, _, _, _, _, _, _, _, _, _, _, _, _, _, _, _, _, _, _, _, _, _, _, _, _, _, _, _, _, _, _, _, _, _, _, _, _, _, _, _, _, _, hX, q, Lib.hid fun h => i0.out h, Lib.hid fun _ => rfl, Lib.hid fun h => i4.out h, Lib.hid fun h => i5.out h, Lib.hid fun h => i6.out h, Lib.hid fun h => i7.out h, Lib.hid fun h => i10.out h, Lib.hid fun h => i11.out h, Lib.hid fun h => i12.out h, Lib.hid fun h => i13.out h, Lib.hid fun h => i14.out h, Lib.hid fun h => i15.out h⟩
              · obtain rfl := Option.some.inj ho
                obtain rfl := i2.out (Hd.out ⟨2, .data⟩ (by simp) rfl)
                have d1 := Hd.out ⟨1, .data⟩ (by simp) rfl
                have q1 := q.out
                rw [hd, d1] at q1
                obtain ⟨N, rfl, g2, g3, _, _, g6, _, _, _⟩ := q1.row rfl
                have hown0 := g6 rfl
                refine wpOp_plain ho rfl ?_
                clear ho hd
                refine wp_app_fits w4.heap.size _ _ 65 rfl N 0 [] rfl hown0 ⟨g, o0, none⟩ (n + 1) L l Hgl.out rfl (HA4.out.below hX.out) L (Nat.zero_add L) (by omega) ?_
                intro W1 hown hg
                rw [List.nil_append] at hown
                have hb := grown_base hown0 hg (Below.size hX.out)
                refine hK _ _ ?_
                exact ⟨_, _, _, _, _, _, _, _, _, _, _, _, _, _, _, _, _, _, _, _, _, _, _, _, _, _, _, _, _, _, _, _, _, _, _, _, _, _, _, _, _, _, _, _, _, _, _, _, _, _, _, _, _, _, _, _, _, _, _, _, _, _, _, _, _, _, _, _, _, _, _, _, _, _, _, _, _, _, _, _, _, _, _, _, _, _, _, _, _, _, _, _, _, _, _, _, _, _, _, _, _, _, _, _, _, _, _, _, _, _, _, _, _, _, _, _, _, _, _, _, _, _, _, _, _, _, _, _, Lib.hid (hX.out.trans hb), Lib.hid ((q1.first hown hg _).cast d1.symm rfl rfl), Lib.hid fun h => i0.out h, Lib.hid fun _ => rfl, Lib.hid fun h => i4.out h, Lib.hid fun h => i5.out h, Lib.hid fun h => i6.out h, Lib.hid fun h => i7.out h, Lib.hid fun h => i10.out h, Lib.hid fun h => i11.out h, Lib.hid fun h => i12.out h, Lib.hid fun h => i13.out h, Lib.hid fun h => i14.out h, Lib.hid fun h => i15.out h⟩
              · obtain rfl := Option.some.inj ho
                refine wpOp_plain ho rfl ?_
                clear ho hd
                go_wp2
                exact ⟨_, _, _, _, _, _, _, _, _, _, _, _, _, _, _, _, _, _, _, _, _, _, _, _, _, _, _, _, _, _, _, _, _, _, _, _, _, _, _, _, _, _, _, _, _, _, _, _, _, _, _, _, _, _, _, _, _, _, _, _, _, _, _, _, _, _, _, _, _, _, _, _, _, _, _, _, _, _, _, _, _, _, _, _, _, _, _, _, _, _, _, _, _, _, _, _, _, _, _, _, _, _, _, _, _, _, _, _, _, _, _, _, _, _, _, _, _, _, _, _, _, _, _, _, _, _, _, _, hX, q, Lib.hid fun h => i0.out h, Lib.hid fun h => i2.out h, Lib.hid fun _ => rfl, Lib.hid fun h => i5.out h, Lib.hid fun h => i6.out h, Lib.hid fun h => i7.out h, Lib.hid fun h => i10.out h, Lib.hid fun h => i11.out h, Lib.hid fun h => i12.out h, Lib.hid fun h => i13.out h, Lib.hid fun h => i14.out h, Lib.hid fun h => i15.out h⟩
              · obtain rfl := Option.some.inj ho
                refine wpOp_plain ho rfl ?_
                clear ho hd
                go_wp2
                exact ⟨_, _, _, _, _, _, _, _, _, _, _, _, _, _, _, _, _, _, _, _, _, _, _, _, _, _, _, _, _, _, _, _, _, _, _, _, _, _, _, _, _, _, _, _, _, _, _, _, _, _, _, _, _, _, _, _, _, _, _, _, _, _, _, _, _, _, _, _, _, _, _, _, _, _, _, _, _, _, _, _, _, _, _, _, _, _, _, _, _, _, _, _, _, _, _, _, _, _, _, _, _, _, _, _, _, _, _, _, _, _, _, _, _, _, _, _, _, _, _, _, _, _, _, _, _, _, _, _, hX, q, Lib.hid fun h => i0.out h, Lib.hid fun h => i2.out h, Lib.hid fun h => i4.out h, Lib.hid fun _ => rfl, Lib.hid fun h => i6.out h, Lib.hid fun h => i7.out h, Lib.hid fun h => i10.out h, Lib.hid fun h => i11.out h, Lib.hid fun h => i12.out h, Lib.hid fun h => i13.out h, Lib.hid fun h => i14.out h, Lib.hid fun h => i15.out h⟩
              · obtain rfl := Option.some.inj ho
                obtain rfl := i4.out (Hd.out ⟨4, .data⟩ (by simp) rfl)
                obtain rfl := i5.out (Hd.out ⟨5, .data⟩ (by simp) rfl)
                have s := HnL.out
                have ti : decide ((n : Int) < (L : Int)) = true := decide_eq_true (by omega)
                refine wpOp_plain ho rfl ?_
                clear ho hd
                go_wp2
                exact ⟨_, _, _, _, _, _, _, _, _, _, _, _, _, _, _, _, _, _, _, _, _, _, _, _, _, _, _, _, _, _, _, _, _, _, _, _, _, _, _, _, _, _, _, _, _, _, _, _, _, _, _, _, _, _, _, _, _, _, _, _, _, _, _, _, _, _, _, _, _, _, _, _, _, _, _, _, _, _, _, _, _, _, _, _, _, _, _, _, _, _, _, _, _, _, _, _, _, _, _, _, _, _, _, _, _, _, _, _, _, _, _, _, _, _, _, _, _, _, _, _, _, _, _, _, _, _, _, _, hX, q, Lib.hid fun h => i0.out h, Lib.hid fun h => i2.out h, Lib.hid fun _ => rfl, Lib.hid fun _ => rfl, Lib.hid fun _ => rfl, Lib.hid fun h => i7.out h, Lib.hid fun h => i10.out h, Lib.hid fun h => i11.out h, Lib.hid fun h => i12.out h, Lib.hid fun h => i13.out h, Lib.hid fun h => i14.out h, Lib.hid fun h => i15.out h⟩
              · obtain rfl := Option.some.inj ho
                obtain rfl := i6.out (Hd.out ⟨6, .data⟩ (by simp) rfl)
                have s0 := rd hX.out E0.out
                have s1 := rd hX.out E1.out
                have s2 := rd hX.out E2.out
                have s3 := rd hX.out E3.out
                refine wpOp_plain ho rfl ?_
                clear ho hd
                go_wp2
                exact ⟨_, _, _, _, _, _, _, _, _, _, _, _, _, _, _, _, _, _, _, _, _, _, _, _, _, _, _, _, _, _, _, _, _, _, _, _, _, _, _, _, _, _, _, _, _, _, _, _, _, _, _, _, _, _, _, _, _, _, _, _, _, _, _, _, _, _, _, _, _, _, _, _, _, _, _, _, _, _, _, _, _, _, _, _, _, _, _, _, _, _, _, _, _, _, _, _, _, _, _, _, _, _, _, _, _, _, _, _, _, _, _, _, _, _, _, _, _, _, _, _, _, _, _, _, _, _, _, _, hX, q, Lib.hid fun h => i0.out h, Lib.hid fun h => i2.out h, Lib.hid fun h => i4.out h, Lib.hid fun h => i5.out h, Lib.hid fun _ => rfl, Lib.hid fun _ => rfl, Lib.hid fun h => i10.out h, Lib.hid fun h => i11.out h, Lib.hid fun h => i12.out h, Lib.hid fun h => i13.out h, Lib.hid fun h => i14.out h, Lib.hid fun h => i15.out h⟩
              · obtain rfl := Option.some.inj ho
                obtain rfl := i7.out (Hd.out ⟨7, .data⟩ (by simp) rfl)
                refine wpOp_plain ho rfl ?_
                clear ho hd
                go_wp2
                exact ⟨_, _, _, _, _, _, _, _, _, _, _, _, _, _, _, _, _, _, _, _, _, _, _, _, _, _, _, _, _, _, _, _, _, _, _, _, _, _, _, _, _, _, _, _, _, _, _, _, _, _, _, _, _, _, _, _, _, _, _, _, _, _, _, _, _, _, _, _, _, _, _, _, _, _, _, _, _, _, _, _, _, _, _, _, _, _, _, _, _, _, _, _, _, _, _, _, _, _, _, _, _, _, _, _, _, _, _, _, _, _, _, _, _, _, _, _, _, _, _, _, _, _, _, _, _, _, _, _, Lib.hid (hX.out.alloc hX.out.size _), Lib.hid q.out.build, Lib.hid fun h => i0.out h, Lib.hid fun h => i2.out h, Lib.hid fun h => i4.out h, Lib.hid fun h => i5.out h, Lib.hid fun h => i6.out h, Lib.hid fun _ => rfl, Lib.hid fun h => i10.out h, Lib.hid fun h => i11.out h, Lib.hid fun h => i12.out h, Lib.hid fun h => i13.out h, Lib.hid fun h => i14.out h, Lib.hid fun h => i15.out h⟩
              · obtain rfl := Option.some.inj ho
                have d5 := Hd.out ⟨3, .data⟩ (by simp) rfl
                have d8 := Hd.out ⟨8, .data⟩ (by simp) rfl
                have q1 := q.out
                have d1 := q1.o5 d5
                rw [hd, d5, d1] at q1
                obtain ⟨N, rfl, g2, g3, g4, _, _, g7, _, _⟩ := q1.row rfl
                obtain rfl := g4 rfl
                have hown0 := g7 rfl rfl
                obtain ⟨M, rfl, gm⟩ := q1.one d8
                refine wpOp_plain ho rfl ?_
                clear ho hd
                refine wp_app_fits w4.heap.size _ _ 65 rfl N L l rfl hown0 ⟨M, 0, none⟩ 1 1 [l[n]?.getD default] rfl rfl (rects_flat (row_news gm)) (L + 1) rfl (by omega) ?_
                intro W1 hown hg
                have hb := grown_base hown0 hg (Below.size hX.out)
                refine hK _ _ ?_
                exact ⟨_, _, _, _, _, _, _, _, _, _, _, _, _, _, _, _, _, _, _, _, _, _, _, _, _, _, _, _, _, _, _, _, _, _, _, _, _, _, _, _, _, _, _, _, _, _, _, _, _, _, _, _, _, _, _, _, _, _, _, _, _, _, _, _, _, _, _, _, _, _, _, _, _, _, _, _, _, _, _, _, _, _, _, _, _, _, _, _, _, _, _, _, _, _, _, _, _, _, _, _, _, _, _, _, _, _, _, _, _, _, _, _, _, _, _, _, _, _, _, _, _, _, _, _, _, _, _, _, Lib.hid (hX.out.trans hb), Lib.hid ((q1.last hown hg).cast d1.symm d5.symm rfl), Lib.hid fun h => i0.out h, Lib.hid fun h => i2.out h, Lib.hid fun h => i4.out h, Lib.hid fun h => i5.out h, Lib.hid fun h => i6.out h, Lib.hid fun h => i7.out h, Lib.hid fun h => i10.out h, Lib.hid fun h => i11.out h, Lib.hid fun h => i12.out h, Lib.hid fun h => i13.out h, Lib.hid fun h => i14.out h, Lib.hid fun h => i15.out h⟩
              · obtain rfl := Option.some.inj ho
                obtain rfl := i0.out (Hd.out ⟨0, .data⟩ (by simp) rfl)
                have d10 := Hd.out ⟨9, .data⟩ (by simp) rfl
                have d5 := q.out.o10 d10
                have d1 := q.out.o5 d5
                obtain ⟨N, g1, g2, g3, _, g5, _, _, g8, _⟩ := q.out.row d1
                obtain rfl := g5 d10
                have hown := g8 d10
                obtain ⟨A2, c2, hv, hr⟩ := own_rects hown Hlen2.out
                cases hv
                have Hr := Lib.hid hr
                clear g1 g2 g3 g5 g8 hown hr d10 d5 d1
                refine wpOp_plain ho rfl ?_
                clear ho hd
                go_wp2_with (go_at_call 19; refine (CM.out _ _ _ Hr.out).mono ?_; rintro e W1 ⟨rfl, hb⟩)
                exact ⟨_, _, _, _, _, _, _, _, _, _, _, _, _, _, _, _, _, _, _, _, _, _, _, _, _, _, _, _, _, _, _, _, _, _, _, _, _, _, _, _, _, _, _, _, _, _, _, _, _, _, _, _, _, _, _, _, _, _, _, _, _, _, _, _, _, _, _, _, _, _, _, _, _, _, _, _, _, _, _, _, _, _, _, _, _, _, _, _, _, _, _, _, _, _, _, _, _, _, _, _, _, _, _, _, _, _, _, _, _, _, _, _, _, _, _, _, _, _, _, _, _, _, _, _, _, _, _, _, Lib.hid (hX.out.trans (hb.mono hX.out.size)), Lib.hid (q.out.turn hb), Lib.hid fun _ => rfl, Lib.hid fun h => i2.out h, Lib.hid fun h => i4.out h, Lib.hid fun h => i5.out h, Lib.hid fun h => i6.out h, Lib.hid fun h => i7.out h, Lib.hid fun _ => rfl, Lib.hid fun h => i11.out h, Lib.hid fun h => i12.out h, Lib.hid fun h => i13.out h, Lib.hid fun h => i14.out h, Lib.hid fun h => i15.out h⟩
              · obtain rfl := Option.some.inj ho
                obtain rfl := i10.out (Hd.out ⟨10, .data⟩ (by simp) rfl)
                refine wpOp_plain ho rfl ?_
                clear ho hd
                go_wp2
                exact ⟨_, _, _, _, _, _, _, _, _, _, _, _, _, _, _, _, _, _, _, _, _, _, _, _, _, _, _, _, _, _, _, _, _, _, _, _, _, _, _, _, _, _, _, _, _, _, _, _, _, _, _, _, _, _, _, _, _, _, _, _, _, _, _, _, _, _, _, _, _, _, _, _, _, _, _, _, _, _, _, _, _, _, _, _, _, _, _, _, _, _, _, _, _, _, _, _, _, _, _, _, _, _, _, _, _, _, _, _, _, _, _, _, _, _, _, _, _, _, _, _, _, _, _, _, _, _, _, _, hX, q, Lib.hid fun h => i0.out h, Lib.hid fun h => i2.out h, Lib.hid fun h => i4.out h, Lib.hid fun h => i5.out h, Lib.hid fun h => i6.out h, Lib.hid fun h => i7.out h, Lib.hid fun _ => rfl, Lib.hid fun _ => rfl, Lib.hid fun h => i12.out h, Lib.hid fun h => i13.out h, Lib.hid fun h => i14.out h, Lib.hid fun h => i15.out h⟩
              · obtain rfl := Option.some.inj ho
                obtain rfl := i11.out (Hd.out ⟨11, .data⟩ (by simp) rfl)
                refine wpOp_plain ho rfl ?_
                clear ho hd
                go_wp2
                exact ⟨_, _, _, _, _, _, _, _, _, _, _, _, _, _, _, _, _, _, _, _, _, _, _, _, _, _, _, _, _, _, _, _, _, _, _, _, _, _, _, _, _, _, _, _, _, _, _, _, _, _, _, _, _, _, _, _, _, _, _, _, _, _, _, _, _, _, _, _, _, _, _, _, _, _, _, _, _, _, _, _, _, _, _, _, _, _, _, _, _, _, _, _, _, _, _, _, _, _, _, _, _, _, _, _, _, _, _, _, _, _, _, _, _, _, _, _, _, _, _, _, _, _, _, _, _, _, _, _, hX, q, Lib.hid fun h => i0.out h, Lib.hid fun h => i2.out h, Lib.hid fun h => i4.out h, Lib.hid fun h => i5.out h, Lib.hid fun h => i6.out h, Lib.hid fun h => i7.out h, Lib.hid fun h => i10.out h, Lib.hid fun _ => rfl, Lib.hid fun _ => rfl, Lib.hid fun h => i13.out h, Lib.hid fun h => i14.out h, Lib.hid fun h => i15.out h⟩
              · obtain rfl := Option.some.inj ho
                obtain rfl := i11.out (Hd.out ⟨11, .data⟩ (by simp) rfl)
                refine wpOp_plain ho rfl ?_
                clear ho hd
                go_wp2
                exact ⟨_, _, _, _, _, _, _, _, _, _, _, _, _, _, _, _, _, _, _, _, _, _, _, _, _, _, _, _, _, _, _, _, _, _, _, _, _, _, _, _, _, _, _, _, _, _, _, _, _, _, _, _, _, _, _, _, _, _, _, _, _, _, _, _, _, _, _, _, _, _, _, _, _, _, _, _, _, _, _, _, _, _, _, _, _, _, _, _, _, _, _, _, _, _, _, _, _, _, _, _, _, _, _, _, _, _, _, _, _, _, _, _, _, _, _, _, _, _, _, _, _, _, _, _, _, _, _, _, hX, q, Lib.hid fun h => i0.out h, Lib.hid fun h => i2.out h, Lib.hid fun h => i4.out h, Lib.hid fun h => i5.out h, Lib.hid fun h => i6.out h, Lib.hid fun h => i7.out h, Lib.hid fun h => i10.out h, Lib.hid fun _ => rfl, Lib.hid fun h => i12.out h, Lib.hid fun _ => rfl, Lib.hid fun h => i14.out h, Lib.hid fun h => i15.out h⟩
              · obtain rfl := Option.some.inj ho
                obtain rfl := i12.out (Hd.out ⟨12, .data⟩ (by simp) rfl)
                refine wpOp_plain ho rfl ?_
                clear ho hd
                go_wp2
                exact ⟨_, _, _, _, _, _, _, _, _, _, _, _, _, _, _, _, _, _, _, _, _, _, _, _, _, _, _, _, _, _, _, _, _, _, _, _, _, _, _, _, _, _, _, _, _, _, _, _, _, _, _, _, _, _, _, _, _, _, _, _, _, _, _, _, _, _, _, _, _, _, _, _, _, _, _, _, _, _, _, _, _, _, _, _, _, _, _, _, _, _, _, _, _, _, _, _, _, _, _, _, _, _, _, _, _, _, _, _, _, _, _, _, _, _, _, _, _, _, _, _, _, _, _, _, _, _, _, _, hX, q, Lib.hid fun h => i0.out h, Lib.hid fun h => i2.out h, Lib.hid fun h => i4.out h, Lib.hid fun h => i5.out h, Lib.hid fun h => i6.out h, Lib.hid fun h => i7.out h, Lib.hid fun h => i10.out h, Lib.hid fun h => i11.out h, Lib.hid fun _ => rfl, Lib.hid fun h => i13.out h, Lib.hid fun _ => rfl, Lib.hid fun h => i15.out h⟩
              · obtain rfl := Option.some.inj ho
                obtain rfl := i13.out (Hd.out ⟨13, .data⟩ (by simp) rfl)
                refine wpOp_plain ho rfl ?_
                clear ho hd
                go_wp2
                exact ⟨_, _, _, _, _, _, _, _, _, _, _, _, _, _, _, _, _, _, _, _, _, _, _, _, _, _, _, _, _, _, _, _, _, _, _, _, _, _, _, _, _, _, _, _, _, _, _, _, _, _, _, _, _, _, _, _, _, _, _, _, _, _, _, _, _, _, _, _, _, _, _, _, _, _, _, _, _, _, _, _, _, _, _, _, _, _, _, _, _, _, _, _, _, _, _, _, _, _, _, _, _, _, _, _, _, _, _, _, _, _, _, _, _, _, _, _, _, _, _, _, _, _, _, _, _, _, _, _, hX, q, Lib.hid fun h => i0.out h, Lib.hid fun h => i2.out h, Lib.hid fun h => i4.out h, Lib.hid fun h => i5.out h, Lib.hid fun h => i6.out h, Lib.hid fun h => i7.out h, Lib.hid fun h => i10.out h, Lib.hid fun h => i11.out h, Lib.hid fun h => i12.out h, Lib.hid fun _ => rfl, Lib.hid fun h => i14.out h, Lib.hid fun _ => rfl⟩
            · rintro done a X hall ⟨v22, v23, v122, v123, v124, v125, v126, v127, v128, v129, v130, v131, v132, v133, v134, v135, f0, f1, f2, f3, f4, f5, f6, f9, f10, f11, f12, f13, f14, f15, f24, f25, f26, f27, f28, f29, f30, f31, f32, f33, f34, f35, f36, f37, f38, f39, f40, f41, f42, f43, f44, f45, f46, f47, f48, f49, f50, f51, f52, f53, f54, f55, f56, f57, f58, f59, f60, f61, f62, f63, f64, f65, f66, f67, f68, f69, f70, f71, f72, f73, f74, f75, f76, f77, f78, f79, f80, f81, f82, f83, f84, f85, f86, f87, f88, f89, f90, f91, f92, f93, f94, f95, f96, f97, f98, f99, f100, f101, f102, f103, f104, f105, f106, f107, f108, f109, f110, f111, f112, f113, f114, f115, f116, f117, f118, f119, f120, f121, hX, q, i0, i2, i4, i5, i6, i7, i10, i11, i12, i13, i14, i15⟩
              obtain rfl := i0.out (hall 0 (by simp))
              obtain rfl := i2.out (hall 2 (by simp))
              obtain rfl := i4.out (hall 4 (by simp))
              obtain rfl := i5.out (hall 5 (by simp))
              obtain rfl := i6.out (hall 6 (by simp))
              obtain rfl := i7.out (hall 7 (by simp))
              obtain rfl := i10.out (hall 10 (by simp))
              obtain rfl := i11.out (hall 11 (by simp))
              obtain rfl := i12.out (hall 12 (by simp))
              obtain rfl := i13.out (hall 13 (by simp))
              obtain rfl := i14.out (hall 14 (by simp))
              obtain rfl := i15.out (hall 15 (by simp))
              clear i0 i2 i4 i5 i6 i7 i10 i11 i12 i13 i14 i15
              have HB5 := Lib.hid (HB4.out.trans (hX.out.mono HB4.out.size))
              clear q hX hall
              dsimp only
              go_wp2_with (fail)
              go_ret
              exact ⟨rfl, HB5.out⟩
        · have HDR : Hid (∀ X, Below w3.heap.size w3 X → Rects X (some ⟨g, o0 + (n + 1) * 4, none⟩) (l.drop (n + 1))) := Lib.hid fun X h => (HA3.out.below h).drop (n + 1)
          have Hcp : Hid ((cap = n + 1) = False) := Lib.hid (eq_false hcp)
          have HD9 := Lib.hid Hdr.out
          have HN9 := Lib.hid HnL2.out
          clear hcp
          go_wp2_with (fail)
          refine wp_region_done2 (by kernel_rfl) (by kernel_rfl) (G25 w3 bR g o0 cap n L l W0 Y ⟨g, o0 + (n + 1) * 4, none⟩ (cap - (n + 1)) (L - (n + 1))) ?_ ?_ ?_
          · exact ⟨_, _, _, _, _, _, _, _, _, _, _, _, _, _, _, _, _, _, _, _, _, _, _, _, _, _, _, _, _, _, _, _, _, _, _, _, _, _, _, _, _, _, _, _, _, _, _, _, _, _, _, _, _, _, _, _, _, _, _, _, _, _, _, _, _, _, _, _, _, _, _, _, _, _, _, _, _, _, _, _, _, _, _, _, _, _, _, _, _, _, _, _, _, _, _, _, _, _, _, _, _, _, _, _, _, _, _, _, _, _, _, _, _, _, Lib.hid (Below.refl _ w3).drew, Lib.hid (Row2.none_yet (Nat.le_refl _)), Lib.hid fun h => by simp at h, Lib.hid fun h => by simp at h, Lib.hid fun h => by simp at h, Lib.hid fun h => by simp at h, Lib.hid fun h => by simp at h, Lib.hid fun h => by simp at h, Lib.hid fun h => by simp at h, Lib.hid fun h => by simp at h, Lib.hid fun h => by simp at h, Lib.hid fun h => by simp at h, Lib.hid fun h => by simp at h, Lib.hid fun h => by simp at h, Lib.hid fun h => by simp at h, Lib.hid fun h => by simp at h⟩
          · rintro done i o a X ho hd he ⟨v20, v21, v107, v108, v109, v110, v111, v112, v113, v114, v115, v116, v117, v118, v119, v120, v121, f0, f1, f2, f3, f4, f5, f6, f9, f10, f11, f12, f13, f14, f15, f24, f25, f26, f27, f28, f29, f30, f31, f32, f33, f34, f35, f36, f37, f38, f39, f40, f41, f42, f43, f44, f45, f46, f47, f48, f49, f50, f51, f52, f53, f54, f55, f56, f57, f58, f59, f60, f61, f62, f63, f64, f65, f66, f67, f68, f69, f70, f71, f72, f73, f74, f75, f76, f77, f78, f79, f80, f81, f82, f83, f84, f85, f86, f87, f88, f89, f90, f91, f92, f93, f94, f95, f96, f97, f98, f99, f100, f101, f102, f103, f104, f105, f106, hX, q, i0, i2, i3, i4, i6, i7, i8, i9, i11, i12, i13, i14, i15, i16⟩ K hK
            have Hd := Lib.hid he
            clear he
            rcases i with _ | _ | _ | _ | _ | _ | _ | _ | _ | _ | _ | _ | _ | _ | _ | _ | _ | i
            rotate_left 17
            · exact absurd (Array.getElem?_eq_some_iff.1 ho).1 (by simp)
            · obtain rfl := Option.some.inj ho
              have s0 := rd hX.out A0.out
              have s1 := rd hX.out A1.out
              have s2 := rd hX.out A2.out
              have s3 := rd hX.out A3.out
              refine wpOp_plain ho rfl ?_
              clear ho hd
              go_wp2
              exact ⟨_, _, _, _, _, _, _, _, _, _, _, _, _, _, _, _, _, _, _, _, _, _, _, _, _, _, _, _, _, _, _, _, _, _, _, _, _, _, _, _, _, _, _, _, _, _, _, _, _, _, _, _, _, _, _, _, _, _, _, _, _, _, _, _, _, _, _, _, _, _, _, _, _, _, _, _, _, _, _, _, _, _, _, _, _, _, _, _, _, _, _, _, _, _, _, _, _, _, _, _, _, _, _, _, _, _, _, _, _, _, _, _, _, _, hX, q, Lib.hid fun _ => rfl, Lib.hid fun h => i2.out h, Lib.hid fun h => i3.out h, Lib.hid fun h => i4.out h, Lib.hid fun h => i6.out h, Lib.hid fun h => i7.out h, Lib.hid fun h => i8.out h, Lib.hid fun h => i9.out h, Lib.hid fun h => i11.out h, Lib.hid fun h => i12.out h, Lib.hid fun h => i13.out h, Lib.hid fun h => i14.out h, Lib.hid fun h => i15.out h, Lib.hid fun h => i16.out h⟩
            · obtain rfl := Option.some.inj ho
              have q1 := q.out
              rw [hd] at q1
              have Q1 := Lib.hid q1
              clear q1
              refine wpOp_plain ho rfl ?_
              clear ho hd
              refine wp_make_rects w3.heap.size _ _ 64 rfl rfl rfl (by decide) Q1.out.le ?_
              intro W1 hown hg
              have hb : Below X.heap.size X W1 := ⟨hg.os, hg.tape, hg.output, hg.size, fun q hq => hg.block q hq (by simp)⟩
              refine hK _ _ ?_
              exact ⟨_, _, _, _, _, _, _, _, _, _, _, _, _, _, _, _, _, _, _, _, _, _, _, _, _, _, _, _, _, _, _, _, _, _, _, _, _, _, _, _, _, _, _, _, _, _, _, _, _, _, _, _, _, _, _, _, _, _, _, _, _, _, _, _, _, _, _, _, _, _, _, _, _, _, _, _, _, _, _, _, _, _, _, _, _, _, _, _, _, _, _, _, _, _, _, _, _, _, _, _, _, _, _, _, _, _, _, _, _, _, _, _, _, _, Lib.hid (hX.out.trans (hb.mono hX.out.size)), Lib.hid (Q1.out.make hown hg _ _), Lib.hid fun h => i0.out h, Lib.hid fun h => i2.out h, Lib.hid fun h => i3.out h, Lib.hid fun h => i4.out h, Lib.hid fun h => i6.out h, Lib.hid fun h => i7.out h, Lib.hid fun h => i8.out h, Lib.hid fun h => i9.out h, Lib.hid fun h => i11.out h, Lib.hid fun h => i12.out h, Lib.hid fun h => i13.out h, Lib.hid fun h => i14.out h, Lib.hid fun h => i15.out h, Lib.hid fun h => i16.out h⟩
            · obtain rfl := Option.some.inj ho
              refine wpOp_plain ho rfl ?_
              clear ho hd
              go_wp2
              exact ⟨_, _, _, _, _, _, _, _, _, _, _, _, _, _, _, _, _, _, _, _, _, _, _, _, _, _, _, _, _, _, _, _, _, _, _, _, _, _, _, _, _, _, _, _, _, _, _, _, _, _, _, _, _, _, _, _, _, _, _, _, _, _, _, _, _, _, _, _, _, _, _, _, _, _, _, _, _, _, _, _, _, _, _, _, _, _, _, _, _, _, _, _, _, _, _, _, _, _, _, _, _, _, _, _, _, _, _, _, _, _, _, _, _, _, hX, q, Lib.hid fun h => i0.out h, Lib.hid fun _ => rfl, Lib.hid fun h => i3.out h, Lib.hid fun h => i4.out h, Lib.hid fun h => i6.out h, Lib.hid fun h => i7.out h, Lib.hid fun h => i8.out h, Lib.hid fun h => i9.out h, Lib.hid fun h => i11.out h, Lib.hid fun h => i12.out h, Lib.hid fun h => i13.out h, Lib.hid fun h => i14.out h, Lib.hid fun h => i15.out h, Lib.hid fun h => i16.out h⟩
            · obtain rfl := Option.some.inj ho
              refine wpOp_plain ho rfl ?_
              clear ho hd
              go_wp2
              exact ⟨_, _, _, _, _, _, _, _, _, _, _, _, _, _, _, _, _, _, _, _, _, _, _, _, _, _, _, _, _, _, _, _, _, _, _, _, _, _, _, _, _, _, _, _, _, _, _, _, _, _, _, _, _, _, _, _, _, _, _, _, _, _, _, _, _, _, _, _, _, _, _, _, _, _, _, _, _, _, _, _, _, _, _, _, _, _, _, _, _, _, _, _, _, _, _, _, _, _, _, _, _, _, _, _, _, _, _, _, _, _, _, _, _, _, hX, q, Lib.hid fun h => i0.out h, Lib.hid fun h => i2.out h, Lib.hid fun _ => rfl, Lib.hid fun h => i4.out h, Lib.hid fun h => i6.out h, Lib.hid fun h => i7.out h, Lib.hid fun h => i8.out h, Lib.hid fun h => i9.out h, Lib.hid fun h => i11.out h, Lib.hid fun h => i12.out h, Lib.hid fun h => i13.out h, Lib.hid fun h => i14.out h, Lib.hid fun h => i15.out h, Lib.hid fun h => i16.out h⟩
            · obtain rfl := Option.some.inj ho
              obtain rfl := i2.out (Hd.out ⟨2, .data⟩ (by simp) rfl)
              obtain rfl := i3.out (Hd.out ⟨3, .data⟩ (by simp) rfl)
              have s := Hnc.out
              refine wpOp_plain ho rfl ?_
              clear ho hd
              go_wp2
              exact ⟨_, _, _, _, _, _, _, _, _, _, _, _, _, _, _, _, _, _, _, _, _, _, _, _, _, _, _, _, _, _, _, _, _, _, _, _, _, _, _, _, _, _, _, _, _, _, _, _, _, _, _, _, _, _, _, _, _, _, _, _, _, _, _, _, _, _, _, _, _, _, _, _, _, _, _, _, _, _, _, _, _, _, _, _, _, _, _, _, _, _, _, _, _, _, _, _, _, _, _, _, _, _, _, _, _, _, _, _, _, _, _, _, _, _, hX, q, Lib.hid fun h => i0.out h, Lib.hid fun _ => rfl, Lib.hid fun _ => rfl, Lib.hid fun _ => rfl, Lib.hid fun h => i6.out h, Lib.hid fun h => i7.out h, Lib.hid fun h => i8.out h, Lib.hid fun h => i9.out h, Lib.hid fun h => i11.out h, Lib.hid fun h => i12.out h, Lib.hid fun h => i13.out h, Lib.hid fun h => i14.out h, Lib.hid fun h => i15.out h, Lib.hid fun h => i16.out h⟩
            · obtain rfl := Option.some.inj ho
              obtain rfl := i4.out (Hd.out ⟨4, .data⟩ (by simp) rfl)
              have d1 := Hd.out ⟨1, .data⟩ (by simp) rfl
              have q1 := q.out
              rw [hd, d1] at q1
              obtain ⟨N, rfl, g2, g3, _, _, g6, _, _, _⟩ := q1.row rfl
              have hown0 := g6 rfl
              refine wpOp_plain ho rfl ?_
              clear ho hd
              refine wp_app_fits w3.heap.size _ _ 64 rfl N 0 [] rfl hown0 ⟨g, o0, none⟩ cap n (l.take n) Htk.out rfl ((HA3.out.below hX.out).take n) n (Nat.zero_add n) (by have := HnL.out; omega) ?_
              intro W1 hown hg
              rw [List.nil_append] at hown
              have hb := grown_base hown0 hg (Below.size hX.out)
              refine hK _ _ ?_
              exact ⟨_, _, _, _, _, _, _, _, _, _, _, _, _, _, _, _, _, _, _, _, _, _, _, _, _, _, _, _, _, _, _, _, _, _, _, _, _, _, _, _, _, _, _, _, _, _, _, _, _, _, _, _, _, _, _, _, _, _, _, _, _, _, _, _, _, _, _, _, _, _, _, _, _, _, _, _, _, _, _, _, _, _, _, _, _, _, _, _, _, _, _, _, _, _, _, _, _, _, _, _, _, _, _, _, _, _, _, _, _, _, _, _, _, _, Lib.hid (hX.out.trans hb), Lib.hid ((q1.first hown hg _).cast d1.symm rfl rfl), Lib.hid fun h => i0.out h, Lib.hid fun h => i2.out h, Lib.hid fun h => i3.out h, Lib.hid fun _ => rfl, Lib.hid fun h => i6.out h, Lib.hid fun h => i7.out h, Lib.hid fun h => i8.out h, Lib.hid fun h => i9.out h, Lib.hid fun h => i11.out h, Lib.hid fun h => i12.out h, Lib.hid fun h => i13.out h, Lib.hid fun h => i14.out h, Lib.hid fun h => i15.out h, Lib.hid fun h => i16.out h⟩
            · obtain rfl := Option.some.inj ho
              refine wpOp_plain ho rfl ?_
              clear ho hd
              go_wp2
              exact ⟨_, _, _, _, _, _, _, _, _, _, _, _, _, _, _, _, _, _, _, _, _, _, _, _, _, _, _, _, _, _, _, _, _, _, _, _, _, _, _, _, _, _, _, _, _, _, _, _, _, _, _, _, _, _, _, _, _, _, _, _, _, _, _, _, _, _, _, _, _, _, _, _, _, _, _, _, _, _, _, _, _, _, _, _, _, _, _, _, _, _, _, _, _, _, _, _, _, _, _, _, _, _, _, _, _, _, _, _, _, _, _, _, _, _, hX, q, Lib.hid fun h => i0.out h, Lib.hid fun h => i2.out h, Lib.hid fun h => i3.out h, Lib.hid fun h => i4.out h, Lib.hid fun _ => rfl, Lib.hid fun h => i7.out h, Lib.hid fun h => i8.out h, Lib.hid fun h => i9.out h, Lib.hid fun h => i11.out h, Lib.hid fun h => i12.out h, Lib.hid fun h => i13.out h, Lib.hid fun h => i14.out h, Lib.hid fun h => i15.out h, Lib.hid fun h => i16.out h⟩
            · obtain rfl := Option.some.inj ho
              refine wpOp_plain ho rfl ?_
              clear ho hd
              go_wp2
              exact ⟨_, _, _, _, _, _, _, _, _, _, _, _, _, _, _, _, _, _, _, _, _, _, _, _, _, _, _, _, _, _, _, _, _, _, _, _, _, _, _, _, _, _, _, _, _, _, _, _, _, _, _, _, _, _, _, _, _, _, _, _, _, _, _, _, _, _, _, _, _, _, _, _, _, _, _, _, _, _, _, _, _, _, _, _, _, _, _, _, _, _, _, _, _, _, _, _, _, _, _, _, _, _, _, _, _, _, _, _, _, _, _, _, _, _, hX, q, Lib.hid fun h => i0.out h, Lib.hid fun h => i2.out h, Lib.hid fun h => i3.out h, Lib.hid fun h => i4.out h, Lib.hid fun h => i6.out h, Lib.hid fun _ => rfl, Lib.hid fun h => i8.out h, Lib.hid fun h => i9.out h, Lib.hid fun h => i11.out h, Lib.hid fun h => i12.out h, Lib.hid fun h => i13.out h, Lib.hid fun h => i14.out h, Lib.hid fun h => i15.out h, Lib.hid fun h => i16.out h⟩
            · obtain rfl := Option.some.inj ho
              obtain rfl := i7.out (Hd.out ⟨7, .data⟩ (by simp) rfl)
              have s := Hwn.out
              refine wpOp_plain ho rfl ?_
              clear ho hd
              go_wp2
              exact ⟨_, _, _, _, _, _, _, _, _, _, _, _, _, _, _, _, _, _, _, _, _, _, _, _, _, _, _, _, _, _, _, _, _, _, _, _, _, _, _, _, _, _, _, _, _, _, _, _, _, _, _, _, _, _, _, _, _, _, _, _, _, _, _, _, _, _, _, _, _, _, _, _, _, _, _, _, _, _, _, _, _, _, _, _, _, _, _, _, _, _, _, _, _, _, _, _, _, _, _, _, _, _, _, _, _, _, _, _, _, _, _, _, _, _, hX, q, Lib.hid fun h => i0.out h, Lib.hid fun h => i2.out h, Lib.hid fun h => i3.out h, Lib.hid fun h => i4.out h, Lib.hid fun h => i6.out h, Lib.hid fun _ => rfl, Lib.hid fun _ => rfl, Lib.hid fun h => i9.out h, Lib.hid fun h => i11.out h, Lib.hid fun h => i12.out h, Lib.hid fun h => i13.out h, Lib.hid fun h => i14.out h, Lib.hid fun h => i15.out h, Lib.hid fun h => i16.out h⟩
            · obtain rfl := Option.some.inj ho
              obtain rfl := i6.out (Hd.out ⟨6, .data⟩ (by simp) rfl)
              obtain rfl := i8.out (Hd.out ⟨8, .data⟩ (by simp) rfl)
              have s := HnL.out
              have s2 := HLc.out
              have s3 := Hcp.out
              refine wpOp_plain ho rfl ?_
              clear ho hd
              go_wp2
              exact ⟨_, _, _, _, _, _, _, _, _, _, _, _, _, _, _, _, _, _, _, _, _, _, _, _, _, _, _, _, _, _, _, _, _, _, _, _, _, _, _, _, _, _, _, _, _, _, _, _, _, _, _, _, _, _, _, _, _, _, _, _, _, _, _, _, _, _, _, _, _, _, _, _, _, _, _, _, _, _, _, _, _, _, _, _, _, _, _, _, _, _, _, _, _, _, _, _, _, _, _, _, _, _, _, _, _, _, _, _, _, _, _, _, _, _, hX, q, Lib.hid fun h => i0.out h, Lib.hid fun h => i2.out h, Lib.hid fun h => i3.out h, Lib.hid fun h => i4.out h, Lib.hid fun _ => rfl, Lib.hid fun h => i7.out h, Lib.hid fun _ => rfl, Lib.hid fun _ => rfl, Lib.hid fun h => i11.out h, Lib.hid fun h => i12.out h, Lib.hid fun h => i13.out h, Lib.hid fun h => i14.out h, Lib.hid fun h => i15.out h, Lib.hid fun h => i16.out h⟩
            · obtain rfl := Option.some.inj ho
              obtain rfl := i9.out (Hd.out ⟨9, .data⟩ (by simp) rfl)
              have d5 := Hd.out ⟨5, .data⟩ (by simp) rfl
              have q1 := q.out
              have d1 := q1.o5 d5
              rw [hd, d5, d1] at q1
              obtain ⟨N, rfl, g2, g3, g4, _, _, g7, _, _⟩ := q1.row rfl
              obtain rfl := g4 rfl
              have hown0 := g7 rfl rfl
              refine wpOp_plain ho rfl ?_
              clear ho hd
              refine wp_app_fits w3.heap.size _ _ 64 rfl N n (l.take n) rfl hown0 ⟨g, o0 + (n + 1) * 4, none⟩ (cap - (n + 1)) (L - (n + 1)) (l.drop (n + 1)) HD9.out rfl (HDR.out X hX.out) (L - 1) HN9.out (by have := HnL.out; omega) ?_
              intro W1 hown hg
              have hb := grown_base hown0 hg (Below.size hX.out)
              refine hK _ _ ?_
              exact ⟨_, _, _, _, _, _, _, _, _, _, _, _, _, _, _, _, _, _, _, _, _, _, _, _, _, _, _, _, _, _, _, _, _, _, _, _, _, _, _, _, _, _, _, _, _, _, _, _, _, _, _, _, _, _, _, _, _, _, _, _, _, _, _, _, _, _, _, _, _, _, _, _, _, _, _, _, _, _, _, _, _, _, _, _, _, _, _, _, _, _, _, _, _, _, _, _, _, _, _, _, _, _, _, _, _, _, _, _, _, _, _, _, _, _, Lib.hid (hX.out.trans hb), Lib.hid ((q1.last hown hg).cast d1.symm d5.symm rfl), Lib.hid fun h => i0.out h, Lib.hid fun h => i2.out h, Lib.hid fun h => i3.out h, Lib.hid fun h => i4.out h, Lib.hid fun h => i6.out h, Lib.hid fun h => i7.out h, Lib.hid fun h => i8.out h, Lib.hid fun _ => rfl, Lib.hid fun h => i11.out h, Lib.hid fun h => i12.out h, Lib.hid fun h => i13.out h, Lib.hid fun h => i14.out h, Lib.hid fun h => i15.out h, Lib.hid fun h => i16.out h⟩
            · obtain rfl := Option.some.inj ho
              obtain rfl := i0.out (Hd.out ⟨0, .data⟩ (by simp) rfl)
              have d10 := Hd.out ⟨10, .data⟩ (by simp) rfl
              have d5 := q.out.o10 d10
              have d1 := q.out.o5 d5
              obtain ⟨N, g1, g2, g3, _, g5, _, _, g8, _⟩ := q.out.row d1
              obtain rfl := g5 d10
              have hown := g8 d10
              obtain ⟨A2, c2, hv, hr⟩ := own_rects hown Hlen1.out
              cases hv
              have Hr := Lib.hid hr
              clear g1 g2 g3 g5 g8 hown hr d10 d5 d1
              refine wpOp_plain ho rfl ?_
              clear ho hd
              go_wp2_with (go_at_call 19; refine (CL.out _ _ _ Hr.out).mono ?_; rintro e W1 ⟨rfl, hb⟩)
              exact ⟨_, _, _, _, _, _, _, _, _, _, _, _, _, _, _, _, _, _, _, _, _, _, _, _, _, _, _, _, _, _, _, _, _, _, _, _, _, _, _, _, _, _, _, _, _, _, _, _, _, _, _, _, _, _, _, _, _, _, _, _, _, _, _, _, _, _, _, _, _, _, _, _, _, _, _, _, _, _, _, _, _, _, _, _, _, _, _, _, _, _, _, _, _, _, _, _, _, _, _, _, _, _, _, _, _, _, _, _, _, _, _, _, _, _, Lib.hid (hX.out.trans (hb.mono hX.out.size)), Lib.hid (q.out.turn hb), Lib.hid fun _ => rfl, Lib.hid fun h => i2.out h, Lib.hid fun h => i3.out h, Lib.hid fun h => i4.out h, Lib.hid fun h => i6.out h, Lib.hid fun h => i7.out h, Lib.hid fun h => i8.out h, Lib.hid fun h => i9.out h, Lib.hid fun _ => rfl, Lib.hid fun h => i12.out h, Lib.hid fun h => i13.out h, Lib.hid fun h => i14.out h, Lib.hid fun h => i15.out h, Lib.hid fun h => i16.out h⟩
            · obtain rfl := Option.some.inj ho
              obtain rfl := i11.out (Hd.out ⟨11, .data⟩ (by simp) rfl)
              refine wpOp_plain ho rfl ?_
              clear ho hd
              go_wp2
              exact ⟨_, _, _, _, _, _, _, _, _, _, _, _, _, _, _, _, _, _, _, _, _, _, _, _, _, _, _, _, _, _, _, _, _, _, _, _, _, _, _, _, _, _, _, _, _, _, _, _, _, _, _, _, _, _, _, _, _, _, _, _, _, _, _, _, _, _, _, _, _, _, _, _, _, _, _, _, _, _, _, _, _, _, _, _, _, _, _, _, _, _, _, _, _, _, _, _, _, _, _, _, _, _, _, _, _, _, _, _, _, _, _, _, _, _, hX, q, Lib.hid fun h => i0.out h, Lib.hid fun h => i2.out h, Lib.hid fun h => i3.out h, Lib.hid fun h => i4.out h, Lib.hid fun h => i6.out h, Lib.hid fun h => i7.out h, Lib.hid fun h => i8.out h, Lib.hid fun h => i9.out h, Lib.hid fun _ => rfl, Lib.hid fun _ => rfl, Lib.hid fun h => i13.out h, Lib.hid fun h => i14.out h, Lib.hid fun h => i15.out h, Lib.hid fun h => i16.out h⟩
            · obtain rfl := Option.some.inj ho
              obtain rfl := i12.out (Hd.out ⟨12, .data⟩ (by simp) rfl)
              refine wpOp_plain ho rfl ?_
              clear ho hd
              go_wp2
              exact ⟨_, _, _, _, _, _, _, _, _, _, _, _, _, _, _, _, _, _, _, _, _, _, _, _, _, _, _, _, _, _, _, _, _, _, _, _, _, _, _, _, _, _, _, _, _, _, _, _, _, _, _, _, _, _, _, _, _, _, _, _, _, _, _, _, _, _, _, _, _, _, _, _, _, _, _, _, _, _, _, _, _, _, _, _, _, _, _, _, _, _, _, _, _, _, _, _, _, _, _, _, _, _, _, _, _, _, _, _, _, _, _, _, _, _, hX, q, Lib.hid fun h => i0.out h, Lib.hid fun h => i2.out h, Lib.hid fun h => i3.out h, Lib.hid fun h => i4.out h, Lib.hid fun h => i6.out h, Lib.hid fun h => i7.out h, Lib.hid fun h => i8.out h, Lib.hid fun h => i9.out h, Lib.hid fun h => i11.out h, Lib.hid fun _ => rfl, Lib.hid fun _ => rfl, Lib.hid fun h => i14.out h, Lib.hid fun h => i15.out h, Lib.hid fun h => i16.out h⟩
            · obtain rfl := Option.some.inj ho
              obtain rfl := i12.out (Hd.out ⟨12, .data⟩ (by simp) rfl)
              refine wpOp_plain ho rfl ?_
              clear ho hd
              go_wp2
              exact ⟨_, _, _, _, _, _, _, _, _, _, _, _, _, _, _, _, _, _, _, _, _, _, _, _, _, _, _, _, _, _, _, _, _, _, _, _, _, _, _, _, _, _, _, _, _, _, _, _, _, _, _, _, _, _, _, _, _, _, _, _, _, _, _, _, _, _, _, _, _, _, _, _, _, _, _, _, _, _, _, _, _, _, _, _, _, _, _, _, _, _, _, _, _, _, _, _, _, _, _, _, _, _, _, _, _, _, _, _, _, _, _, _, _, _, hX, q, Lib.hid fun h => i0.out h, Lib.hid fun h => i2.out h, Lib.hid fun h => i3.out h, Lib.hid fun h => i4.out h, Lib.hid fun h => i6.out h, Lib.hid fun h => i7.out h, Lib.hid fun h => i8.out h, Lib.hid fun h => i9.out h, Lib.hid fun h => i11.out h, Lib.hid fun _ => rfl, Lib.hid fun h => i13.out h, Lib.hid fun _ => rfl, Lib.hid fun h => i15.out h, Lib.hid fun h => i16.out h⟩
            · obtain rfl := Option.some.inj ho
              obtain rfl := i13.out (Hd.out ⟨13, .data⟩ (by simp) rfl)
              refine wpOp_plain ho rfl ?_
              clear ho hd
              go_wp2
              exact ⟨_, _, _, _, _, _, _, _, _, _, _, _, _, _, _, _, _, _, _, _, _, _, _, _, _, _, _, _, _, _, _, _, _, _, _, _, _, _, _, _, _, _, _, _, _, _, _, _, _, _, _, _, _, _, _, _, _, _, _, _, _, _, _, _, _, _, _, _, _, _, _, _, _, _, _, _, _, _, _, _, _, _, _, _, _, _, _, _, _, _, _, _, _, _, _, _, _, _, _, _, _, _, _, _, _, _, _, _, _, _, _, _, _, _, hX, q, Lib.hid fun h => i0.out h, Lib.hid fun h => i2.out h, Lib.hid fun h => i3.out h, Lib.hid fun h => i4.out h, Lib.hid fun h => i6.out h, Lib.hid fun h => i7.out h, Lib.hid fun h => i8.out h, Lib.hid fun h => i9.out h, Lib.hid fun h => i11.out h, Lib.hid fun h => i12.out h, Lib.hid fun _ => rfl, Lib.hid fun h => i14.out h, Lib.hid fun _ => rfl, Lib.hid fun h => i16.out h⟩
            · obtain rfl := Option.some.inj ho
              obtain rfl := i14.out (Hd.out ⟨14, .data⟩ (by simp) rfl)
              refine wpOp_plain ho rfl ?_
              clear ho hd
              go_wp2
              exact ⟨_, _, _, _, _, _, _, _, _, _, _, _, _, _, _, _, _, _, _, _, _, _, _, _, _, _, _, _, _, _, _, _, _, _, _, _, _, _, _, _, _, _, _, _, _, _, _, _, _, _, _, _, _, _, _, _, _, _, _, _, _, _, _, _, _, _, _, _, _, _, _, _, _, _, _, _, _, _, _, _, _, _, _, _, _, _, _, _, _, _, _, _, _, _, _, _, _, _, _, _, _, _, _, _, _, _, _, _, _, _, _, _, _, _, hX, q, Lib.hid fun h => i0.out h, Lib.hid fun h => i2.out h, Lib.hid fun h => i3.out h, Lib.hid fun h => i4.out h, Lib.hid fun h => i6.out h, Lib.hid fun h => i7.out h, Lib.hid fun h => i8.out h, Lib.hid fun h => i9.out h, Lib.hid fun h => i11.out h, Lib.hid fun h => i12.out h, Lib.hid fun h => i13.out h, Lib.hid fun _ => rfl, Lib.hid fun h => i15.out h, Lib.hid fun _ => rfl⟩
          · rintro done a X hall ⟨v20, v21, v107, v108, v109, v110, v111, v112, v113, v114, v115, v116, v117, v118, v119, v120, v121, f0, f1, f2, f3, f4, f5, f6, f9, f10, f11, f12, f13, f14, f15, f24, f25, f26, f27, f28, f29, f30, f31, f32, f33, f34, f35, f36, f37, f38, f39, f40, f41, f42, f43, f44, f45, f46, f47, f48, f49, f50, f51, f52, f53, f54, f55, f56, f57, f58, f59, f60, f61, f62, f63, f64, f65, f66, f67, f68, f69, f70, f71, f72, f73, f74, f75, f76, f77, f78, f79, f80, f81, f82, f83, f84, f85, f86, f87, f88, f89, f90, f91, f92, f93, f94, f95, f96, f97, f98, f99, f100, f101, f102, f103, f104, f105, f106, hX, q, i0, i2, i3, i4, i6, i7, i8, i9, i11, i12, i13, i14, i15, i16⟩
            obtain rfl := i0.out (hall 0 (by simp))
            obtain rfl := i2.out (hall 2 (by simp))
            obtain rfl := i3.out (hall 3 (by simp))
            obtain rfl := i4.out (hall 4 (by simp))
            obtain rfl := i6.out (hall 6 (by simp))
            obtain rfl := i7.out (hall 7 (by simp))
            obtain rfl := i8.out (hall 8 (by simp))
            obtain rfl := i9.out (hall 9 (by simp))
            obtain rfl := i11.out (hall 11 (by simp))
            obtain rfl := i12.out (hall 12 (by simp))
            obtain rfl := i13.out (hall 13 (by simp))
            obtain rfl := i14.out (hall 14 (by simp))
            obtain rfl := i15.out (hall 15 (by simp))
            obtain rfl := i16.out (hall 16 (by simp))
            clear i0 i2 i3 i4 i6 i7 i8 i9 i11 i12 i13 i14 i15 i16
            have HA4 := Lib.hid (HA3.out.below hX.out)
            have HR4 := Lib.hid (HR3.out.turn hX.out)
            have HB4 := Lib.hid (HB3.out.trans (hX.out.mono HB3.out.size))
            clear q hX hall A0 A1 A2 A3 HA3 HR3 HB3 CL
            obtain ⟨w4, hw4⟩ : ∃ w4, w4 = X := ⟨_, rfl⟩
            subst hw4
            have A0 := Lib.hid HR4.out.cells.1
            have A1 := Lib.hid HR4.out.cells.2.1
            have A2 := Lib.hid HR4.out.cells.2.2.1
            have A3 := Lib.hid HR4.out.cells.2.2.2
            have hel := HA4.out.cells_at (k := n) (by rw [Hgl.out]; exact Hn.out)
            have E0 := Lib.hid hel.1
            have E1 := Lib.hid hel.2.1
            have E2 := Lib.hid hel.2.2.1
            have E3 := Lib.hid hel.2.2.2
            dsimp only at A0 A1 A2 A3
            clear hel
            dsimp only
            go_wp2_with (fail)
            refine wp_region_done2 (by kernel_rfl) (by kernel_rfl) (G26 w4 bR g o0 cap n L l W0 Y ⟨g, o0 + (n + 1) * 4, none⟩ (cap - (n + 1)) (L - (n + 1))) ?_ ?_ ?_
            · exact ⟨_, _, _, _, _, _, _, _, _, _, _, _, _, _, _, _, _, _, _, _, _, _, _, _, _, _, _, _, _, _, _, _, _, _, _, _, _, _, _, _, _, _, _, _, _, _, _, _, _, _, _, _, _, _, _, _, _, _, _, _, _, _, _, _, _, _, _, _, _, _, _, _, _, _, _, _, _, _, _, _, _, _, _, _, _, _, _, _, _, _, _, _, _, _, _, _, _, _, _, _, _, _, _, _, _, _, _, _, _, _, _, _, _, _, _, _, _, _, _, _, _, _, _, _, _, _, _, _, Lib.hid (Below.refl _ w4).drew, Lib.hid (Row2.none_yet (Nat.le_refl _)), Lib.hid fun h => by simp at h, Lib.hid fun h => by simp at h, Lib.hid fun h => by simp at h, Lib.hid fun h => by simp at h, Lib.hid fun h => by simp at h, Lib.hid fun h => by simp at h, Lib.hid fun h => by simp at h, Lib.hid fun h => by simp at h, Lib.hid fun h => by simp at h, Lib.hid fun h => by simp at h, Lib.hid fun h => by simp at h, Lib.hid fun h => by simp at h⟩
            · rintro done i o a X ho hd he ⟨v22, v23, v122, v123, v124, v125, v126, v127, v128, v129, v130, v131, v132, v133, v134, v135, f0, f1, f2, f3, f4, f5, f6, f9, f10, f11, f12, f13, f14, f15, f24, f25, f26, f27, f28, f29, f30, f31, f32, f33, f34, f35, f36, f37, f38, f39, f40, f41, f42, f43, f44, f45, f46, f47, f48, f49, f50, f51, f52, f53, f54, f55, f56, f57, f58, f59, f60, f61, f62, f63, f64, f65, f66, f67, f68, f69, f70, f71, f72, f73, f74, f75, f76, f77, f78, f79, f80, f81, f82, f83, f84, f85, f86, f87, f88, f89, f90, f91, f92, f93, f94, f95, f96, f97, f98, f99, f100, f101, f102, f103, f104, f105, f106, f107, f108, f109, f110, f111, f112, f113, f114, f115, f116, f117, f118, f119, f120, f121, hX, q, i0, i2, i4, i5, i6, i7, i10, i11, i12, i13, i14, i15⟩ K hK
              have Hd := Lib.hid he
              clear he
              rcases i with _ | _ | _ | _ | _ | _ | _ | _ | _ | _ | _ | _ | _ | _ | _ | _ | i
              rotate_left 16
              · exact absurd (Array.getElem?_eq_some_iff.1 ho).1 (by simp)
              · obtain rfl := Option.some.inj ho
                have s0 := rd hX.out A0.out
                have s1 := rd hX.out A1.out
                have s2 := rd hX.out A2.out
                have s3 := rd hX.out A3.out
                refine wpOp_plain ho rfl ?_
                clear ho hd
                go_wp2
                exact ⟨_, _, _, _, _, _, _, _, _, _, _, _, _, _, _, _, _, _, _, _, _, _, _, _, _, _, _, _, _, _, _, _, _, _, _, _, _, _, _, _, _, _, _, _, _, _, _, _, _, _, _, _, _, _, _, _, _, _, _, _, _, _, _, _, _, _, _, _, _, _, _, _, _, _, _, _, _, _, _, _, _, _, _, _, _, _, _, _, _, _, _, _, _, _, _, _, _, _, _, _, _, _, _, _, _, _, _, _, _, _, _, _, _, _, _, _, _, _, _, _, _, _, _, _, _, _, _, _, hX, q, Lib.hid fun _ => rfl, Lib.hid fun h => i2.out h, Lib.hid fun h => i4.out h, Lib.hid fun h => i5.out h, Lib.hid fun h => i6.out h, Lib.hid fun h => i7.out h, Lib.hid fun h => i10.out h, Lib.hid fun h => i11.out h, Lib.hid fun h => i12.out h, Lib.hid fun h => i13.out h, Lib.hid fun h => i14.out h, Lib.hid fun h => i15.out h⟩
              · obtain rfl := Option.some.inj ho
                have q1 := q.out
                rw [hd] at q1
                have Q1 := Lib.hid q1
                clear q1
                refine wpOp_plain ho rfl ?_
                clear ho hd
                refine wp_make_rects w4.heap.size _ _ 65 rfl rfl rfl (by decide) Q1.out.le ?_
                intro W1 hown hg
                have hb : Below X.heap.size X W1 := ⟨hg.os, hg.tape, hg.output, hg.size, fun q hq => hg.block q hq (by simp)⟩
                refine hK _ _ ?_
                exact ⟨_, _, _, _, _, _, _, _, _, _, _, _, _, _, _, _, _, _, _, _, _, _, _, _, _, _, _, _, _, _, _, _, _, _, _, _, _, _, _, _, _, _, _, _, _, _, _, _, _, _, _, _, _, _, _, _, _, _, _, _, _, _, _, _, _, _, _, _, _, _, _, _, _, _, _, _, _, _, _, _, _, _, _, _, _, _, _, _, _, _, _, _, _, _, _, _, _, _, _, _, _, _, _, _, _, _, _, _, _, _, _, _, _, _, _, _, _, _, _, _, _, _, _, _, _, _, _, _, Lib.hid (hX.out.trans (hb.mono hX.out.size)), Lib.hid (Q1.out.make hown hg _ _), Lib.hid fun h => i0.out h, Lib.hid fun h => i2.out h, Lib.hid fun h => i4.out h, Lib.hid fun h => i5.out h, Lib.hid fun h => i6.out h, Lib.hid fun h => i7.out h, Lib.hid fun h => i10.out h, Lib.hid fun h => i11.out h, Lib.hid fun h => i12.out h, Lib.hid fun h => i13.out h, Lib.hid fun h => i14.out h, Lib.hid fun h => i15.out h⟩
              · obtain rfl := Option.some.inj ho
                refine wpOp_plain ho rfl ?_
                clear ho hd
                go_wp2
                exact ⟨_, _, _, _, _, _, _, _, _, _, _, _, _, _, _, _, _, _, _, _, _, _, _, _, _, _, _, _, _, _, _, _, _, _, _, _, _, _, _, _, _, _, _, _, _, _, _, _, _, _, _, _, _, _, _, _, _, _, _, _, _, _, _, _, _, _, _, _, _, _, _, _, _, _, _, _, _, _, _, _, _, _, _, _, _, _, _, _, _, _, _, _, _, _, _, _, _, _, _, _, _, _, _, _, _, _, _, _, _, _, _, _, _, _, _, _, _, _, _, _, _, _, _, _, _, _, _, _, hX, q, Lib.hid fun h => i0.out h, Lib.hid fun _ => rfl, Lib.hid fun h => i4.out h, Lib.hid fun h => i5.out h, Lib.hid fun h => i6.out h, Lib.hid fun h => i7.out h, Lib.hid fun h => i10.out h, Lib.hid fun h => i11.out h, Lib.hid fun h => i12.out h, Lib.hid fun h => i13.out h, Lib.hid fun h => i14.out h, Lib.hid fun h => i15.out h⟩
              · obtain rfl := Option.some.inj ho
                obtain rfl := i2.out (Hd.out ⟨2, .data⟩ (by simp) rfl)
                have d1 := Hd.out ⟨1, .data⟩ (by simp) rfl
                have q1 := q.out
                rw [hd, d1] at q1
                obtain ⟨N, rfl, g2, g3, _, _, g6, _, _, _⟩ := q1.row rfl
                have hown0 := g6 rfl
                refine wpOp_plain ho rfl ?_
                clear ho hd
                refine wp_app_fits w4.heap.size _ _ 65 rfl N 0 [] rfl hown0 ⟨g, o0, none⟩ cap L l Hgl.out rfl (HA4.out.below hX.out) L (Nat.zero_add L) (by omega) ?_
                intro W1 hown hg
                rw [List.nil_append] at hown
                have hb := grown_base hown0 hg (Below.size hX.out)
                refine hK _ _ ?_
                exact ⟨_, _, _, _, _, _, _, _, _, _, _, _, _, _, _, _, _, _, _, _, _, _, _, _, _, _, _, _, _, _, _, _, _, _, _, _, _, _, _, _, _, _, _, _, _, _, _, _, _, _, _, _, _, _, _, _, _, _, _, _, _, _, _, _, _, _, _, _, _, _, _, _, _, _, _, _, _, _, _, _, _, _, _, _, _, _, _, _, _, _, _, _, _, _, _, _, _, _, _, _, _, _, _, _, _, _, _, _, _, _, _, _, _, _, _, _, _, _, _, _, _, _, _, _, _, _, _, _, Lib.hid (hX.out.trans hb), Lib.hid ((q1.first hown hg _).cast d1.symm rfl rfl), Lib.hid fun h => i0.out h, Lib.hid fun _ => rfl, Lib.hid fun h => i4.out h, Lib.hid fun h => i5.out h, Lib.hid fun h => i6.out h, Lib.hid fun h => i7.out h, Lib.hid fun h => i10.out h, Lib.hid fun h => i11.out h, Lib.hid fun h => i12.out h, Lib.hid fun h => i13.out h, Lib.hid fun h => i14.out h, Lib.hid fun h => i15.out h⟩
              · obtain rfl := Option.some.inj ho
                refine wpOp_plain ho rfl ?_
                clear ho hd
                go_wp2
                exact ⟨_, _, _, _, _, _, _, _, _, _, _, _, _, _, _, _, _, _, _, _, _, _, _, _, _, _, _, _, _, _, _, _, _, _, _, _, _, _, _, _, _, _, _, _, _, _, _, _, _, _, _, _, _, _, _, _, _, _, _, _, _, _, _, _, _, _, _, _, _, _, _, _, _, _, _, _, _, _, _, _, _, _, _, _, _, _, _, _, _, _, _, _, _, _, _, _, _, _, _, _, _, _, _, _, _, _, _, _, _, _, _, _, _, _, _, _, _, _, _, _, _, _, _, _, _, _, _, _, hX, q, Lib.hid fun h => i0.out h, Lib.hid fun h => i2.out h, Lib.hid fun _ => rfl, Lib.hid fun h => i5.out h, Lib.hid fun h => i6.out h, Lib.hid fun h => i7.out h, Lib.hid fun h => i10.out h, Lib.hid fun h => i11.out h, Lib.hid fun h => i12.out h, Lib.hid fun h => i13.out h, Lib.hid fun h => i14.out h, Lib.hid fun h => i15.out h⟩
              · obtain rfl := Option.some.inj ho
                refine wpOp_plain ho rfl ?_
                clear ho hd
                go_wp2
                exact ⟨_, _, _, _, _, _, _, _, _, _, _, _, _, _, _, _, _, _, _, _, _, _, _, _, _, _, _, _, _, _, _, _, _, _, _, _, _, _, _, _, _, _, _, _, _, _, _, _, _, _, _, _, _, _, _, _, _, _, _, _, _, _, _, _, _, _, _, _, _, _, _, _, _, _, _, _, _, _, _, _, _, _, _, _, _, _, _, _, _, _, _, _, _, _, _, _, _, _, _, _, _, _, _, _, _, _, _, _, _, _, _, _, _, _, _, _, _, _, _, _, _, _, _, _, _, _, _, _, hX, q, Lib.hid fun h => i0.out h, Lib.hid fun h => i2.out h, Lib.hid fun h => i4.out h, Lib.hid fun _ => rfl, Lib.hid fun h => i6.out h, Lib.hid fun h => i7.out h, Lib.hid fun h => i10.out h, Lib.hid fun h => i11.out h, Lib.hid fun h => i12.out h, Lib.hid fun h => i13.out h, Lib.hid fun h => i14.out h, Lib.hid fun h => i15.out h⟩
              · obtain rfl := Option.some.inj ho
                obtain rfl := i4.out (Hd.out ⟨4, .data⟩ (by simp) rfl)
                obtain rfl := i5.out (Hd.out ⟨5, .data⟩ (by simp) rfl)
                have s := HnL.out
                have ti : decide ((n : Int) < (L : Int)) = true := decide_eq_true (by omega)
                refine wpOp_plain ho rfl ?_
                clear ho hd
                go_wp2
                exact ⟨_, _, _, _, _, _, _, _, _, _, _, _, _, _, _, _, _, _, _, _, _, _, _, _, _, _, _, _, _, _, _, _, _, _, _, _, _, _, _, _, _, _, _, _, _, _, _, _, _, _, _, _, _, _, _, _, _, _, _, _, _, _, _, _, _, _, _, _, _, _, _, _, _, _, _, _, _, _, _, _, _, _, _, _, _, _, _, _, _, _, _, _, _, _, _, _, _, _, _, _, _, _, _, _, _, _, _, _, _, _, _, _, _, _, _, _, _, _, _, _, _, _, _, _, _, _, _, _, hX, q, Lib.hid fun h => i0.out h, Lib.hid fun h => i2.out h, Lib.hid fun _ => rfl, Lib.hid fun _ => rfl, Lib.hid fun _ => rfl, Lib.hid fun h => i7.out h, Lib.hid fun h => i10.out h, Lib.hid fun h => i11.out h, Lib.hid fun h => i12.out h, Lib.hid fun h => i13.out h, Lib.hid fun h => i14.out h, Lib.hid fun h => i15.out h⟩
              · obtain rfl := Option.some.inj ho
                obtain rfl := i6.out (Hd.out ⟨6, .data⟩ (by simp) rfl)
                have s0 := rd hX.out E0.out
                have s1 := rd hX.out E1.out
                have s2 := rd hX.out E2.out
                have s3 := rd hX.out E3.out
                refine wpOp_plain ho rfl ?_
                clear ho hd
                go_wp2
                exact ⟨_, _, _, _, _, _, _, _, _, _, _, _, _, _, _, _, _, _, _, _, _, _, _, _, _, _, _, _, _, _, _, _, _, _, _, _, _, _, _, _, _, _, _, _, _, _, _, _, _, _, _, _, _, _, _, _, _, _, _, _, _, _, _, _, _, _, _, _, _, _, _, _, _, _, _, _, _, _, _, _, _, _, _, _, _, _, _, _, _, _, _, _, _, _, _, _, _, _, _, _, _, _, _, _, _, _, _, _, _, _, _, _, _, _, _, _, _, _, _, _, _, _, _, _, _, _, _, _, hX, q, Lib.hid fun h => i0.out h, Lib.hid fun h => i2.out h, Lib.hid fun h => i4.out h, Lib.hid fun h => i5.out h, Lib.hid fun _ => rfl, Lib.hid fun _ => rfl, Lib.hid fun h => i10.out h, Lib.hid fun h => i11.out h, Lib.hid fun h => i12.out h, Lib.hid fun h => i13.out h, Lib.hid fun h => i14.out h, Lib.hid fun h => i15.out h⟩
              · obtain rfl := Option.some.inj ho
                obtain rfl := i7.out (Hd.out ⟨7, .data⟩ (by simp) rfl)
                refine wpOp_plain ho rfl ?_
                clear ho hd
                go_wp2
                exact ⟨_, _, _, _, _, _, _, _, _, _, _, _, _, _, _, _, _, _, _, _, _, _, _, _, _, _, _, _, _, _, _, _, _, _, _, _, _, _, _, _, _, _, _, _, _, _, _, _, _, _, _, _, _, _, _, _, _, _, _, _, _, _, _, _, _, _, _, _, _, _, _, _, _, _, _, _, _, _, _, _, _, _, _, _, _, _, _, _, _, _, _, _, _, _, _, _, _, _, _, _, _, _, _, _, _, _, _, _, _, _, _, _, _, _, _, _, _, _, _, _, _, _, _, _, _, _, _, _, Lib.hid (hX.out.alloc hX.out.size _), Lib.hid q.out.build, Lib.hid fun h => i0.out h, Lib.hid fun h => i2.out h, Lib.hid fun h => i4.out h, Lib.hid fun h => i5.out h, Lib.hid fun h => i6.out h, Lib.hid fun _ => rfl, Lib.hid fun h => i10.out h, Lib.hid fun h => i11.out h, Lib.hid fun h => i12.out h, Lib.hid fun h => i13.out h, Lib.hid fun h => i14.out h, Lib.hid fun h => i15.out h⟩
              · obtain rfl := Option.some.inj ho
                have d5 := Hd.out ⟨3, .data⟩ (by simp) rfl
                have d8 := Hd.out ⟨8, .data⟩ (by simp) rfl
                have q1 := q.out
                have d1 := q1.o5 d5
                rw [hd, d5, d1] at q1
                obtain ⟨N, rfl, g2, g3, g4, _, _, g7, _, _⟩ := q1.row rfl
                obtain rfl := g4 rfl
                have hown0 := g7 rfl rfl
                obtain ⟨M, rfl, gm⟩ := q1.one d8
                refine wpOp_plain ho rfl ?_
                clear ho hd
                refine wp_app_fits w4.heap.size _ _ 65 rfl N L l rfl hown0 ⟨M, 0, none⟩ 1 1 [l[n]?.getD default] rfl rfl (rects_flat (row_news gm)) (L + 1) rfl (by omega) ?_
                intro W1 hown hg
                have hb := grown_base hown0 hg (Below.size hX.out)
                refine hK _ _ ?_
                exact ⟨_, _, _, _, _, _, _, _, _, _, _, _, _, _, _, _, _, _, _, _, _, _, _, _, _, _, _, _, _, _, _, _, _, _, _, _, _, _, _, _, _, _, _, _, _, _, _, _, _, _, _, _, _, _, _, _, _, _, _, _, _, _, _, _, _, _, _, _, _, _, _, _, _, _, _, _, _, _, _, _, _, _, _, _, _, _, _, _, _, _, _, _, _, _, _, _, _, _, _, _, _, _, _, _, _, _, _, _, _, _, _, _, _, _, _, _, _, _, _, _, _, _, _, _, _, _, _, _, Lib.hid (hX.out.trans hb), Lib.hid ((q1.last hown hg).cast d1.symm d5.symm rfl), Lib.hid fun h => i0.out h, Lib.hid fun h => i2.out h, Lib.hid fun h => i4.out h, Lib.hid fun h => i5.out h, Lib.hid fun h => i6.out h, Lib.hid fun h => i7.out h, Lib.hid fun h => i10.out h, Lib.hid fun h => i11.out h, Lib.hid fun h => i12.out h, Lib.hid fun h => i13.out h, Lib.hid fun h => i14.out h, Lib.hid fun h => i15.out h⟩
              · obtain rfl := Option.some.inj ho
                obtain rfl := i0.out (Hd.out ⟨0, .data⟩ (by simp) rfl)
                have d10 := Hd.out ⟨9, .data⟩ (by simp) rfl
                have d5 := q.out.o10 d10
                have d1 := q.out.o5 d5
                obtain ⟨N, g1, g2, g3, _, g5, _, _, g8, _⟩ := q.out.row d1
                obtain rfl := g5 d10
                have hown := g8 d10
                obtain ⟨A2, c2, hv, hr⟩ := own_rects hown Hlen2.out
                cases hv
                have Hr := Lib.hid hr
                clear g1 g2 g3 g5 g8 hown hr d10 d5 d1
                refine wpOp_plain ho rfl ?_
                clear ho hd
                go_wp2_with (go_at_call 19; refine (CM.out _ _ _ Hr.out).mono ?_; rintro e W1 ⟨rfl, hb⟩)
                exact ⟨_, _, _, _, _, _, _, _, _, _, _, _, _, _, _, _, _, _, _, _, _, _, _, _, _, _, _, _, _, _, _, _, _, _, _, _, _, _, _, _, _, _, _, _, _, _, _, _, _, _, _, _, _, _, _, _, _, _, _, _, _, _, _, _, _, _, _, _, _, _, _, _, _, _, _, _, _, _, _, _, _, _, _, _, _, _, _, _, _, _, _, _, _, _, _, _, _, _, _, _, _, _, _, _, _, _, _, _, _, _, _, _, _, _, _, _, _, _, _, _, _, _, _, _, _, _, _, _, Lib.hid (hX.out.trans (hb.mono hX.out.size)), Lib.hid (q.out.turn hb), Lib.hid fun _ => rfl, Lib.hid fun h => i2.out h, Lib.hid fun h => i4.out h, Lib.hid fun h => i5.out h, Lib.hid fun h => i6.out h, Lib.hid fun h => i7.out h, Lib.hid fun _ => rfl, Lib.hid fun h => i11.out h, Lib.hid fun h => i12.out h, Lib.hid fun h => i13.out h, Lib.hid fun h => i14.out h, Lib.hid fun h => i15.out h⟩
              · obtain rfl := Option.some.inj ho
                obtain rfl := i10.out (Hd.out ⟨10, .data⟩ (by simp) rfl)
                refine wpOp_plain ho rfl ?_
                clear ho hd
                go_wp2
                exact ⟨_, _, _, _, _, _, _, _, _, _, _, _, _, _, _, _, _, _, _, _, _, _, _, _, _, _, _, _, _, _, _, _, _, _, _, _, _, _, _, _, _, _, _, _, _, _, _, _, _, _, _, _, _, _, _, _, _, _, _, _, _, _, _, _, _, _, _, _, _, _, _, _, _, _, _, _, _, _, _, _, _, _, _, _, _, _, _, _, _, _, _, _, _, _, _, _, _, _, _, _, _, _, _, _, _, _, _, _, _, _, _, _, _, _, _, _, _, _, _, _, _, _, _, _, _, _, _, _, hX, q, Lib.hid fun h => i0.out h, Lib.hid fun h => i2.out h, Lib.hid fun h => i4.out h, Lib.hid fun h => i5.out h, Lib.hid fun h => i6.out h, Lib.hid fun h => i7.out h, Lib.hid fun _ => rfl, Lib.hid fun _ => rfl, Lib.hid fun h => i12.out h, Lib.hid fun h => i13.out h, Lib.hid fun h => i14.out h, Lib.hid fun h => i15.out h⟩
              · obtain rfl := Option.some.inj ho
                obtain rfl := i11.out (Hd.out ⟨11, .data⟩ (by simp) rfl)
                refine wpOp_plain ho rfl ?_
                clear ho hd
                go_wp2
                exact ⟨_, _, _, _, _, _, _, _, _, _, _, _, _, _, _, _, _, _, _, _, _, _, _, _, _, _, _, _, _, _, _, _, _, _, _, _, _, _, _, _, _, _, _, _, _, _, _, _, _, _, _, _, _, _, _, _, _, _, _, _, _, _, _, _, _, _, _, _, _, _, _, _, _, _, _, _, _, _, _, _, _, _, _, _, _, _, _, _, _, _, _, _, _, _, _, _, _, _, _, _, _, _, _, _, _, _, _, _, _, _, _, _, _, _, _, _, _, _, _, _, _, _, _, _, _, _, _, _, hX, q, Lib.hid fun h => i0.out h, Lib.hid fun h => i2.out h, Lib.hid fun h => i4.out h, Lib.hid fun h => i5.out h, Lib.hid fun h => i6.out h, Lib.hid fun h => i7.out h, Lib.hid fun h => i10.out h, Lib.hid fun _ => rfl, Lib.hid fun _ => rfl, Lib.hid fun h => i13.out h, Lib.hid fun h => i14.out h, Lib.hid fun h => i15.out h⟩
              · obtain rfl := Option.some.inj ho
                obtain rfl := i11.out (Hd.out ⟨11, .data⟩ (by simp) rfl)
                refine wpOp_plain ho rfl ?_
                clear ho hd
                go_wp2
                exact ⟨_, _, _, _, _, _, _, _, _, _, _, _, _, _, _, _, _, _, _, _, _, _, _, _, _, _, _, _, _, _, _, _, _, _, _, _, _, _, _, _, _, _, _, _, _, _, _, _, _, _, _, _, _, _, _, _, _, _, _, _, _, _, _, _, _, _, _, _, _, _, _, _, _, _, _, _, _, _, _, _, _, _, _, _, _, _, _, _, _, _, _, _, _, _, _, _, _, _, _, _, _, _, _, _, _, _, _, _, _, _, _, _, _, _, _, _, _, _, _, _, _, _, _, _, _, _, _, _, hX, q, Lib.hid fun h => i0.out h, Lib.hid fun h => i2.out h, Lib.hid fun h => i4.out h, Lib.hid fun h => i5.out h, Lib.hid fun h => i6.out h, Lib.hid fun h => i7.out h, Lib.hid fun h => i10.out h, Lib.hid fun _ => rfl, Lib.hid fun h => i12.out h, Lib.hid fun _ => rfl, Lib.hid fun h => i14.out h, Lib.hid fun h => i15.out h⟩
              · obtain rfl := Option.some.inj ho
                obtain rfl := i12.out (Hd.out ⟨12, .data⟩ (by simp) rfl)
                refine wpOp_plain ho rfl ?_
                clear ho hd
                go_wp2
                exact ⟨_, _, _, _, _, _, _, _, _, _, _, _, _, _, _, _, _, _, _, _, _, _, _, _, _, _, _, _, _, _, _, _, _, _, _, _, _, _, _, _, _, _, _, _, _, _, _, _, _, _, _, _, _, _, _, _, _, _, _, _, _, _, _, _, _, _, _, _, _, _, _, _, _, _, _, _, _, _, _, _, _, _, _, _, _, _, _, _, _, _, _, _, _, _, _, _, _, _, _, _, _, _, _, _, _, _, _, _, _, _, _, _, _, _, _, _, _, _, _, _, _, _, _, _, _, _, _, _, hX, q, Lib.hid fun h => i0.out h, Lib.hid fun h => i2.out h, Lib.hid fun h => i4.out h, Lib.hid fun h => i5.out h, Lib.hid fun h => i6.out h, Lib.hid fun h => i7.out h, Lib.hid fun h => i10.out h, Lib.hid fun h => i11.out h, Lib.hid fun _ => rfl, Lib.hid fun h => i13.out h, Lib.hid fun _ => rfl, Lib.hid fun h => i15.out h⟩
              · obtain rfl := Option.some.inj ho
                obtain rfl := i13.out (Hd.out ⟨13, .data⟩ (by simp) rfl)
                refine wpOp_plain ho rfl ?_
                clear ho hd
                go_wp2
                exact ⟨_, _, _, _, _, _, _, _, _, _, _, _, _, _, _, _, _, _, _, _, _, _, _, _, _, _, _, _, _, _, _, _, _, _, _, _, _, _, _, _, _, _, _, _, _, _, _, _, _, _, _, _, _, _, _, _, _, _, _, _, _, _, _, _, _, _, _, _, _, _, _, _, _, _, _, _, _, _, _, _, _, _, _, _, _, _, _, _, _, _, _, _, _, _, _, _, _, _, _, _, _, _, _, _, _, _, _, _, _, _, _, _, _, _, _, _, _, _, _, _, _, _, _, _, _, _, _, _, hX, q, Lib.hid fun h => i0.out h, Lib.hid fun h => i2.out h, Lib.hid fun h => i4.out h, Lib.hid fun h => i5.out h, Lib.hid fun h => i6.out h, Lib.hid fun h => i7.out h, Lib.hid fun h => i10.out h, Lib.hid fun h => i11.out h, Lib.hid fun h => i12.out h, Lib.hid fun _ => rfl, Lib.hid fun h => i14.out h, Lib.hid fun _ => rfl⟩
            · rintro done a X hall ⟨v22, v23, v122, v123, v124, v125, v126, v127, v128, v129, v130, v131, v132, v133, v134, v135, f0, f1, f2, f3, f4, f5, f6, f9, f10, f11, f12, f13, f14, f15, f24, f25, f26, f27, f28, f29, f30, f31, f32, f33, f34, f35, f36, f37, f38, f39, f40, f41, f42, f43, f44, f45, f46, f47, f48, f49, f50, f51, f52, f53, f54, f55, f56, f57, f58, f59, f60, f61, f62, f63, f64, f65, f66, f67, f68, f69, f70, f71, f72, f73, f74, f75, f76, f77, f78, f79, f80, f81, f82, f83, f84, f85, f86, f87, f88, f89, f90, f91, f92, f93, f94, f95, f96, f97, f98, f99, f100, f101, f102, f103, f104, f105, f106, f107, f108, f109, f110, f111, f112, f113, f114, f115, f116, f117, f118, f119, f120, f121, hX, q, i0, i2, i4, i5, i6, i7, i10, i11, i12, i13, i14, i15⟩
              obtain rfl := i0.out (hall 0 (by simp))
              obtain rfl := i2.out (hall 2 (by simp))
              obtain rfl := i4.out (hall 4 (by simp))
              obtain rfl := i5.out (hall 5 (by simp))
              obtain rfl := i6.out (hall 6 (by simp))
              obtain rfl := i7.out (hall 7 (by simp))
              obtain rfl := i10.out (hall 10 (by simp))
              obtain rfl := i11.out (hall 11 (by simp))
              obtain rfl := i12.out (hall 12 (by simp))
              obtain rfl := i13.out (hall 13 (by simp))
              obtain rfl := i14.out (hall 14 (by simp))
              obtain rfl := i15.out (hall 15 (by simp))
              clear i0 i2 i4 i5 i6 i7 i10 i11 i12 i13 i14 i15
              have HB5 := Lib.hid (HB4.out.trans (hX.out.mono HB4.out.size))
              clear q hX hall
              dsimp only
              go_wp2_with (fail)
              go_ret
              exact ⟨rfl, HB5.out⟩
end Go.Proofs.Ytnlojbkjhlhogaa
