/- Contract of collapse.Outer. -/
import Derived.Test.YtmlcjiabnmdfeaaX
namespace Go.Proofs.Ytmlcjiabnmdfeaa
open Go Go.RowKit Go.Shelf CT
set_option linter.unusedVariables false

theorem res20 {tmps : Array Value} {W : World} {H : Nat} {x : I4} {e : Value} (h2 : tmps[4]?.getD undef = .pointer (some ⟨H, 0, none⟩)) (h5 : tmps[5]?.getD undef = e) (h : W.heap[H]? = some (.cells x.arr 52 (0, 0))) :
    (results Try.f20 tmps).run Try.prog W = .ok (.tuple #[.agg x.arr, e]) W := by
  have c0 : W.cell? ⟨H, 0, none⟩ = some (.int .i64 x.a) := cell_of h rfl
  have c1 : W.cell? ⟨H, 1, none⟩ = some (.int .i64 x.b) := cell_of h rfl
  have c2 : W.cell? ⟨H, 2, none⟩ = some (.int .i64 x.c) := cell_of h rfl
  have c3 : W.cell? ⟨H, 3, none⟩ = some (.int .i64 x.d) := cell_of h rfl
  simp [results, Try.results20, go_sem, h2, h5, c0, c1, c2, c3, I4.arr]
theorem size52' (x : I4) : (Try.prog.info? 52).map (·.size) = some x.arr.size := by
  have h : (Try.prog.info? 52).map (·.size) = some 4 := by kernel_rfl
  exact h
theorem I4.one' (x : I4) : x.arr.all (·.oneCell') = true := by simp [I4.arr, Value.oneCell']
/-- how far borders reach out of the grid -/
def outer4 (f : Fr) (l : List Edge) : I4 := halves4 l ⟨0, 0, f.R, f.C⟩ false

set_option maxRecDepth 100000 in
set_option maxHeartbeats 8000000 in
/-- collapse.Outer -/
theorem c20 (f : Fr) (E : Option Addr) (l : List Edge) (cp : Nat) (w : World) (hI : f.In w) (hR : f.R ≤ 8) (hC : f.C ≤ 8) (hE : GR.Many Edge.cells 10 w E l) (hl : l.length ≤ 1000000) (hw : ∀ x ∈ l, x.width ≤ 9223372036854775807) :
    Calls Try.prog 20 #[.agg f.arr, .slice E l.length cp] w fun e w' => (okFr f = true → e = .returned (.tuple #[.agg (outer4 f l).arr, .int .i64 0])) ∧
      (okFr f = false → e = .returned (.tuple #[.agg (⟨0, 0, 0, 0⟩ : I4).arr, .int .i64 120])) ∧ Below w.heap.size w w' := by
  obtain ⟨w3, hw3⟩ : ∃ w3, (w.alloc (.cells f.arr 30)).alloc (.cells #[.int .i64 0, .int .i64 0, .int .i64 0, .int .i64 0] 52) = w3 := ⟨_, rfl⟩
  have hb3 : Below w.heap.size w w3 := by rw [← hw3]; exact ((Below.refl _ w).alloc (Nat.le_refl _) _).alloc (by simp) _
  have hA : f.At w3 w.heap.size := by rw [← hw3]; exact ⟨(Below.heap_alloc _ _ _ (by simp)).trans (heap_alloc_new w _)⟩
  have hO : w3.heap[w.heap.size + 1]? = some (.cells (⟨0, 0, 0, 0⟩ : I4).arr 52 (0, 0)) := by
    rw [← hw3]
    have := heap_alloc_new (w.alloc (.cells f.arr 30)) (.cells (⟨0, 0, 0, 0⟩ : I4).arr 52)
    have e : (w.alloc (.cells f.arr 30)).heap.size = w.heap.size + 1 := by simp
    rw [e] at this
    exact this
  have HSZ : Hid (w3.heap.size = w.heap.size + 1 + 1) := Lib.hid (by rw [← hw3]; simp)
  have hba : Below w3.heap.size w3 (w3.alloc (.cells #[.int .i64 0, .int .i64 0, .int .i64 f.R, .int .i64 f.C] 87)) := (Below.refl _ _).alloc (Nat.le_refl _) _
  have HX := Lib.hid (heap_alloc_new w3 (.cells #[.int .i64 0, .int .i64 0, .int .i64 f.R, .int .i64 f.C] 87))
  have HO := Lib.hid ((hba.block _ (Array.getElem?_eq_some_iff.1 hO).1).trans hO)
  have HB := Lib.hid (hb3.trans (hba.mono hb3.size))
  have HA := Lib.hid (hA.turn hba)
  have HI := Lib.hid hI
  have HE := Lib.hid hE
  have H14 := Lib.hid (fun W hx => c14 f W hx hR hC)
  have H37 := Lib.hid fun W hx => c37 E l cp ⟨0, 0, f.R, f.C⟩ false W hx hl hw
  obtain ⟨n, hn⟩ : ∃ n : Nat, l.length = n := ⟨_, rfl⟩
  rw [hn] at H37 ⊢
  obtain ⟨ok, hok⟩ : ∃ b, okFr f = b := ⟨_, rfl⟩
  have HOK := Lib.hid hok
  rw [hok] at H14
  obtain ⟨y, hy⟩ : ∃ y, outer4 f l = y := ⟨_, rfl⟩
  have Hy : Hid (four (halvesOf l ⟨0, 0, f.R, f.C⟩ false) = y.arr) := Lib.hid (by rw [← hy]; rfl)
  rw [Hy.out] at H37
  rw [hy]
  have HW3 := Lib.hid hw3
  obtain ⟨p0, p1, _⟩ := hA.eight
  have HP0 := Lib.hid p0
  have HP1 := Lib.hid p1
  rw [← hw3] at p0 p1
  clear hI hR hC hE hw hl hn hok hA hb3 hO hba hw3 hy
  go_enter Try.func20, Try.ntmps20
  go_wp2_with (refine wpList_load (cs := f.arr) _ rfl rfl rfl (by rw [HW3.out]; exact HA.out.at_) Try.underlying30 rfl (size30 f) ?_)
  rw [HW3.out]
  clear p0 p1
  generalize w3.alloc (.cells #[.int .i64 0, .int .i64 0, .int .i64 f.R, .int .i64 f.C] 87) = w4 at *
  refine (H14.out _ (HI.out.turn HB.out)).mono ?_
  rintro e w2 ⟨rfl, hb⟩
  have HB2 := Lib.hid (HB.out.trans (hb.mono HB.out.size))
  have HO2 := Lib.hid ((hb.block _ (Array.getElem?_eq_some_iff.1 HO.out).1).trans HO.out)
  have HX2 := Lib.hid ((hb.block _ (Array.getElem?_eq_some_iff.1 HX.out).1).trans HX.out)
  clear hb
  cases ok with
  | false =>
    have k0 := cell_of (j := 0) HO2.out rfl
    have k1 := cell_of (j := 1) HO2.out rfl
    have k2 := cell_of (j := 2) HO2.out rfl
    have k3 := cell_of (j := 3) HO2.out rfl
    go_wp2_with (refine wpList_store (old := (⟨0, 0, 0, 0⟩ : I4).arr) (cs := (⟨0, 0, 0, 0⟩ : I4).arr) rfl rfl rfl rfl HO2.out (size52' _) rfl (I4.one' _) ?_)
    refine ⟨rfl, _, res20 (x := ⟨0, 0, 0, 0⟩) rfl rfl (setRow_heap _ _ _ _ _ _ HO2.out), ?_⟩
    exact ⟨fun h => (by rw [HOK.out] at h; cases h), fun _ => rfl, HB2.out.trans (CT.below_setRow HB2.out.size (Nat.le_succ _))⟩
  | true =>
    have k0 : w2.cell? ⟨w.heap.size + 1 + 1, 0, none⟩ = some (.int .i64 0) := by rw [← HSZ.out]; exact cell_of HX2.out rfl
    have k1 : w2.cell? ⟨w.heap.size + 1 + 1, 1, none⟩ = some (.int .i64 0) := by rw [← HSZ.out]; exact cell_of HX2.out rfl
    have k2 : w2.cell? ⟨w.heap.size + 1 + 1, 2, none⟩ = some (.int .i64 f.R) := by rw [← HSZ.out]; exact cell_of HX2.out rfl
    have k3 : w2.cell? ⟨w.heap.size + 1 + 1, 3, none⟩ = some (.int .i64 f.C) := by rw [← HSZ.out]; exact cell_of HX2.out rfl
    go_wp2_with (fail)
    clear k0 k1 k2 k3
    refine (H37.out _ (HE.out.below HB2.out)).mono ?_
    rintro e w6 ⟨rfl, hb⟩
    have HB6 := Lib.hid (HB2.out.trans (hb.mono HB2.out.size))
    have HO6 := Lib.hid ((hb.block _ (Array.getElem?_eq_some_iff.1 HO2.out).1).trans HO2.out)
    clear hb
    go_wp2_with (refine wpList_store (old := (⟨0, 0, 0, 0⟩ : I4).arr) (cs := y.arr) rfl rfl rfl rfl HO6.out (size52' _) rfl (I4.one' _) ?_)
    refine ⟨rfl, _, res20 (x := y) rfl rfl (setRow_heap _ _ _ _ _ _ HO6.out), ?_⟩
    exact ⟨fun _ => rfl, fun h => (by rw [HOK.out] at h; cases h), HB6.out.trans (CT.below_setRow HB6.out.size (Nat.le_succ _))⟩
end Go.Proofs.Ytmlcjiabnmdfeaa
