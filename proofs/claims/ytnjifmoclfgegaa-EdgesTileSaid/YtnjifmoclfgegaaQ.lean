/- The walk of the law EdgesWithin where Cells says no. -/
import Derived.Test.YtnjifmoclfgegaaP
namespace Go.Proofs.Ytnjifmoclfgegaa
open Go.RowKit Go.Shelf
set_option linter.unusedVariables false

set_option maxRecDepth 100000 in
set_option maxHeartbeats 4000000 in
theorem within_low_wrong (A Ac Ar : Option Addr) (n0 c : Nat) (h60 : n0 ≤ 60) (cols0 cols rows0 rows : List Int) (cc cr : Nat) (g0 g1 : Int) (rs : List Rect) (er : Int) (w : World) (hcp : n0 ≤ c) (hlp0 : n0 ≤ 17592186044416)
    (hlc : cols.length = min cols0.length 100) (hcc : cols0.length ≤ cc) (hlc0 : cols0.length ≤ 17592186044416) (hlr : rows.length = min rows0.length 100) (hcr : rows0.length ≤ cr) (hlr0 : rows0.length ≤ 17592186044416) (hrs : rs.length ≤ 17592186044416)
    (her : er = 100 ∧ rs = [])
    (h21 : ∀ W, Below w.heap.size w W → Calls Try.prog 21 #[.slice A n0 c, .slice Ac cols.length cc, .slice Ar rows.length cr, .agg #[.int .i64 g0, .int .i64 g1]] W (CellsGive rs er W)) :
    Calls Try.prog 7 #[.slice A n0 c, .slice Ac cols0.length cc, .slice Ar rows0.length cr, .agg #[.int .i64 g0, .int .i64 g1]] w fun e w' => e = .returned (.bool true) ∧ Below w.heap.size w w' := by
  obtain ⟨rfl, rfl⟩ := her
  have Cells := Lib.hid h21
  have Cutc := Lib.hid (fun W => c11 Ac cols0.length cc W hcc hlc0)
  have Cutr := Lib.hid (fun W => c11 Ar rows0.length cr W hcr hlr0)
  have Lenc := Lib.hid hlc
  have Lenr := Lib.hid hlr
  have HB0 : Hid (Below w.heap.size w (w.alloc (.cells #[.int .i64 g0, .int .i64 g1] 38))) := Lib.hid ((Below.refl _ w).alloc (Nat.le_refl _) _)
  have r7 := heap_alloc_new w (.cells #[.int .i64 g0, .int .i64 g1] 38)
  have H7 := Lib.hid r7
  clear h21 hlc hlr r7
  go_enter Try.func7, Try.ntmps7
  go_wp2_with (fail)
  refine (c10 _).mono ?_
  rintro e w1 ⟨rfl, hb1⟩
  have r7 := (hb1.block _ (Array.getElem?_eq_some_iff.1 H7.out).1).trans H7.out
  have p0 : w1.cell? ⟨w.heap.size, 0, none⟩ = some (.int .i64 g0) := by simp [World.cell?, r7]
  have p1 : w1.cell? ⟨w.heap.size, 1, none⟩ = some (.int .i64 g1) := by simp [World.cell?, r7]
  have HBw := Lib.hid (HB0.out.trans (hb1.mono HB0.out.size))
  clear hb1 r7
  go_wp2_with (fail)
  refine (Cutc.out _).mono ?_
  rintro e W1 ⟨m, ⟨hm, rfl⟩, rfl⟩
  obtain rfl : m = cols.length := (by rw [hm]; exact Lenc.out.symm)
  clear hm
  go_wp2_with (fail)
  refine (Cutr.out _).mono ?_
  rintro e W1 ⟨m, ⟨hm, rfl⟩, rfl⟩
  obtain rfl : m = rows.length := (by rw [hm]; exact Lenr.out.symm)
  clear hm
  go_wp2_with (fail)
  refine (Cells.out _ HBw.out).mono ?_
  rintro e w3 ⟨⟨A', c', rfl, hrc⟩, hb3⟩
  have HB3 := Lib.hid (HBw.out.trans (hb3.mono HBw.out.size))
  clear hb3 hrc p0 p1
  go_wp2
  go_ret
  exact ⟨rfl, HB3.out⟩

set_option maxRecDepth 100000 in
set_option maxHeartbeats 4000000 in
theorem within_high_wrong (A Ac Ar : Option Addr) (n0 c : Nat) (h60 : 60 < n0) (cols0 cols rows0 rows : List Int) (cc cr : Nat) (g0 g1 : Int) (rs : List Rect) (er : Int) (w : World) (hcp : n0 ≤ c) (hlp0 : n0 ≤ 17592186044416)
    (hlc : cols.length = min cols0.length 100) (hcc : cols0.length ≤ cc) (hlc0 : cols0.length ≤ 17592186044416) (hlr : rows.length = min rows0.length 100) (hcr : rows0.length ≤ cr) (hlr0 : rows0.length ≤ 17592186044416) (hrs : rs.length ≤ 17592186044416)
    (her : er = 100 ∧ rs = [])
    (h21 : ∀ W, Below w.heap.size w W → Calls Try.prog 21 #[.slice A 60 c, .slice Ac cols.length cc, .slice Ar rows.length cr, .agg #[.int .i64 g0, .int .i64 g1]] W (CellsGive rs er W)) :
    Calls Try.prog 7 #[.slice A n0 c, .slice Ac cols0.length cc, .slice Ar rows0.length cr, .agg #[.int .i64 g0, .int .i64 g1]] w fun e w' => e = .returned (.bool true) ∧ Below w.heap.size w w' := by
  obtain ⟨rfl, rfl⟩ := her
  have Cells := Lib.hid h21
  have Cutc := Lib.hid (fun W => c11 Ac cols0.length cc W hcc hlc0)
  have Cutr := Lib.hid (fun W => c11 Ar rows0.length cr W hcr hlr0)
  have Lenc := Lib.hid hlc
  have Lenr := Lib.hid hlr
  have HB0 : Hid (Below w.heap.size w (w.alloc (.cells #[.int .i64 g0, .int .i64 g1] 38))) := Lib.hid ((Below.refl _ w).alloc (Nat.le_refl _) _)
  have r7 := heap_alloc_new w (.cells #[.int .i64 g0, .int .i64 g1] 38)
  have H7 := Lib.hid r7
  clear h21 hlc hlr r7
  go_enter Try.func7, Try.ntmps7
  go_wp2_with (fail)
  refine (c10 _).mono ?_
  rintro e w1 ⟨rfl, hb1⟩
  have r7 := (hb1.block _ (Array.getElem?_eq_some_iff.1 H7.out).1).trans H7.out
  have p0 : w1.cell? ⟨w.heap.size, 0, none⟩ = some (.int .i64 g0) := by simp [World.cell?, r7]
  have p1 : w1.cell? ⟨w.heap.size, 1, none⟩ = some (.int .i64 g1) := by simp [World.cell?, r7]
  have HBw := Lib.hid (HB0.out.trans (hb1.mono HB0.out.size))
  clear hb1 r7
  go_wp2_with (fail)
  refine (Cutc.out _).mono ?_
  rintro e W1 ⟨m, ⟨hm, rfl⟩, rfl⟩
  obtain rfl : m = cols.length := (by rw [hm]; exact Lenc.out.symm)
  clear hm
  go_wp2_with (fail)
  refine (Cutr.out _).mono ?_
  rintro e W1 ⟨m, ⟨hm, rfl⟩, rfl⟩
  obtain rfl : m = rows.length := (by rw [hm]; exact Lenr.out.symm)
  clear hm
  go_wp2_with (fail)
  refine (Cells.out _ HBw.out).mono ?_
  rintro e w3 ⟨⟨A', c', rfl, hrc⟩, hb3⟩
  have HB3 := Lib.hid (HBw.out.trans (hb3.mono HBw.out.size))
  clear hb3 hrc p0 p1
  go_wp2
  go_ret
  exact ⟨rfl, HB3.out⟩

end Go.Proofs.Ytnjifmoclfgegaa
