/- The library's sort at sides: its contract laid at this program, and the contract of contest.Sorted. -/
import Derived.Test.YtffnnfdlelaonaaSB
import Derived.Shelf.SlSortCmp.NoneTotal
import Derived.Ground.SlsfProg
namespace Go.Proofs.Ytffnnfdlelaonaa
open Go Go.RowKit Go.Shelf
open Go.Sort hiding Below
set_option linter.unusedVariables false

def sortSides_ren : Go.Shelf.Ren := ⟨fun | 6 => 36 | 15 => 42 | 14 => 41 | 28 => 51 | 29 => 52 | 20 => 43 | 21 => 44 | 22 => 45 | 23 => 46 | 24 => 47 | 25 => 48 | 26 => 49 | 27 => 50 | 46 => 53 | 47 => 54 | 48 => 55 | 49 => 56 | 50 => 57 | 57 => 58 | n => n, fun | 22 => 25 | 24 => 30 | 25 => 50 | 3 => 3 | 39 => 47 | 0 => 0 | 53 => 26 | 55 => 82 | 4 => 4 | 46 => 74 | 45 => 73 | 50 => 78 | 5 => 5 | 9 => 9 | 66 => 83 | 70 => 87 | 76 => 89 | 77 => 90 | n => n, fun | n => n⟩
theorem sortSides : Go.Proofs.SlLaysF0.n6 Try.prog sortSides_ren := {
  mixed := by kernel_rfl
  f6 := ⟨Try.f36.name, by decide, Try.func36.trans (congrArg some (by kernel_rfl))⟩
  f14 := ⟨Try.f41.name, by decide, Try.func41.trans (congrArg some (by kernel_rfl))⟩
  f15 := Try.func42.trans (congrArg some (by kernel_rfl))
  f20 := ⟨Try.f43.name, by decide, Try.func43.trans (congrArg some (by kernel_rfl))⟩
  f21 := ⟨Try.f44.name, by decide, Try.func44.trans (congrArg some (by kernel_rfl))⟩
  f22 := ⟨Try.f45.name, by decide, Try.func45.trans (congrArg some (by kernel_rfl))⟩
  f23 := ⟨Try.f46.name, by decide, Try.func46.trans (congrArg some (by kernel_rfl))⟩
  f24 := ⟨Try.f47.name, by decide, Try.func47.trans (congrArg some (by kernel_rfl))⟩
  f25 := ⟨Try.f48.name, by decide, Try.func48.trans (congrArg some (by kernel_rfl))⟩
  f26 := ⟨Try.f49.name, by decide, Try.func49.trans (congrArg some (by kernel_rfl))⟩
  f27 := ⟨Try.f50.name, by decide, Try.func50.trans (congrArg some (by kernel_rfl))⟩
  f28 := Try.func51.trans (congrArg some (by kernel_rfl))
  f29 := Try.func52.trans (congrArg some (by kernel_rfl))
  f46 := ⟨Try.f53.name, by decide, Try.func53.trans (congrArg some (by kernel_rfl))⟩
  f47 := Try.func54.trans (congrArg some (by kernel_rfl))
  f48 := Try.func55.trans (congrArg some (by kernel_rfl))
  f49 := ⟨Try.f56.name, by decide, Try.func56.trans (congrArg some (by kernel_rfl))⟩
  f50 := ⟨Try.f57.name, by decide, Try.func57.trans (congrArg some (by kernel_rfl))⟩
  f57 := ⟨Try.f58.name, by decide, Try.func58.trans (congrArg some (by kernel_rfl))⟩
  t0 := Try.underlying0
  a0 := Try.isAgg0
  z0 := Try.sizeOf0
  v0 := Try.zeroValue0
  t3 := Try.underlying3
  a3 := Try.isAgg3
  z3 := Try.sizeOf3
  v3 := Try.zeroValue3
  t4 := Try.underlying4
  a4 := Try.isAgg4
  z4 := Try.sizeOf4
  v4 := Try.zeroValue4
  t5 := Try.underlying5
  a5 := Try.isAgg5
  z5 := Try.sizeOf5
  v5 := Try.zeroValue5
  t9 := Try.underlying9
  a9 := Try.isAgg9
  z9 := Try.sizeOf9
  v9 := Try.zeroValue9
  t22 := Try.underlying25
  a22 := Try.isAgg25
  z22 := Try.sizeOf25
  v22 := Try.zeroValue25
  t25 := Try.underlying50
  a25 := Try.isAgg50
  z25 := Try.sizeOf50
  v25 := Try.zeroValue50
  t39 := Try.underlying47
  a39 := Try.isAgg47
  z39 := Try.sizeOf47
  v39 := Try.zeroValue47
  t45 := Try.underlying73
  a45 := Try.isAgg73
  z45 := Try.sizeOf73
  v45 := Try.zeroValue73
  t46 := Try.underlying74
  a46 := Try.isAgg74
  z46 := Try.sizeOf74
  v46 := Try.zeroValue74
  t50 := Try.underlying78
  a50 := Try.isAgg78
  z50 := Try.sizeOf78
  v50 := Try.zeroValue78
  t53 := Try.underlying26
  a53 := Try.isAgg26
  z53 := Try.sizeOf26
  v53 := Try.zeroValue26
  t55 := Try.underlying82
  a55 := Try.isAgg82
  z55 := Try.sizeOf82
  v55 := Try.zeroValue82
  t66 := Try.underlying83
  a66 := Try.isAgg83
  z66 := Try.sizeOf83
  v66 := Try.zeroValue83
  t70 := Try.underlying87
  a70 := Try.isAgg87
  z70 := Try.sizeOf87
  v70 := Try.zeroValue87
  t76 := Try.underlying89
  a76 := Try.isAgg89
  z76 := Try.sizeOf89
  v76 := Try.zeroValue89
  t77 := Try.underlying90
  a77 := Try.isAgg90
  z77 := Try.sizeOf90
  v77 := Try.zeroValue90 }

/-- sides that are right -/
abbrev RS : Type := { s : Side // right s = true ∧ s.wf }
instance : Inhabited RS := ⟨⟨⟨0, 0, 0, 0, 0, 0⟩, by decide, by unfold Side.wf; decide⟩⟩
def encR (x : RS) : List Value := x.1.cells
def cfR (x y : RS) : Int := ord x.1 y.1
theorem ltR (x y : RS) : ltOf cfR x y = decide (ord x.1 y.1 < 0) := rfl
theorem swoR : Sort.SWO (ltOf cfR) where
  irrefl x := by rw [ltR, ord_self]; rfl
  trans x y z h1 h2 := by
    rw [ltR, decide_eq_true_eq] at *
    exact ord_trans h1 h2
  ntrans x y z h1 h2 := by
    rw [ltR, decide_eq_false_iff_not] at *
    intro h
    by_cases h0 : ord x.1 y.1 = 0
    · rw [ord_zero h0] at h; exact h2 h
    · have h3 := ord_neg x.1 y.1
      exact h2 (ord_trans (show ord y.1 x.1 < 0 by omega) h)
theorem totR (x y : RS) (h1 : ltOf cfR x y = false) (h2 : ltOf cfR y x = false) : x = y := by
  rw [ltR, decide_eq_false_iff_not] at *
  have h3 := ord_neg x.1 y.1
  exact Subtype.ext (ord_zero (show ord x.1 y.1 = 0 by omega))
theorem encR_one (x : RS) : ∀ v ∈ encR x, v.oneCell' = true := side_one x.1
theorem cmpR (blk off size : Nat) (w : World) : CmpLays Try.prog 26 #[] encR 6 cfR blk off size w := fun m os dk _ x y =>
  (DR.c26d x.1 y.1 _ x.2.1 x.2.2 y.2.1 y.2.2).mono fun e w' ⟨he, hb⟩ => ⟨he, DR.grow_of_bd hb⟩

/-- sides in order -/
def srt (xs : List Side) : List Side := xs.mergeSort fun x y => !decide (ord y x < 0)
theorem srt_map (rs : List RS) : (rs.mergeSort fun x y => !(ltOf cfR) y x).map (·.1) = srt (rs.map (·.1)) := List.map_mergeSort fun a _ b _ => rfl
theorem srt_len (xs : List Side) : (srt xs).length = xs.length := List.length_mergeSort _
theorem rs_of : ∀ (xs : List Side), (∀ x ∈ xs, right x = true ∧ x.wf) → ∃ rs : List RS, rs.map (·.1) = xs
  | [], _ => ⟨[], rfl⟩
  | x :: xs, h => by
    obtain ⟨rs, hrs⟩ := rs_of xs fun y hy => h y (List.mem_cons_of_mem _ hy)
    exact ⟨⟨x, h x List.mem_cons_self⟩ :: rs, by rw [List.map_cons, hrs]⟩
theorem getD_map (rs : List RS) (j : Nat) (h : j < rs.length) : (rs.map (·.1))[j]?.getD default = (rs.toArray[j]!).1 := by
  rw [List.getElem?_map, List.getElem?_eq_getElem h, getElem!_pos rs.toArray j (by simpa using h)]
  rfl
theorem holds_of_own {w : World} {base g cap : Nat} {rs : List RS} (h : w.ownsRow base 30 6 (.slice (some ⟨g, 0, none⟩) rs.length cap) rs.length (GR.flat Side.cells (rs.map (·.1)))) : HoldsK encR 6 w g 0 rs.toArray := by
  obtain ⟨A, cap', hv, _, hm, _⟩ := GR.own_many side_len h (by simp)
  cases hv
  have hfz : ∀ j, w.frozen? ⟨g, j, none⟩ = false := by
    rcases h.2 with ⟨hv, _⟩ | ⟨g', cap', cur, hv, _, hg, _⟩
    · cases hv
    · cases hv
      intro j
      simp [World.frozen?, hg]
  intro t ht
  rw [size_flatK, List.size_toArray] at ht
  rw [get_flatK _ _ _ _ (by simpa using ht)]
  refine ⟨?_, hfz _⟩
  have hq : t / 6 < rs.length := (Nat.div_lt_iff_lt_mul (by decide)).2 ht
  have hr := Nat.mod_lt t (show 6 > 0 by decide)
  obtain ⟨b, off, hA, hat, _⟩ := hm (t / 6) (by simpa using hq)
  cases hA
  rw [getD_map rs _ hq] at hat
  have hlen : (encR rs.toArray[t / 6]!).length = 6 := rfl
  have := hat (t % 6) _ (List.getElem?_eq_getElem (show t % 6 < (Side.cells (rs.toArray[t / 6]!).1).length from hr))
  rw [show 0 + t / 6 * 6 + t % 6 = 0 + t by omega] at this
  rw [this]
  congr 1
  rw [getElem!_pos (encR rs.toArray[t / 6]!) (t % 6) hr]
  rfl
theorem many_of_holds {w : World} {g off : Nat} {rs : List RS} (hg : g < w.heap.size) (h : HoldsK encR 6 w g off rs.toArray) : MS w (some ⟨g, off, none⟩) (rs.map (·.1)) := fun j hj => by
  rw [List.length_map] at hj
  refine ⟨g, off, rfl, fun r u hu => ?_, hg⟩
  rw [getD_map rs j hj] at hu
  have hr : r < 6 := (List.getElem?_eq_some_iff.1 hu).1
  have := (h.cell (i := j) (c := r) (by simpa using hj) hr).1
  rw [this]
  congr 1
  rw [getElem!_pos (encR rs.toArray[j]!) r hr]
  exact (List.getElem?_eq_some_iff.1 hu).2
theorem sorted_below {w : World} {g n : Nat} {d : Array RS} {os : Array Obj} (hg : g ≤ w.heap.size) : Below g w (sortWorldK encR 6 w g 0 n d os) := by
  refine ⟨rfl, rfl, rfl, size_sortWorldK_c encR 6 w g 0 n d os, fun k hk => ?_⟩
  unfold sortWorldK
  rw [Sort.heap_grow_old _ _ (by rw [size_putRowK]; show k < w.heap.size; omega)]
  simp only [putRowK, Sort.putRow, Sort.mapBlock]
  rw [Array.getElem?_modify, if_neg (by omega)]
  rfl

/-- slices.SortFunc, of a row of the call's own that holds right sides -/
theorem c36 (base : Nat) (v : Value) (xs : List Side) (w : World) (hown : w.ownsRow base 30 6 v xs.length (GR.flat Side.cells xs)) (hr : ∀ x ∈ xs, right x = true ∧ x.wf) (hl : xs.length ≤ 1000) (hb : base ≤ w.heap.size) :
    Calls Try.prog 36 #[v, .func (.func 26) #[] #[]] w fun e w' => e = .returned (.tuple #[]) ∧ (∃ A c, v = .slice A (srt xs).length c ∧ MS w' A (srt xs)) ∧ Below base w w' := by
  obtain ⟨rs, rfl⟩ := rs_of xs hr
  rw [List.length_map] at hown hl
  have hcase := hown.2
  rcases hcase with ⟨rfl, h0⟩ | ⟨g, cap, cur, rfl, hbg, hg, _⟩
  · have hn := AnyF.slices_SortFunc_none (P := Try.prog) (ρ := sortSides_ren) { sortSides with } none 0 (.func (.func 26) #[] #[]) w
    have h36 : Calls Try.prog 36 #[.slice none 0 0, .func (.func 26) #[] #[]] w fun e w' => e = .returned (.tuple #[]) ∧ w' = w := hn
    refine h36.mono fun e w' ⟨he, hw⟩ => ⟨he, ⟨none, 0, ?_, ?_⟩, hw ▸ Below.refl _ _⟩
    · rw [srt_len, List.length_map, h0]
    · intro j hj
      rw [srt_len, List.length_map] at hj
      omega
  · have hH := holds_of_own hown
    have hgs : g < w.heap.size := (Array.getElem?_eq_some_iff.1 hg).1
    have eg : ∀ args w, (callFunc 26 args).run Try.prog w = .ok (.enter 26 args) w := enters_of Try.func26 (by kernel_rfl) rfl
    have hcon := AnyQ.slices_SortFunc_total sortSides 6 Try.isAgg30 Try.sizeOf30 encR (fun _ => rfl) encR_one cfR swoR 26 #[] g 0 cap rs.toArray w eg (cmpR g 0 rs.toArray.size w) hH hgs (by simp; omega) totR
    have h36 : Calls Try.prog 36 #[.slice (some ⟨g, 0, none⟩) rs.toArray.size cap, .func (.func 26) #[] #[]] w fun e w' => e = .returned (.tuple #[]) ∧ ∃ n os, w' = sortWorldK encR 6 w g 0 n (rs.toArray.toList.mergeSort fun x y => !(ltOf cfR) y x).toArray os := hcon
    rw [List.size_toArray] at h36
    refine h36.mono fun e w' ⟨he, n, os, hw⟩ => ⟨he, ⟨some ⟨g, 0, none⟩, cap, ?_, ?_⟩, ?_⟩
    · rw [srt_len, List.length_map]
    · have hs := holdsK_sortWorldK_c encR 6 w g 0 rs.toArray (rs.mergeSort fun x y => !(ltOf cfR) y x).toArray n os hH hgs (by simp)
      rw [← srt_map]
      rw [hw]
      exact many_of_holds (Nat.lt_of_lt_of_le hgs (size_sortWorldK_c encR 6 w g 0 n _ os)) hs
    · rw [hw]
      exact (sorted_below (Nat.le_of_lt hgs)).mono hbg

end Go.Proofs.Ytffnnfdlelaonaa
