/- The walk of the law EdgesWithin: any places, bands, gaps. -/
import Derived.Test.YtnjifmoclfgegaaU
import Derived.Test.YtnjifmoclfgegaaQ
namespace Go.Proofs.Ytnjifmoclfgegaa
open Go.RowKit Go.Shelf
set_option linter.unusedVariables false

theorem allFit_all {ps : List Place} {nr nc : Int} (h : allFit ps nr nc = true) : ∀ j, j < ps.length → fits (ps[j]?.getD default) nr nc = true := fun j hj => by
  have := (List.all_eq_true.1 h) ps[j] (List.getElem_mem hj)
  rw [List.getElem?_eq_getElem hj]; exact this

theorem within_walk (A Ac Ar : Option Addr) (ps0 : List Place) (c : Nat) (cols0 rows0 : List Int) (cc cr : Nat) (g0 g1 : Int) (w : World) (hp0 : Places w A ps0) (hcp : ps0.length ≤ c) (hlp0 : ps0.length ≤ 17592186044416)
    (hc0 : Ints w Ac cols0) (hcc : cols0.length ≤ cc) (hlc0 : cols0.length ≤ 17592186044416) (hr0 : Ints w Ar rows0) (hcr : rows0.length ≤ cr) (hlr0 : rows0.length ≤ 17592186044416) :
    Calls Try.prog 7 #[.slice A ps0.length c, .slice Ac cols0.length cc, .slice Ar rows0.length cr, .agg #[.int .i64 g0, .int .i64 g1]] w fun e w' => e = .returned (.bool true) ∧ Below w.heap.size w w' := by
  have hp := hp0.take 60
  have hc := hc0.take 100
  have hr := hr0.take 100
  have lp : (ps0.take 60).length = min ps0.length 60 := by rw [List.length_take]; omega
  have lc : (cols0.take 100).length = min cols0.length 100 := by rw [List.length_take]; omega
  have lr : (rows0.take 100).length = min rows0.length 100 := by rw [List.length_take]; omega
  have h21 := fun W (hB : Below w.heap.size w W) => c21 A Ac Ar (ps0.take 60) c (cols0.take 100) (rows0.take 100) cc cr g0 g1 W (hp.below hB) (by omega) (hc.below hB) (hr.below hB) (by omega) (by omega)
  have hrs : (rsC (cols0.take 100) (rows0.take 100) g0 g1 (ps0.take 60)).length ≤ 17592186044416 := by
    unfold rsC
    split
    · rw [upto_length]; omega
    · simp
  by_cases ho : okC (cols0.take 100) (rows0.take 100) g0 g1 (ps0.take 60) = true
  · have e1 : rsC (cols0.take 100) (rows0.take 100) g0 g1 (ps0.take 60) = upto (rectAt (cols0.take 100) (rows0.take 100) g0 g1 (ps0.take 60)) (ps0.take 60).length := by unfold rsC; rw [if_pos ho]
    have e2 : erC (cols0.take 100) (rows0.take 100) g0 g1 (ps0.take 60) = 0 := by unfold erC; rw [if_pos ho]
    have ho' := ho
    unfold okC at ho'
    rw [Bool.and_eq_true, Bool.and_eq_true] at ho'
    obtain ⟨⟨o1, o2⟩, o3⟩ := ho'
    have hfit := allFit_all o3
    by_cases h60 : ps0.length ≤ 60
    · have e : (ps0.take 60).length = ps0.length := by omega
      rw [e] at h21
      exact within_low_right A Ac Ar ps0.length c h60 cols0 _ rows0 _ cc cr g0 g1 _ _ _ w e hp e1 hfit hcp hlp0 lc hcc hlc0 lr hcr hlr0 hrs e2 o1 o2 hc hr h21
    · have e : (ps0.take 60).length = 60 := by omega
      rw [e] at h21
      exact within_high_right A Ac Ar ps0.length c (by omega) cols0 _ rows0 _ cc cr g0 g1 _ _ _ w e hp e1 hfit hcp hlp0 lc hcc hlc0 lr hcr hlr0 hrs e2 o1 o2 hc hr h21
  · have e1 : rsC (cols0.take 100) (rows0.take 100) g0 g1 (ps0.take 60) = [] := by unfold rsC; rw [if_neg ho]
    have e2 : erC (cols0.take 100) (rows0.take 100) g0 g1 (ps0.take 60) = 100 := by unfold erC; rw [if_neg ho]
    by_cases h60 : ps0.length ≤ 60
    · have e : (ps0.take 60).length = ps0.length := by omega
      rw [e] at h21
      exact within_low_wrong A Ac Ar ps0.length c h60 cols0 _ rows0 _ cc cr g0 g1 _ _ w hcp hlp0 lc hcc hlc0 lr hcr hlr0 hrs ⟨e2, e1⟩ h21
    · have e : (ps0.take 60).length = 60 := by omega
      rw [e] at h21
      exact within_high_wrong A Ac Ar ps0.length c (by omega) cols0 _ rows0 _ cc cr g0 g1 _ _ w hcp hlp0 lc hcc hlc0 lr hcr hlr0 hrs ⟨e2, e1⟩ h21

end Go.Proofs.Ytnjifmoclfgegaa
