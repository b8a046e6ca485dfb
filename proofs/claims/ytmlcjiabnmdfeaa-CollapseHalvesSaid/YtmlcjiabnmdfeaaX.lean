/- Contract of collapse.Insets. -/
import Derived.Test.YtmlcjiabnmdfeaaW
namespace Go.Proofs.Ytmlcjiabnmdfeaa
open Go Go.RowKit Go.Shelf CT
set_option linter.unusedVariables false

/-- four whole numbers -/
structure I4 where
  a : Int
  b : Int
  c : Int
  d : Int
  deriving DecidableEq
instance : Inhabited I4 := ⟨⟨0, 0, 0, 0⟩⟩
def I4.cells (p : I4) : List Value := [.int .i64 p.a, .int .i64 p.b, .int .i64 p.c, .int .i64 p.d]
def I4.arr (p : I4) : Array Value := #[.int .i64 p.a, .int .i64 p.b, .int .i64 p.c, .int .i64 p.d]
theorem I4.len : ∀ x : I4, (I4.cells x).length = 4 := fun _ => rfl
theorem I4.one : ∀ x : I4, ∀ u ∈ I4.cells x, u.oneCell' = true := fun x u hu => by
  simp only [I4.cells, List.mem_cons, List.not_mem_nil, or_false] at hu
  rcases hu with rfl | rfl | rfl | rfl <;> rfl
theorem info52 : (Try.prog.info? 52).map (fun i => (i.zero, i.size, i.bytes)) = some (some (.agg #[.int .i64 0, .int .i64 0, .int .i64 0, .int .i64 0]), 4, 32) := by kernel_rfl
def halves4 (l : List Edge) (b : Bx) (wi : Bool) : I4 := ⟨halvesOf l b wi 0, halvesOf l b wi 1, halvesOf l b wi 2, halvesOf l b wi 3⟩
def boxP (p : Place) : Bx := ⟨p.row, p.col, p.row + p.rows, p.col + p.cols⟩
/-- how far borders reach into a place -/
def insetP (l : List Edge) (p : Place) : I4 := halves4 l (boxP p) true
def insets (f : Fr) (l : List Edge) : List I4 := f.pl.map (insetP l)
theorem okS_fit {ps : List Place} {R C : Nat} (h : okS ps R C = true) {k : Nat} (hk : k < ps.length) : fitP (ps[k]?.getD default) R C = true := by
  unfold okS at h
  have := (List.all_eq_true.1 h) k (List.mem_range.2 hk)
  unfold okP at this
  rw [Bool.and_eq_true] at this
  exact this.1
theorem place_in {f : Fr} (hok : okFr f = true) (hR : f.R ≤ 8) (hC : f.C ≤ 8) {k : Nat} (hk : k < f.pl.length) : (0 ≤ (f.pl[k]?.getD default).row ∧ 1 ≤ (f.pl[k]?.getD default).rows ∧ (f.pl[k]?.getD default).row + (f.pl[k]?.getD default).rows ≤ f.R) ∧ (0 ≤ (f.pl[k]?.getD default).col ∧ 1 ≤ (f.pl[k]?.getD default).cols ∧ (f.pl[k]?.getD default).col + (f.pl[k]?.getD default).cols ≤ f.C) := by
  obtain ⟨h1, h2, h3, _⟩ := okFr_num hok
  unfold okZ at h1
  rw [Bool.and_eq_true] at h1
  have h := okS_fit h1.2 hk
  unfold fitP at h
  have := of_decide_eq_true h
  omega

set_option maxRecDepth 100000 in
set_option maxHeartbeats 8000000 in
/-- collapse.Insets -/
theorem c18 (f : Fr) (E : Option Addr) (l : List Edge) (cp : Nat) (w : World) (hI : f.In w) (hR : f.R ≤ 8) (hC : f.C ≤ 8) (hE : GR.Many Edge.cells 10 w E l) (hl : l.length ≤ 1000000) (hw : ∀ x ∈ l, x.width ≤ 9223372036854775807) :
    Calls Try.prog 18 #[.agg f.arr, .slice E l.length cp] w fun e w' => (okFr f = true → ∃ v, e = .returned (.tuple #[v, .int .i64 0]) ∧ w'.ownsRow w.heap.size 52 4 v (insets f l).length (GR.flat I4.cells (insets f l))) ∧
      (okFr f = false → e = .returned (.tuple #[.slice none 0 0, .int .i64 120])) ∧ Below w.heap.size w w' := by
  have hB : Below w.heap.size w (w.alloc (.cells f.arr 30)) := (Below.refl _ _).alloc (Nat.le_refl _) _
  have hA := Fr.At.new f w
  have HI := Lib.hid hI
  have HB := Lib.hid hB
  have HR := Lib.hid hR
  have HC := Lib.hid hC
  have HE := Lib.hid hE
  have H14 := Lib.hid (fun W hx => c14 f W hx hR hC)
  have H37 := Lib.hid fun (b : Bx) W hx => c37 E l cp b true W hx hl hw
  obtain ⟨n, hn⟩ : ∃ n : Nat, l.length = n := ⟨_, rfl⟩
  rw [hn] at H37 ⊢
  obtain ⟨ok, hok⟩ : ∃ b, okFr f = b := ⟨_, rfl⟩
  have HOK := Lib.hid hok
  rw [hok] at H14
  have HA := Lib.hid hA
  clear hI hB hR hC hE hw hl hn hok hA
  go_enter Try.func18, Try.ntmps18
  go_wp2_with (refine wpList_load (cs := f.arr) _ rfl rfl rfl HA.out.at_ Try.underlying30 rfl (size30 f) ?_)
  refine (H14.out _ (HI.out.turn HB.out)).mono ?_
  rintro e w2 ⟨rfl, hb⟩
  have HB2 := Lib.hid (HB.out.trans (hb.mono HB.out.size))
  have HA2 := Lib.hid (HA.out.turn hb)
  clear hb
  cases ok with
  | false =>
    go_wp2_with (fail)
    refine ⟨rfl, _, results_tmp2 rfl _ _ _, ?_⟩
    exact ⟨fun h => (by rw [HOK.out] at h; cases h), fun _ => rfl, HB2.out⟩
  | true =>
    obtain ⟨p0, p1, p2, p3, p4, p5, p6, p7⟩ := HA2.out.eight
    go_wp2_with (fail)
    clear p0 p1 p2 p3 p4 p5 p6 p7
    obtain ⟨N, hN⟩ : ∃ N : Nat, f.pl.length = N := ⟨_, rfl⟩
    have HN := Lib.hid hN
    have hN10 : N ≤ 10 := by have := HI.out.len.1; omega
    have HP := Lib.hid HI.out.p
    obtain ⟨pa, hpa⟩ : ∃ pa, f.pa = pa := ⟨_, rfl⟩
    rw [hpa] at HP ⊢
    rw [hN]
    clear hN hpa
    go_loopw [6, 15] (fun v a wr => ∃ j : Nat, j ≤ N ∧ a = .int .i64 j ∧ Hid (wr.ownsRow w.heap.size 52 4 v j (GR.flat I4.cells ((f.pl.take j).map (insetP l)))) ∧ Hid (Below w.heap.size w wr)) (fun _ a _ => N - (intOf a).toNat)
    case atStart => exact ⟨0, by omega, rfl, Lib.hid (GR.own_nil _ _ _ _), HB2⟩
    case round =>
      obtain ⟨j, hj, rfl, HOj, HBj⟩ := hrel
      by_cases hlt : j < N
      · have ti : decide ((j : Int) < (N : Int)) = true := decide_eq_true (by omega)
        have hjl : j < f.pl.length := by rw [HN.out]; exact hlt
        obtain ⟨p, bb, off, hpk, hAd, hat, _⟩ := (HP.out.below HBj.out).get j hjl
        subst hAd
        have hin := place_in HOK.out HR.out HC.out hjl
        rw [hpk.out] at hin
        have hHR := HR.out
        have hHC := HC.out
        have htake : (f.pl.take (j + 1)).map (insetP l) = (f.pl.take j).map (insetP l) ++ [insetP l p] := by
          have : f.pl[j]? = some p := by
            have h1 := hpk.out
            rw [List.getElem?_eq_getElem hjl] at h1 ⊢
            rw [← h1]; rfl
          rw [List.take_add_one, this, List.map_append]; rfl
        have Htake := Lib.hid htake
        have hba : Below wr.heap.size wr (wr.alloc (.cells p.arr 43)) := (Below.refl _ _).alloc (Nat.le_refl _) _
        have HB5 := Lib.hid (HBj.out.trans (hba.mono HBj.out.size))
        have HO5 := Lib.hid (GR.own_turn HOj.out hba)
        have HPA : Hid ((wr.alloc (.cells p.arr 43)).heap[wr.heap.size]? = some (.cells p.arr 43 (0, 0))) := Lib.hid (heap_alloc_new _ _)
        have H37b := H37.out (boxP p) _ (HE.out.below HB5.out)
        rw [show four (halvesOf l (boxP p) true) = (insetP l p).arr from rfl] at H37b
        obtain ⟨y, hy⟩ : ∃ y, insetP l p = y := ⟨_, rfl⟩
        rw [hy] at H37b Htake
        obtain ⟨p0, p1, p2, p3, p4⟩ := p
        unfold boxP Bx.arr Place.arr at *
        dsimp only at hin HB5 HO5 HPA H37b ⊢
        have H37c := Lib.hid H37b
        have f1 : IntKind.i64.wrap (p1 + p3) = p1 + p3 := IntWalk.i64_in _ (by omega)
        have f2 : IntKind.i64.wrap (p2 + p4) = p2 + p4 := IntWalk.i64_in _ (by omega)
        have f9 : IntKind.i64.wrap ((j : Int) + 1) = (j : Int) + 1 := IntWalk.i64_in _ (by omega)
        have g0 : wr.cell? ⟨bb, off + j * 5, none⟩ = some (.int .i64 p0) := hat 0 _ rfl
        have g1 : wr.cell? ⟨bb, off + j * 5 + 1, none⟩ = some (.int .i64 p1) := hat 1 _ rfl
        have g2 : wr.cell? ⟨bb, off + j * 5 + 2, none⟩ = some (.int .i64 p2) := hat 2 _ rfl
        have g3 : wr.cell? ⟨bb, off + j * 5 + 3, none⟩ = some (.int .i64 p3) := hat 3 _ rfl
        have g4 : wr.cell? ⟨bb, off + j * 5 + 4, none⟩ = some (.int .i64 p4) := hat 4 _ rfl
        have k1 := cell_of (j := 1) HPA.out rfl
        have k2 := cell_of (j := 2) HPA.out rfl
        have k3 := cell_of (j := 3) HPA.out rfl
        have k4 := cell_of (j := 4) HPA.out rfl
        clear hat hba htake H37b hy hpk hin hHR hHC
        go_wp2_with (fail)
        clear g0 g1 g2 g3 g4 k1 k2 k3 k4
        generalize wr.alloc (.cells #[.int .i64 p0, .int .i64 p1, .int .i64 p2, .int .i64 p3, .int .i64 p4] 43) = wx at *
        refine H37c.out.mono ?_
        rintro e w6 ⟨rfl, hb⟩
        obtain ⟨y0, y1, y2, y3⟩ := y
        have hba : Below w6.heap.size w6 (w6.alloc (.cells #[.int .i64 y0, .int .i64 y1, .int .i64 y2, .int .i64 y3] 52)) := (Below.refl _ _).alloc (Nat.le_refl _) _
        have hbb := hb.trans (hba.mono hb.size)
        have HO6 := Lib.hid (GR.own_turn HO5.out hbb)
        have HB6 := Lib.hid (HB5.out.trans (hbb.mono HB5.out.size))
        have HM : Hid (GR.One I4.cells 52 (w6.alloc (.cells #[.int .i64 y0, .int .i64 y1, .int .i64 y2, .int .i64 y3] 52)) w6.heap.size ⟨y0, y1, y2, y3⟩) := Lib.hid (GR.One.new (enc := I4.cells) 52 w6 ⟨y0, y1, y2, y3⟩)
        clear hb hba hbb
        unfold I4.arr
        dsimp only
        go_wp2_with (at_builtin; go_must (refine GR.wpList_app_one (enc := I4.cells) (k := 4) rfl I4.len I4.one (by decide) (T := 49) (e := 52) (bytes := 32) (by kernel_rfl) info52 rfl w.heap.size _ _ rfl _ j _ rfl HO6.out w6.heap.size 1 _ rfl HM.out (by omega) (by decide) HB6.out.size ?_); intro v' W1 h1 h2 h3; have H1 := Lib.hid h1; have H2 := Lib.hid (HB6.out.trans h2); clear h1 h2 h3)
        go_roundw
        case rel =>
          refine ⟨j + 1, by omega, by go_num, ?_, H2⟩
          rw [Htake.out]
          exact H1
        case measure => simp [intOf]; omega
      · obtain rfl : j = N := by omega
        have ti : decide ((j : Int) < (j : Int)) = false := decide_eq_false (by omega)
        have HIN : Hid ((f.pl.take j).map (insetP l) = insets f l) := Lib.hid (by rw [List.take_of_length_le (Nat.le_of_eq HN.out)]; rfl)
        have HIL : Hid ((insets f l).length = j) := Lib.hid (by unfold insets; rw [List.length_map]; exact HN.out)
        rw [HIN.out] at HOj
        go_wp2_with (fail)
        refine ⟨rfl, _, results_tmp2 rfl _ _ _, ?_⟩
        exact ⟨fun _ => ⟨_, rfl, by rw [HIL.out]; exact HOj.out⟩, fun h => (by rw [HOK.out] at h; cases h), HBj.out⟩
end Go.Proofs.Ytmlcjiabnmdfeaa
