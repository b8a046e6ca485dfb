/- A framing in memory. -/
import Derived.Test.YtmlcjiabnmdfeaaFB
import Derived.Test.YtmlcjiabnmdfeaaFE
namespace Go.Proofs.Ytmlcjiabnmdfeaa
open Go Go.RowKit Go.Shelf CT
set_option linter.unusedVariables false

/-- a framing; where its lists lie -/
structure Fr where
  R : Int
  C : Int
  pa : Option Addr
  pl : List Place
  pc : Nat
  ca : Option Addr
  cl : List L4
  cc : Nat
  ra : Option Addr
  rl : List Run
  rc : Nat
  ga : Option Addr
  gl : List Run
  gc : Nat
  ka : Option Addr
  kl : List Run
  kc : Nat
  ha : Option Addr
  hl : List Run
  hc : Nat
  t : L4
def Fr.cells (f : Fr) : List Value := [.int .i64 f.R, .int .i64 f.C, .slice f.pa f.pl.length f.pc, .slice f.ca f.cl.length f.cc, .slice f.ra f.rl.length f.rc, .slice f.ga f.gl.length f.gc, .slice f.ka f.kl.length f.kc, .slice f.ha f.hl.length f.hc,
  .int .i64 f.t.a0, .int .i64 f.t.a1, .int .u32 f.t.a2, .int .i64 f.t.b0, .int .i64 f.t.b1, .int .u32 f.t.b2, .int .i64 f.t.c0, .int .i64 f.t.c1, .int .u32 f.t.c2, .int .i64 f.t.d0, .int .i64 f.t.d1, .int .u32 f.t.d2]
def Fr.arr (f : Fr) : Array Value := #[.int .i64 f.R, .int .i64 f.C, .slice f.pa f.pl.length f.pc, .slice f.ca f.cl.length f.cc, .slice f.ra f.rl.length f.rc, .slice f.ga f.gl.length f.gc, .slice f.ka f.kl.length f.kc, .slice f.ha f.hl.length f.hc,
  .int .i64 f.t.a0, .int .i64 f.t.a1, .int .u32 f.t.a2, .int .i64 f.t.b0, .int .i64 f.t.b1, .int .u32 f.t.b2, .int .i64 f.t.c0, .int .i64 f.t.c1, .int .u32 f.t.c2, .int .i64 f.t.d0, .int .i64 f.t.d1, .int .u32 f.t.d2]
/-- its lists lie where they are said to; none is long -/
structure Fr.In (f : Fr) (W : World) : Prop where
  p : GR.Many Place.cells 5 W f.pa f.pl
  c : GR.Many L4.cells 12 W f.ca f.cl
  r : GR.Many Run.cells 14 W f.ra f.rl
  g : GR.Many Run.cells 14 W f.ga f.gl
  k : GR.Many Run.cells 14 W f.ka f.kl
  h : GR.Many Run.cells 14 W f.ha f.hl
  len : f.pl.length ≤ 10 ∧ f.cl.length ≤ 10 ∧ f.rl.length ≤ 10 ∧ f.gl.length ≤ 10 ∧ f.kl.length ≤ 10 ∧ f.hl.length ≤ 10
theorem Fr.In.turn {f : Fr} {W W' : World} (h : f.In W) (hb : Below W.heap.size W W') : f.In W' := ⟨h.p.below hb, h.c.below hb, h.r.below hb, h.g.below hb, h.k.below hb, h.h.below hb, h.len⟩
/-- a block that is a framing -/
structure Fr.At (f : Fr) (W : World) (B : Nat) : Prop where
  at_ : W.heap[B]? = some (.cells f.arr 30 (0, 0))
theorem Fr.At.lt {f : Fr} {W : World} {B : Nat} (h : f.At W B) : B < W.heap.size := (Array.getElem?_eq_some_iff.1 h.at_).1
theorem Fr.At.new (f : Fr) (W : World) : f.At (W.alloc (.cells f.arr 30)) W.heap.size := ⟨heap_alloc_new _ _⟩
theorem Fr.At.turn {f : Fr} {W W' : World} {B : Nat} (h : f.At W B) (hb : Below W.heap.size W W') : f.At W' B := ⟨(hb.block B h.lt).trans h.at_⟩
theorem Fr.At.eight {f : Fr} {W : World} {B : Nat} (h : f.At W B) : W.cell? ⟨B, 0, none⟩ = some (.int .i64 f.R) ∧ W.cell? ⟨B, 1, none⟩ = some (.int .i64 f.C) ∧ W.cell? ⟨B, 2, none⟩ = some (.slice f.pa f.pl.length f.pc) ∧ W.cell? ⟨B, 3, none⟩ = some (.slice f.ca f.cl.length f.cc) ∧
    W.cell? ⟨B, 4, none⟩ = some (.slice f.ra f.rl.length f.rc) ∧ W.cell? ⟨B, 5, none⟩ = some (.slice f.ga f.gl.length f.gc) ∧ W.cell? ⟨B, 6, none⟩ = some (.slice f.ka f.kl.length f.kc) ∧ W.cell? ⟨B, 7, none⟩ = some (.slice f.ha f.hl.length f.hc) := by
  have := h.at_
  simp [World.cell?, this, Fr.arr]
theorem Fr.At.table {f : Fr} {W : World} {B : Nat} (h : f.At W B) : GR.At L4.cells W B 8 f.t := fun r u hu => by
  have := h.at_
  have hr : r < 12 := (List.getElem?_eq_some_iff.1 hu).1
  have e : f.arr[8 + r]? = some u := by
    rw [← hu]
    rcases r with _ | _ | _ | _ | _ | _ | _ | _ | _ | _ | _ | _ | r
    all_goals first | rfl | omega
  simp only [World.cell?, this]
  exact e
def okZ (ps : List Place) (R C : Int) : Bool := decide (0 ≤ R ∧ 0 ≤ C) && okS ps R.toNat C.toNat
/-- grid.Slots -/
theorem c25z (A : Option Addr) (ps : List Place) (cp : Nat) (R C : Int) (w : World) (hx : GR.Many Place.cells 5 w A ps) (hl : ps.length ≤ 10) (hR : R ≤ 8) (hC : C ≤ 8) :
    Calls Try.prog 25 #[.slice A ps.length cp, .int .i64 R, .int .i64 C] w fun e w' => (okZ ps R C = true → ∃ g vs, e = .returned (.tuple #[.slice (some ⟨g, 0, none⟩) R.toNat R.toNat, .int .i64 0]) ∧ Tab w' w.heap.size g R.toNat vs (fun _ => C.toNat) (whoTo ps ps.length)) ∧
      (okZ ps R C = false → e = .returned (.tuple #[.slice none 0 0, .int .i64 70])) ∧ Below w.heap.size w w' := by
  by_cases hp : 0 ≤ R ∧ 0 ≤ C
  · obtain ⟨r, rfl⟩ := Int.eq_ofNat_of_zero_le hp.1
    obtain ⟨c, rfl⟩ := Int.eq_ofNat_of_zero_le hp.2
    have e : okZ ps r c = okS ps r c := by unfold okZ; rw [decide_eq_true hp, Bool.true_and, Int.toNat_natCast, Int.toNat_natCast]
    rw [e]
    refine (c25 A ps cp r c w hx hl (by omega) (by omega)).mono ?_
    rintro e w' ⟨⟨h1, h2⟩, hb⟩
    exact ⟨h1, h2, hb⟩
  · have e : okZ ps R C = false := by unfold okZ; rw [decide_eq_false hp, Bool.false_and]
    rw [e]
    refine (c25_neg _ R C w hR hC (by omega)).mono ?_
    rintro e w' ⟨h1, hb⟩
    exact ⟨fun h => (by cases h), fun _ => h1, hb⟩
def okFr (f : Fr) : Bool := okZ f.pl f.R f.C && (decide (f.cl.length = f.pl.length) && (!wrongL f.t.lines && (f.cl.all (fun q => !wrongL q.lines) && (!wrongR f.R f.rl && (!wrongR f.R f.gl && (!wrongR f.C f.kl && !wrongR f.C f.hl))))))
end Go.Proofs.Ytmlcjiabnmdfeaa
