/- What is asked for at an edge, in plain words; a direction in memory. -/
import Derived.Test.YtmlcjiabnmdfeaaN
namespace Go.Proofs.Ytmlcjiabnmdfeaa
open Go Go.RowKit Go.Shelf CT
set_option linter.unusedVariables false

/-- runs that edges are between; st: standing edges -/
def btw (f : Fr) (st : Bool) : List (List Run × Int) := if st = true then [(f.kl, 3), (f.hl, 4)] else [(f.rl, 1), (f.gl, 2)]
def ovr (f : Fr) (st : Bool) : List (List Run × Int) := btw f (!st)
def aheadOf (st : Bool) : Nat := if st = true then 1 else 2
def behindOf (st : Bool) : Nat := if st = true then 3 else 0
def lastOf (f : Fr) (st : Bool) : Int := if st = true then f.C else f.R
def dSide (st : Bool) (l : Line) (by_ from_ : Int) (over : Bool) : CT.Side := lieSide l by_ from_ (over != st)
def askRun (st : Bool) (n by_ : Int) (x : Run) : List CT.Side := (if x.to_ = n then [dSide st (lineOf x.ls (aheadOf st)) by_ x.from_ false] else []) ++ (if x.from_ = n then [dSide st (lineOf x.ls (behindOf st)) by_ x.from_ false] else [])
def askBtw (f : Fr) (st : Bool) (n : Int) : List CT.Side := (btw f st).flatMap fun k => k.1.flatMap (askRun st n k.2)
def rimRun (st : Bool) (m : Int) (line : Nat) (by_ : Int) (x : Run) : List CT.Side := if x.from_ ≤ m ∧ m < x.to_ then [dSide st (lineOf x.ls line) by_ x.from_ true] else []
def tableSide (f : Fr) (line : Nat) : CT.Side := ⟨(lineOf f.t line).style, (lineOf f.t line).width, (lineOf f.t line).color, 5, 0, 0⟩
def rim (f : Fr) (st : Bool) (m : Int) (line : Nat) : List CT.Side := ((ovr f st).flatMap fun k => k.1.flatMap (rimRun st m line k.2)) ++ [tableSide f line]
/-- what is asked for at an edge -/
def asked (f : Fr) (st : Bool) (n m a b : Int) : List CT.Side :=
  cellAsk f a (aheadOf st) ++ (cellAsk f b (behindOf st) ++ (askBtw f st n ++ ((if n = 0 then rim f st m (behindOf st) else []) ++ (if n = lastOf f st then rim f st m (aheadOf st) else []))))

/-- the function that makes a direction's sides -/
def dFn (st : Bool) (Bs : Nat) : Value := if st = true then .func (.func 65) #[] #[.pointer (some ⟨Bs, 0, none⟩)] else .func (.func 64) #[] #[]
/-- a direction as it lies in a box: runs between in block kB, over in kO -/
structure DirM (f : Fr) (st : Bool) (W : World) (Bd k1 k2 Bs : Nat) : Prop where
  at_ : W.heap[Bd]? = some (.cells #[.slice (some ⟨if st = true then k2 else k1, 0, none⟩) 2 2, .slice (some ⟨if st = true then k1 else k2, 0, none⟩) 2 2, .int .i64 (lastOf f st), .int .i64 (aheadOf st), .int .i64 (behindOf st), dFn st Bs] 104 (0, 0))
  kinds : Kinds f W k1 k2
  side : st = true → W.heap[Bs]? = some (.cells #[.func (.func 64) #[] #[]] 102 (0, 0))
theorem DirM.turn {f : Fr} {st : Bool} {W W' : World} {Bd k1 k2 Bs : Nat} (h : DirM f st W Bd k1 k2 Bs) (hb : Below W.heap.size W W') : DirM f st W' Bd k1 k2 Bs :=
  ⟨(hb.block _ (Array.getElem?_eq_some_iff.1 h.at_).1).trans h.at_, h.kinds.turn hb, fun e => (hb.block _ (Array.getElem?_eq_some_iff.1 (h.side e)).1).trans (h.side e)⟩
/-- runs of both kinds, in the block that holds them -/
theorem Kinds.btw {f : Fr} {W : World} {k1 k2 : Nat} (h : Kinds f W k1 k2) (st : Bool) : ∃ A1 c1 A2 c2, W.heap[if st = true then k2 else k1]? = some (.cells #[.slice A1 ((btw f st)[0]?.getD default).1.length c1, .int .i64 ((btw f st)[0]?.getD default).2, .slice A2 ((btw f st)[1]?.getD default).1.length c2, .int .i64 ((btw f st)[1]?.getD default).2] 120 (0, 0)) ∧
    (f.In W → GR.Many Run.cells 14 W A1 ((btw f st)[0]?.getD default).1 ∧ GR.Many Run.cells 14 W A2 ((btw f st)[1]?.getD default).1 ∧ ((btw f st)[0]?.getD default).1.length ≤ 10 ∧ ((btw f st)[1]?.getD default).1.length ≤ 10) := by
  cases st with
  | true => exact ⟨f.ka, f.kc, f.ha, f.hc, h.c, fun hi => ⟨hi.k, hi.h, hi.len.2.2.2.2.1, hi.len.2.2.2.2.2⟩⟩
  | false => exact ⟨f.ra, f.rc, f.ga, f.gc, h.r, fun hi => ⟨hi.r, hi.g, hi.len.2.2.1, hi.len.2.2.2.1⟩⟩
/-- the call of a direction's function -/
theorem c_side (st : Bool) (l : Line) (by_ from_ : Int) (over : Bool) (Bs : Nat) (w : World) (h : st = true → w.heap[Bs]? = some (.cells #[.func (.func 64) #[] #[]] 102 (0, 0))) :
    Calls Try.prog (if st = true then 65 else 64) (#[.agg l.arr, .int .i64 by_, .int .i64 from_, .bool over] ++ (if st = true then #[.pointer (some ⟨Bs, 0, none⟩)] else #[])) w fun e w' => e = .returned (.agg (dSide st l by_ from_ over).arr) ∧ Below w.heap.size w w' := by
  cases st with
  | true =>
    have e : dSide true l by_ from_ over = lieSide l by_ from_ (!over) := by unfold dSide; cases over <;> rfl
    rw [e]
    exact c65 l by_ from_ over Bs w (cell_of (h rfl) rfl)
  | false =>
    have e : dSide false l by_ from_ over = lieSide l by_ from_ over := by unfold dSide; cases over <;> rfl
    rw [e]
    exact c64 l by_ from_ over w
end Go.Proofs.Ytmlcjiabnmdfeaa
