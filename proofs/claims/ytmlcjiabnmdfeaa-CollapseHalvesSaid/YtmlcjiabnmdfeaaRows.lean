/-
  No cell of these rows narrows 'for every input' (looked for: loops, veiled, ifaces, maps, wideKeys, modest, calm, conditions, laid).
  DERIVED. THE GIVEN ROWS OF THIS SEAT. 7 by the template 'for every input the law returns true; each argument reads behind the call as it read before'; 0 by the template 'total and deterministic' (their statements: YtmlcjiabnmdfeaaTotals.lean).
  GIVEN WITH THE SEED: the statements are not yours to turn. If you find one false, say at which input.
  Laid BY PROGRAM, IN A SANDBOX (cutbox-rows.mjs): the forced cells as the released guide's own fill.sh prints them over the translation 7f72cf6761cdccc3… (all of the seat's roots in one cut). By AI agents, Wed Nov 11 2026. No macro, syntax, notation, axiom, sorry.
-/
import Derived.Test.YtmlcjiabnmdfeaaChecked
import GoSem.Claim
import GoSem.ClaimJoined
import GoSem.ClaimMapViews
import Derived.JoinedTies
import Derived.KernelRfl
namespace Go.Proofs.Ytmlcjiabnmdfeaa
/- THE CELL 'sum', in the pinned program and in every row, IS THE sha256 OF THE DUMP (.gsa) THAT YtmlcjiabnmdfeaaProg.lean LOADS. Nothing in Lean hashes anything: it is a label: what it is worth is what the hold of that sum in a sandbox is worth. -/
noncomputable def Try.pinned : Pinned := { name := "ytmlcjiabnmdfeaa", sum := "7f72cf6761cdccc3faa16a93db3e671029a72c8b73067d52d237ecac21494c46", checked := Try.checked }
namespace Rows
def none {H : Type} : Left H := { results := [], args := [] }

/-- 'purflinglaw12.CollapseEdges': WHATEVER THE INPUT: true; the input reads as it did. -/
def collapseEdgesSpec : ChangeSpec := { name := "collapseEdges", fn := fun _ => fun
  | [d] => { results := [.lit (.bool true)], args := [d] }
  | _ => none }
def collapseEdgesRow : OpenClaim := { program := "ytmlcjiabnmdfeaa", sum := "7f72cf6761cdccc3faa16a93db3e671029a72c8b73067d52d237ecac21494c46", func := "purfling/purflinglaw12.CollapseEdges", spec := "collapseEdges", unfollowed := true, recurses := true, apart := false }
def CollapseEdgesSaid : Prop := collapseEdgesRow.holds Try.pinned (OpenSpec.ofChange collapseEdgesSpec)

/-- ITS FALSE NEIGHBOUR: 'it returns false'. Refute it at one input. -/
def collapseEdgesWrong : ChangeSpec := { name := "collapseEdges", fn := fun _ => fun
  | [d] => { results := [.lit (.bool false)], args := [d] }
  | _ => none }
def CollapseEdgesWrongFalsely : Prop := collapseEdgesRow.holds Try.pinned (OpenSpec.ofChange collapseEdgesWrong)

/-- 'purflinglaw12.CollapseOrder': WHATEVER THE INPUT: true; the input reads as it did. -/
def collapseOrderSpec : ChangeSpec := { name := "collapseOrder", fn := fun _ => fun
  | [d] => { results := [.lit (.bool true)], args := [d] }
  | _ => none }
def collapseOrderRow : OpenClaim := { program := "ytmlcjiabnmdfeaa", sum := "7f72cf6761cdccc3faa16a93db3e671029a72c8b73067d52d237ecac21494c46", func := "purfling/purflinglaw12.CollapseOrder", spec := "collapseOrder", unfollowed := true, recurses := true, apart := false }
def CollapseOrderSaid : Prop := collapseOrderRow.holds Try.pinned (OpenSpec.ofChange collapseOrderSpec)

/-- ITS FALSE NEIGHBOUR: 'it returns false'. Refute it at one input. -/
def collapseOrderWrong : ChangeSpec := { name := "collapseOrder", fn := fun _ => fun
  | [d] => { results := [.lit (.bool false)], args := [d] }
  | _ => none }
def CollapseOrderWrongFalsely : Prop := collapseOrderRow.holds Try.pinned (OpenSpec.ofChange collapseOrderWrong)

/-- 'purflinglaw12.CollapseAll': WHATEVER THE INPUT: true; the input reads as it did. -/
def collapseAllSpec : ChangeSpec := { name := "collapseAll", fn := fun _ => fun
  | [d] => { results := [.lit (.bool true)], args := [d] }
  | _ => none }
def collapseAllRow : OpenClaim := { program := "ytmlcjiabnmdfeaa", sum := "7f72cf6761cdccc3faa16a93db3e671029a72c8b73067d52d237ecac21494c46", func := "purfling/purflinglaw12.CollapseAll", spec := "collapseAll", unfollowed := true, recurses := true, apart := false }
def CollapseAllSaid : Prop := collapseAllRow.holds Try.pinned (OpenSpec.ofChange collapseAllSpec)

/-- ITS FALSE NEIGHBOUR: 'it returns false'. Refute it at one input. -/
def collapseAllWrong : ChangeSpec := { name := "collapseAll", fn := fun _ => fun
  | [d] => { results := [.lit (.bool false)], args := [d] }
  | _ => none }
def CollapseAllWrongFalsely : Prop := collapseAllRow.holds Try.pinned (OpenSpec.ofChange collapseAllWrong)

/-- 'purflinglaw12.CollapseTable': WHATEVER THE INPUT: true; the input reads as it did. -/
def collapseTableSpec : ChangeSpec := { name := "collapseTable", fn := fun _ => fun
  | [d1, d2, d3] => { results := [.lit (.bool true)], args := [d1, d2, d3] }
  | _ => none }
def collapseTableRow : OpenClaim := { program := "ytmlcjiabnmdfeaa", sum := "7f72cf6761cdccc3faa16a93db3e671029a72c8b73067d52d237ecac21494c46", func := "purfling/purflinglaw12.CollapseTable", spec := "collapseTable", unfollowed := true, recurses := true, apart := false }
def CollapseTableSaid : Prop := collapseTableRow.holds Try.pinned (OpenSpec.ofChange collapseTableSpec)

/-- ITS FALSE NEIGHBOUR: 'it returns false'. Refute it at one input. -/
def collapseTableWrong : ChangeSpec := { name := "collapseTable", fn := fun _ => fun
  | [d1, d2, d3] => { results := [.lit (.bool false)], args := [d1, d2, d3] }
  | _ => none }
def CollapseTableWrongFalsely : Prop := collapseTableRow.holds Try.pinned (OpenSpec.ofChange collapseTableWrong)

/-- 'purflinglaw12.CollapseHidden': WHATEVER THE INPUT: true; the input reads as it did. -/
def collapseHiddenSpec : ChangeSpec := { name := "collapseHidden", fn := fun _ => fun
  | [d1, d2] => { results := [.lit (.bool true)], args := [d1, d2] }
  | _ => none }
def collapseHiddenRow : OpenClaim := { program := "ytmlcjiabnmdfeaa", sum := "7f72cf6761cdccc3faa16a93db3e671029a72c8b73067d52d237ecac21494c46", func := "purfling/purflinglaw12.CollapseHidden", spec := "collapseHidden", unfollowed := true, recurses := true, apart := false }
def CollapseHiddenSaid : Prop := collapseHiddenRow.holds Try.pinned (OpenSpec.ofChange collapseHiddenSpec)

/-- ITS FALSE NEIGHBOUR: 'it returns false'. Refute it at one input. -/
def collapseHiddenWrong : ChangeSpec := { name := "collapseHidden", fn := fun _ => fun
  | [d1, d2] => { results := [.lit (.bool false)], args := [d1, d2] }
  | _ => none }
def CollapseHiddenWrongFalsely : Prop := collapseHiddenRow.holds Try.pinned (OpenSpec.ofChange collapseHiddenWrong)

/-- 'purflinglaw12.CollapseHalves': WHATEVER THE INPUT: true; the input reads as it did. -/
def collapseHalvesSpec : ChangeSpec := { name := "collapseHalves", fn := fun _ => fun
  | [d1, d2] => { results := [.lit (.bool true)], args := [d1, d2] }
  | _ => none }
def collapseHalvesRow : OpenClaim := { program := "ytmlcjiabnmdfeaa", sum := "7f72cf6761cdccc3faa16a93db3e671029a72c8b73067d52d237ecac21494c46", func := "purfling/purflinglaw12.CollapseHalves", spec := "collapseHalves", unfollowed := true, recurses := true, apart := false }
def CollapseHalvesSaid : Prop := collapseHalvesRow.holds Try.pinned (OpenSpec.ofChange collapseHalvesSpec)

/-- ITS FALSE NEIGHBOUR: 'it returns false'. Refute it at one input. -/
def collapseHalvesWrong : ChangeSpec := { name := "collapseHalves", fn := fun _ => fun
  | [d1, d2] => { results := [.lit (.bool false)], args := [d1, d2] }
  | _ => none }
def CollapseHalvesWrongFalsely : Prop := collapseHalvesRow.holds Try.pinned (OpenSpec.ofChange collapseHalvesWrong)

/-- 'purflinglaw12.CollapseShares': WHATEVER THE INPUT: true; the input reads as it did. -/
def collapseSharesSpec : ChangeSpec := { name := "collapseShares", fn := fun _ => fun
  | [d1, d2, d3] => { results := [.lit (.bool true)], args := [d1, d2, d3] }
  | _ => none }
def collapseSharesRow : OpenClaim := { program := "ytmlcjiabnmdfeaa", sum := "7f72cf6761cdccc3faa16a93db3e671029a72c8b73067d52d237ecac21494c46", func := "purfling/purflinglaw12.CollapseShares", spec := "collapseShares", unfollowed := true, recurses := true, apart := false }
def CollapseSharesSaid : Prop := collapseSharesRow.holds Try.pinned (OpenSpec.ofChange collapseSharesSpec)

/-- ITS FALSE NEIGHBOUR: 'it returns false'. Refute it at one input. -/
def collapseSharesWrong : ChangeSpec := { name := "collapseShares", fn := fun _ => fun
  | [d1, d2, d3] => { results := [.lit (.bool false)], args := [d1, d2, d3] }
  | _ => none }
def CollapseSharesWrongFalsely : Prop := collapseSharesRow.holds Try.pinned (OpenSpec.ofChange collapseSharesWrong)

/- THE SECOND FORM. 'bulk': how many values and letters a reading holds, each counted each time it is reached (what is shared counts as often as it is met; a slice's spare places count too). A statement '..UptoSaid' is the law's where the arguments, and the package variables that the reading takes, are together of bulk at most 1048576: NARROWER than '..Said'. Prove '..Said' where nothing that the law and all that it calls make is longer than what came in: it says more and counts as full. Else prove '..UptoSaid'. A law counts once. -/
mutual
def uptoBulk {H : Type} : DataW H → Nat
  | .lit (.string bytes) => bytes.length + 1
  | .lit _ => 1
  | .nil => 1
  | .ptr d => uptoBulk d + 1
  | .slice elems spare => uptoBulkAll elems + uptoBulkAll spare + 1
  | .agg parts => uptoBulkAll parts + 1
  | .iface _ d => uptoBulk d + 1
  | .map entries => uptoBulkEntries entries + 1
  | .held _ => 1
def uptoBulkAll {H : Type} : List (DataW H) → Nat
  | [] => 0
  | d :: r => uptoBulk d + uptoBulkAll r
def uptoBulkEntries {H : Type} : List (Lit × DataW H) → Nat
  | [] => 0
  | x :: r => uptoBulkEntry x + uptoBulkEntries r
def uptoBulkEntry {H : Type} : Lit × DataW H → Nat
  | (.string bytes, d) => bytes.length + uptoBulk d + 1
  | (_, d) => uptoBulk d + 1
 end
def uptoSmall : (H : Type) → List (DataW H) → Bool := fun _ ds => decide (uptoBulkAll ds ≤ 1048576)
def OpenSpec.upto (s : _root_.Go.ChangeSpec) : _root_.Go.OpenSpec := { _root_.Go.OpenSpec.ofChange s with cond := some uptoSmall }

/-- 'purflinglaw12.CollapseEdges', WHERE WHAT IT READS IS OF BULK AT MOST 1048576: true; the input reads as it did. -/
def collapseEdgesUptoRow : OpenClaim := { program := "ytmlcjiabnmdfeaa", sum := "7f72cf6761cdccc3faa16a93db3e671029a72c8b73067d52d237ecac21494c46", func := "purfling/purflinglaw12.CollapseEdges", spec := "collapseEdges", unfollowed := true, recurses := true, apart := false, narrowed := true }
def CollapseEdgesUptoSaid : Prop := collapseEdgesUptoRow.holds Try.pinned (OpenSpec.upto collapseEdgesSpec)

/-- 'purflinglaw12.CollapseOrder', WHERE WHAT IT READS IS OF BULK AT MOST 1048576: true; the input reads as it did. -/
def collapseOrderUptoRow : OpenClaim := { program := "ytmlcjiabnmdfeaa", sum := "7f72cf6761cdccc3faa16a93db3e671029a72c8b73067d52d237ecac21494c46", func := "purfling/purflinglaw12.CollapseOrder", spec := "collapseOrder", unfollowed := true, recurses := true, apart := false, narrowed := true }
def CollapseOrderUptoSaid : Prop := collapseOrderUptoRow.holds Try.pinned (OpenSpec.upto collapseOrderSpec)

/-- 'purflinglaw12.CollapseAll', WHERE WHAT IT READS IS OF BULK AT MOST 1048576: true; the input reads as it did. -/
def collapseAllUptoRow : OpenClaim := { program := "ytmlcjiabnmdfeaa", sum := "7f72cf6761cdccc3faa16a93db3e671029a72c8b73067d52d237ecac21494c46", func := "purfling/purflinglaw12.CollapseAll", spec := "collapseAll", unfollowed := true, recurses := true, apart := false, narrowed := true }
def CollapseAllUptoSaid : Prop := collapseAllUptoRow.holds Try.pinned (OpenSpec.upto collapseAllSpec)

/-- 'purflinglaw12.CollapseTable', WHERE WHAT IT READS IS OF BULK AT MOST 1048576: true; the input reads as it did. -/
def collapseTableUptoRow : OpenClaim := { program := "ytmlcjiabnmdfeaa", sum := "7f72cf6761cdccc3faa16a93db3e671029a72c8b73067d52d237ecac21494c46", func := "purfling/purflinglaw12.CollapseTable", spec := "collapseTable", unfollowed := true, recurses := true, apart := false, narrowed := true }
def CollapseTableUptoSaid : Prop := collapseTableUptoRow.holds Try.pinned (OpenSpec.upto collapseTableSpec)

/-- 'purflinglaw12.CollapseHidden', WHERE WHAT IT READS IS OF BULK AT MOST 1048576: true; the input reads as it did. -/
def collapseHiddenUptoRow : OpenClaim := { program := "ytmlcjiabnmdfeaa", sum := "7f72cf6761cdccc3faa16a93db3e671029a72c8b73067d52d237ecac21494c46", func := "purfling/purflinglaw12.CollapseHidden", spec := "collapseHidden", unfollowed := true, recurses := true, apart := false, narrowed := true }
def CollapseHiddenUptoSaid : Prop := collapseHiddenUptoRow.holds Try.pinned (OpenSpec.upto collapseHiddenSpec)

/-- 'purflinglaw12.CollapseHalves', WHERE WHAT IT READS IS OF BULK AT MOST 1048576: true; the input reads as it did. -/
def collapseHalvesUptoRow : OpenClaim := { program := "ytmlcjiabnmdfeaa", sum := "7f72cf6761cdccc3faa16a93db3e671029a72c8b73067d52d237ecac21494c46", func := "purfling/purflinglaw12.CollapseHalves", spec := "collapseHalves", unfollowed := true, recurses := true, apart := false, narrowed := true }
def CollapseHalvesUptoSaid : Prop := collapseHalvesUptoRow.holds Try.pinned (OpenSpec.upto collapseHalvesSpec)

/-- 'purflinglaw12.CollapseShares', WHERE WHAT IT READS IS OF BULK AT MOST 1048576: true; the input reads as it did. -/
def collapseSharesUptoRow : OpenClaim := { program := "ytmlcjiabnmdfeaa", sum := "7f72cf6761cdccc3faa16a93db3e671029a72c8b73067d52d237ecac21494c46", func := "purfling/purflinglaw12.CollapseShares", spec := "collapseShares", unfollowed := true, recurses := true, apart := false, narrowed := true }
def CollapseSharesUptoSaid : Prop := collapseSharesUptoRow.holds Try.pinned (OpenSpec.upto collapseSharesSpec)

end Rows
end Go.Proofs.Ytmlcjiabnmdfeaa
