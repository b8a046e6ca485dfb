/-
  No cell of these rows narrows 'for every input' (looked for: loops, veiled, ifaces, maps, wideKeys, modest, calm, conditions, laid).
  DERIVED. THE GIVEN ROWS OF THIS SEAT. 8 by the template 'for every input the law returns true; each argument reads behind the call as it read before'; 0 by the template 'total and deterministic' (their statements: YtffnnfdlelaonaaTotals.lean).
  GIVEN WITH THE SEED: the statements are not yours to turn. If you find one false, say at which input.
  Laid BY PROGRAM, IN A SANDBOX (cutbox-rows.mjs): the forced cells as the released guide's own fill.sh prints them over the translation a6a8a1bb791267c1… (all of the seat's roots in one cut). By AI agents, Wed Nov 11 2026. No macro, syntax, notation, axiom, sorry.
-/
import Derived.Test.YtffnnfdlelaonaaChecked
import GoSem.Claim
import GoSem.ClaimJoined
import GoSem.ClaimMapViews
import Derived.JoinedTies
import Derived.KernelRfl
namespace Go.Proofs.Ytffnnfdlelaonaa
/- THE CELL 'sum', in the pinned program and in every row, IS THE sha256 OF THE DUMP (.gsa) THAT YtffnnfdlelaonaaProg.lean LOADS. Nothing in Lean hashes anything: it is a label: what it is worth is what the hold of that sum in a sandbox is worth. -/
noncomputable def Try.pinned : Pinned := { name := "ytffnnfdlelaonaa", sum := "a6a8a1bb791267c1e1b7967e422db273a67d4e30d027be921d4375c5a1737383", checked := Try.checked }
namespace Rows
def none {H : Type} : Left H := { results := [], args := [] }

/-- 'purflinglaw11.ContestHalves': WHATEVER THE INPUT: true; the input reads as it did. -/
def contestHalvesSpec : ChangeSpec := { name := "contestHalves", fn := fun _ => fun
  | [d1, d2] => { results := [.lit (.bool true)], args := [d1, d2] }
  | _ => none }
def contestHalvesRow : OpenClaim := { program := "ytffnnfdlelaonaa", sum := "a6a8a1bb791267c1e1b7967e422db273a67d4e30d027be921d4375c5a1737383", func := "purfling/purflinglaw11.ContestHalves", spec := "contestHalves", unfollowed := true, recurses := true, apart := false }
def ContestHalvesSaid : Prop := contestHalvesRow.holds Try.pinned (OpenSpec.ofChange contestHalvesSpec)

/-- ITS FALSE NEIGHBOUR: 'it returns false'. Refute it at one input. -/
def contestHalvesWrong : ChangeSpec := { name := "contestHalves", fn := fun _ => fun
  | [d1, d2] => { results := [.lit (.bool false)], args := [d1, d2] }
  | _ => none }
def ContestHalvesWrongFalsely : Prop := contestHalvesRow.holds Try.pinned (OpenSpec.ofChange contestHalvesWrong)

/-- 'purflinglaw11.ContestMore': WHATEVER THE INPUT: true; the input reads as it did. -/
def contestMoreSpec : ChangeSpec := { name := "contestMore", fn := fun _ => fun
  | [d1, d2] => { results := [.lit (.bool true)], args := [d1, d2] }
  | _ => none }
def contestMoreRow : OpenClaim := { program := "ytffnnfdlelaonaa", sum := "a6a8a1bb791267c1e1b7967e422db273a67d4e30d027be921d4375c5a1737383", func := "purfling/purflinglaw11.ContestMore", spec := "contestMore", unfollowed := true, recurses := true, apart := false }
def ContestMoreSaid : Prop := contestMoreRow.holds Try.pinned (OpenSpec.ofChange contestMoreSpec)

/-- ITS FALSE NEIGHBOUR: 'it returns false'. Refute it at one input. -/
def contestMoreWrong : ChangeSpec := { name := "contestMore", fn := fun _ => fun
  | [d1, d2] => { results := [.lit (.bool false)], args := [d1, d2] }
  | _ => none }
def ContestMoreWrongFalsely : Prop := contestMoreRow.holds Try.pinned (OpenSpec.ofChange contestMoreWrong)

/-- 'purflinglaw11.ContestWins': WHATEVER THE INPUT: true; the input reads as it did. -/
def contestWinsSpec : ChangeSpec := { name := "contestWins", fn := fun _ => fun
  | [d1, d2] => { results := [.lit (.bool true)], args := [d1, d2] }
  | _ => none }
def contestWinsRow : OpenClaim := { program := "ytffnnfdlelaonaa", sum := "a6a8a1bb791267c1e1b7967e422db273a67d4e30d027be921d4375c5a1737383", func := "purfling/purflinglaw11.ContestWins", spec := "contestWins", unfollowed := true, recurses := true, apart := false }
def ContestWinsSaid : Prop := contestWinsRow.holds Try.pinned (OpenSpec.ofChange contestWinsSpec)

/-- ITS FALSE NEIGHBOUR: 'it returns false'. Refute it at one input. -/
def contestWinsWrong : ChangeSpec := { name := "contestWins", fn := fun _ => fun
  | [d1, d2] => { results := [.lit (.bool false)], args := [d1, d2] }
  | _ => none }
def ContestWinsWrongFalsely : Prop := contestWinsRow.holds Try.pinned (OpenSpec.ofChange contestWinsWrong)

/-- 'purflinglaw11.ContestTwo': WHATEVER THE INPUT: true; the input reads as it did. -/
def contestTwoSpec : ChangeSpec := { name := "contestTwo", fn := fun _ => fun
  | [d1, d2, d3] => { results := [.lit (.bool true)], args := [d1, d2, d3] }
  | _ => none }
def contestTwoRow : OpenClaim := { program := "ytffnnfdlelaonaa", sum := "a6a8a1bb791267c1e1b7967e422db273a67d4e30d027be921d4375c5a1737383", func := "purfling/purflinglaw11.ContestTwo", spec := "contestTwo", unfollowed := true, recurses := true, apart := false }
def ContestTwoSaid : Prop := contestTwoRow.holds Try.pinned (OpenSpec.ofChange contestTwoSpec)

/-- ITS FALSE NEIGHBOUR: 'it returns false'. Refute it at one input. -/
def contestTwoWrong : ChangeSpec := { name := "contestTwo", fn := fun _ => fun
  | [d1, d2, d3] => { results := [.lit (.bool false)], args := [d1, d2, d3] }
  | _ => none }
def ContestTwoWrongFalsely : Prop := contestTwoRow.holds Try.pinned (OpenSpec.ofChange contestTwoWrong)

/-- 'purflinglaw11.ContestDrawn': WHATEVER THE INPUT: true; the input reads as it did. -/
def contestDrawnSpec : ChangeSpec := { name := "contestDrawn", fn := fun _ => fun
  | [d1, d2] => { results := [.lit (.bool true)], args := [d1, d2] }
  | _ => none }
def contestDrawnRow : OpenClaim := { program := "ytffnnfdlelaonaa", sum := "a6a8a1bb791267c1e1b7967e422db273a67d4e30d027be921d4375c5a1737383", func := "purfling/purflinglaw11.ContestDrawn", spec := "contestDrawn", unfollowed := true, recurses := true, apart := false }
def ContestDrawnSaid : Prop := contestDrawnRow.holds Try.pinned (OpenSpec.ofChange contestDrawnSpec)

/-- ITS FALSE NEIGHBOUR: 'it returns false'. Refute it at one input. -/
def contestDrawnWrong : ChangeSpec := { name := "contestDrawn", fn := fun _ => fun
  | [d1, d2] => { results := [.lit (.bool false)], args := [d1, d2] }
  | _ => none }
def ContestDrawnWrongFalsely : Prop := contestDrawnRow.holds Try.pinned (OpenSpec.ofChange contestDrawnWrong)

/-- 'purflinglaw11.ContestWinners': WHATEVER THE INPUT: true; the input reads as it did. -/
def contestWinnersSpec : ChangeSpec := { name := "contestWinners", fn := fun _ => fun
  | [d] => { results := [.lit (.bool true)], args := [d] }
  | _ => none }
def contestWinnersRow : OpenClaim := { program := "ytffnnfdlelaonaa", sum := "a6a8a1bb791267c1e1b7967e422db273a67d4e30d027be921d4375c5a1737383", func := "purfling/purflinglaw11.ContestWinners", spec := "contestWinners", unfollowed := true, recurses := true, apart := false }
def ContestWinnersSaid : Prop := contestWinnersRow.holds Try.pinned (OpenSpec.ofChange contestWinnersSpec)

/-- ITS FALSE NEIGHBOUR: 'it returns false'. Refute it at one input. -/
def contestWinnersWrong : ChangeSpec := { name := "contestWinners", fn := fun _ => fun
  | [d] => { results := [.lit (.bool false)], args := [d] }
  | _ => none }
def ContestWinnersWrongFalsely : Prop := contestWinnersRow.holds Try.pinned (OpenSpec.ofChange contestWinnersWrong)

/-- 'purflinglaw11.ContestOrder': WHATEVER THE INPUT: true; the input reads as it did. -/
def contestOrderSpec : ChangeSpec := { name := "contestOrder", fn := fun _ => fun
  | [d1, d2, d3] => { results := [.lit (.bool true)], args := [d1, d2, d3] }
  | _ => none }
def contestOrderRow : OpenClaim := { program := "ytffnnfdlelaonaa", sum := "a6a8a1bb791267c1e1b7967e422db273a67d4e30d027be921d4375c5a1737383", func := "purfling/purflinglaw11.ContestOrder", spec := "contestOrder", unfollowed := true, recurses := true, apart := false }
def ContestOrderSaid : Prop := contestOrderRow.holds Try.pinned (OpenSpec.ofChange contestOrderSpec)

/-- ITS FALSE NEIGHBOUR: 'it returns false'. Refute it at one input. -/
def contestOrderWrong : ChangeSpec := { name := "contestOrder", fn := fun _ => fun
  | [d1, d2, d3] => { results := [.lit (.bool false)], args := [d1, d2, d3] }
  | _ => none }
def ContestOrderWrongFalsely : Prop := contestOrderRow.holds Try.pinned (OpenSpec.ofChange contestOrderWrong)

/-- 'purflinglaw11.ContestFirst': WHATEVER THE INPUT: true; the input reads as it did. -/
def contestFirstSpec : ChangeSpec := { name := "contestFirst", fn := fun _ => fun
  | [d] => { results := [.lit (.bool true)], args := [d] }
  | _ => none }
def contestFirstRow : OpenClaim := { program := "ytffnnfdlelaonaa", sum := "a6a8a1bb791267c1e1b7967e422db273a67d4e30d027be921d4375c5a1737383", func := "purfling/purflinglaw11.ContestFirst", spec := "contestFirst", unfollowed := true, recurses := true, apart := false }
def ContestFirstSaid : Prop := contestFirstRow.holds Try.pinned (OpenSpec.ofChange contestFirstSpec)

/-- ITS FALSE NEIGHBOUR: 'it returns false'. Refute it at one input. -/
def contestFirstWrong : ChangeSpec := { name := "contestFirst", fn := fun _ => fun
  | [d] => { results := [.lit (.bool false)], args := [d] }
  | _ => none }
def ContestFirstWrongFalsely : Prop := contestFirstRow.holds Try.pinned (OpenSpec.ofChange contestFirstWrong)

/- THE SECOND FORM. 'bulk': how many values and letters a reading holds, each counted each time it is reached (what is shared counts as often as it is met; a slice's spare places count too). A statement '..UptoSaid' is the law's where the arguments, and the package variables that the reading takes, are together of bulk at most 1048576: NARROWER than '..Said'. Prove '..Said' where nothing that the law and all that it calls make is longer than what came in: it says more and counts as full. Else prove '..UptoSaid'. A law counts once. -/
mutual
def uptoBulk {H : Type} : DataW H → Nat
  | .lit (.string bytes) => bytes.length + 1
  | .lit _ => 1
  | .nil => 1
  | .ptr d => uptoBulk d + 1
  | .slice elems spare => uptoBulkAll elems + uptoBulkAll spare + 1
  | .agg parts => uptoBulkAll parts + 1
  | .iface _ d => uptoBulk d + 1
  | .map entries => uptoBulkEntries entries + 1
  | .held _ => 1
def uptoBulkAll {H : Type} : List (DataW H) → Nat
  | [] => 0
  | d :: r => uptoBulk d + uptoBulkAll r
def uptoBulkEntries {H : Type} : List (Lit × DataW H) → Nat
  | [] => 0
  | x :: r => uptoBulkEntry x + uptoBulkEntries r
def uptoBulkEntry {H : Type} : Lit × DataW H → Nat
  | (.string bytes, d) => bytes.length + uptoBulk d + 1
  | (_, d) => uptoBulk d + 1
 end
def uptoSmall : (H : Type) → List (DataW H) → Bool := fun _ ds => decide (uptoBulkAll ds ≤ 1048576)
def OpenSpec.upto (s : _root_.Go.ChangeSpec) : _root_.Go.OpenSpec := { _root_.Go.OpenSpec.ofChange s with cond := some uptoSmall }

/-- 'purflinglaw11.ContestHalves', WHERE WHAT IT READS IS OF BULK AT MOST 1048576: true; the input reads as it did. -/
def contestHalvesUptoRow : OpenClaim := { program := "ytffnnfdlelaonaa", sum := "a6a8a1bb791267c1e1b7967e422db273a67d4e30d027be921d4375c5a1737383", func := "purfling/purflinglaw11.ContestHalves", spec := "contestHalves", unfollowed := true, recurses := true, apart := false, narrowed := true }
def ContestHalvesUptoSaid : Prop := contestHalvesUptoRow.holds Try.pinned (OpenSpec.upto contestHalvesSpec)

/-- 'purflinglaw11.ContestMore', WHERE WHAT IT READS IS OF BULK AT MOST 1048576: true; the input reads as it did. -/
def contestMoreUptoRow : OpenClaim := { program := "ytffnnfdlelaonaa", sum := "a6a8a1bb791267c1e1b7967e422db273a67d4e30d027be921d4375c5a1737383", func := "purfling/purflinglaw11.ContestMore", spec := "contestMore", unfollowed := true, recurses := true, apart := false, narrowed := true }
def ContestMoreUptoSaid : Prop := contestMoreUptoRow.holds Try.pinned (OpenSpec.upto contestMoreSpec)

/-- 'purflinglaw11.ContestWins', WHERE WHAT IT READS IS OF BULK AT MOST 1048576: true; the input reads as it did. -/
def contestWinsUptoRow : OpenClaim := { program := "ytffnnfdlelaonaa", sum := "a6a8a1bb791267c1e1b7967e422db273a67d4e30d027be921d4375c5a1737383", func := "purfling/purflinglaw11.ContestWins", spec := "contestWins", unfollowed := true, recurses := true, apart := false, narrowed := true }
def ContestWinsUptoSaid : Prop := contestWinsUptoRow.holds Try.pinned (OpenSpec.upto contestWinsSpec)

/-- 'purflinglaw11.ContestTwo', WHERE WHAT IT READS IS OF BULK AT MOST 1048576: true; the input reads as it did. -/
def contestTwoUptoRow : OpenClaim := { program := "ytffnnfdlelaonaa", sum := "a6a8a1bb791267c1e1b7967e422db273a67d4e30d027be921d4375c5a1737383", func := "purfling/purflinglaw11.ContestTwo", spec := "contestTwo", unfollowed := true, recurses := true, apart := false, narrowed := true }
def ContestTwoUptoSaid : Prop := contestTwoUptoRow.holds Try.pinned (OpenSpec.upto contestTwoSpec)

/-- 'purflinglaw11.ContestDrawn', WHERE WHAT IT READS IS OF BULK AT MOST 1048576: true; the input reads as it did. -/
def contestDrawnUptoRow : OpenClaim := { program := "ytffnnfdlelaonaa", sum := "a6a8a1bb791267c1e1b7967e422db273a67d4e30d027be921d4375c5a1737383", func := "purfling/purflinglaw11.ContestDrawn", spec := "contestDrawn", unfollowed := true, recurses := true, apart := false, narrowed := true }
def ContestDrawnUptoSaid : Prop := contestDrawnUptoRow.holds Try.pinned (OpenSpec.upto contestDrawnSpec)

/-- 'purflinglaw11.ContestWinners', WHERE WHAT IT READS IS OF BULK AT MOST 1048576: true; the input reads as it did. -/
def contestWinnersUptoRow : OpenClaim := { program := "ytffnnfdlelaonaa", sum := "a6a8a1bb791267c1e1b7967e422db273a67d4e30d027be921d4375c5a1737383", func := "purfling/purflinglaw11.ContestWinners", spec := "contestWinners", unfollowed := true, recurses := true, apart := false, narrowed := true }
def ContestWinnersUptoSaid : Prop := contestWinnersUptoRow.holds Try.pinned (OpenSpec.upto contestWinnersSpec)

/-- 'purflinglaw11.ContestOrder', WHERE WHAT IT READS IS OF BULK AT MOST 1048576: true; the input reads as it did. -/
def contestOrderUptoRow : OpenClaim := { program := "ytffnnfdlelaonaa", sum := "a6a8a1bb791267c1e1b7967e422db273a67d4e30d027be921d4375c5a1737383", func := "purfling/purflinglaw11.ContestOrder", spec := "contestOrder", unfollowed := true, recurses := true, apart := false, narrowed := true }
def ContestOrderUptoSaid : Prop := contestOrderUptoRow.holds Try.pinned (OpenSpec.upto contestOrderSpec)

/-- 'purflinglaw11.ContestFirst', WHERE WHAT IT READS IS OF BULK AT MOST 1048576: true; the input reads as it did. -/
def contestFirstUptoRow : OpenClaim := { program := "ytffnnfdlelaonaa", sum := "a6a8a1bb791267c1e1b7967e422db273a67d4e30d027be921d4375c5a1737383", func := "purfling/purflinglaw11.ContestFirst", spec := "contestFirst", unfollowed := true, recurses := true, apart := false, narrowed := true }
def ContestFirstUptoSaid : Prop := contestFirstUptoRow.holds Try.pinned (OpenSpec.upto contestFirstSpec)

end Rows
end Go.Proofs.Ytffnnfdlelaonaa
