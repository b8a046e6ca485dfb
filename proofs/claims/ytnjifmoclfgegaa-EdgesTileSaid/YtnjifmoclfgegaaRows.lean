/-
  No cell of these rows narrows 'for every input' (looked for: loops, veiled, ifaces, maps, wideKeys, modest, calm, conditions, laid).
  DERIVED. THE GIVEN ROWS OF THIS SEAT. 7 by the template 'for every input the law returns true; each argument reads behind the call as it read before'; 0 by the template 'total and deterministic' (their statements: YtnjifmoclfgegaaTotals.lean).
  GIVEN WITH THE SEED: the statements are not yours to turn. If you find one false, say at which input.
  Laid BY PROGRAM, IN A SANDBOX (cutbox-rows.mjs): the forced cells as the released guide's own fill.sh prints them over the translation 81f8bfdfacee9dd3… (all of the seat's roots in one cut). By AI agents, Wed Nov 11 2026. No macro, syntax, notation, axiom, sorry.
-/
import Derived.Test.YtnjifmoclfgegaaChecked
import GoSem.Claim
import GoSem.ClaimJoined
import GoSem.ClaimMapViews
import Derived.JoinedTies
import Derived.KernelRfl
namespace Go.Proofs.Ytnjifmoclfgegaa
/- THE CELL 'sum', in the pinned program and in every row, IS THE sha256 OF THE DUMP (.gsa) THAT YtnjifmoclfgegaaProg.lean LOADS. Nothing in Lean hashes anything: it is a label: what it is worth is what the hold of that sum in a sandbox is worth. -/
noncomputable def Try.pinned : Pinned := { name := "ytnjifmoclfgegaa", sum := "81f8bfdfacee9dd33f1450eea62b154700b51ac8d7fd545daee5a8a7d7d74610", checked := Try.checked }
namespace Rows
def none {H : Type} : Left H := { results := [], args := [] }

/-- 'purflinglaw10.EdgesBands': WHATEVER THE INPUT: true; the input reads as it did. -/
def edgesBandsSpec : ChangeSpec := { name := "edgesBands", fn := fun _ => fun
  | [d1, d2, d3, d4] => { results := [.lit (.bool true)], args := [d1, d2, d3, d4] }
  | _ => none }
def edgesBandsRow : OpenClaim := { program := "ytnjifmoclfgegaa", sum := "81f8bfdfacee9dd33f1450eea62b154700b51ac8d7fd545daee5a8a7d7d74610", func := "purfling/purflinglaw10.EdgesBands", spec := "edgesBands", unfollowed := true, recurses := true, apart := false }
def EdgesBandsSaid : Prop := edgesBandsRow.holds Try.pinned (OpenSpec.ofChange edgesBandsSpec)

/-- ITS FALSE NEIGHBOUR: 'it returns false'. Refute it at one input. -/
def edgesBandsWrong : ChangeSpec := { name := "edgesBands", fn := fun _ => fun
  | [d1, d2, d3, d4] => { results := [.lit (.bool false)], args := [d1, d2, d3, d4] }
  | _ => none }
def EdgesBandsWrongFalsely : Prop := edgesBandsRow.holds Try.pinned (OpenSpec.ofChange edgesBandsWrong)

/-- 'purflinglaw10.EdgesSpans': WHATEVER THE INPUT: true; the input reads as it did. -/
def edgesSpansSpec : ChangeSpec := { name := "edgesSpans", fn := fun _ => fun
  | [d1, d2, d3, d4] => { results := [.lit (.bool true)], args := [d1, d2, d3, d4] }
  | _ => none }
def edgesSpansRow : OpenClaim := { program := "ytnjifmoclfgegaa", sum := "81f8bfdfacee9dd33f1450eea62b154700b51ac8d7fd545daee5a8a7d7d74610", func := "purfling/purflinglaw10.EdgesSpans", spec := "edgesSpans", unfollowed := true, recurses := true, apart := false }
def EdgesSpansSaid : Prop := edgesSpansRow.holds Try.pinned (OpenSpec.ofChange edgesSpansSpec)

/-- ITS FALSE NEIGHBOUR: 'it returns false'. Refute it at one input. -/
def edgesSpansWrong : ChangeSpec := { name := "edgesSpans", fn := fun _ => fun
  | [d1, d2, d3, d4] => { results := [.lit (.bool false)], args := [d1, d2, d3, d4] }
  | _ => none }
def EdgesSpansWrongFalsely : Prop := edgesSpansRow.holds Try.pinned (OpenSpec.ofChange edgesSpansWrong)

/-- 'purflinglaw10.EdgesRise': WHATEVER THE INPUT: true; the input reads as it did. -/
def edgesRiseSpec : ChangeSpec := { name := "edgesRise", fn := fun _ => fun
  | [d1, d2] => { results := [.lit (.bool true)], args := [d1, d2] }
  | _ => none }
def edgesRiseRow : OpenClaim := { program := "ytnjifmoclfgegaa", sum := "81f8bfdfacee9dd33f1450eea62b154700b51ac8d7fd545daee5a8a7d7d74610", func := "purfling/purflinglaw10.EdgesRise", spec := "edgesRise", unfollowed := true, recurses := true, apart := false }
def EdgesRiseSaid : Prop := edgesRiseRow.holds Try.pinned (OpenSpec.ofChange edgesRiseSpec)

/-- ITS FALSE NEIGHBOUR: 'it returns false'. Refute it at one input. -/
def edgesRiseWrong : ChangeSpec := { name := "edgesRise", fn := fun _ => fun
  | [d1, d2] => { results := [.lit (.bool false)], args := [d1, d2] }
  | _ => none }
def EdgesRiseWrongFalsely : Prop := edgesRiseRow.holds Try.pinned (OpenSpec.ofChange edgesRiseWrong)

/-- 'purflinglaw10.EdgesCells': WHATEVER THE INPUT: true; the input reads as it did. -/
def edgesCellsSpec : ChangeSpec := { name := "edgesCells", fn := fun _ => fun
  | [d1, d2, d3, d4] => { results := [.lit (.bool true)], args := [d1, d2, d3, d4] }
  | _ => none }
def edgesCellsRow : OpenClaim := { program := "ytnjifmoclfgegaa", sum := "81f8bfdfacee9dd33f1450eea62b154700b51ac8d7fd545daee5a8a7d7d74610", func := "purfling/purflinglaw10.EdgesCells", spec := "edgesCells", unfollowed := true, recurses := true, apart := false }
def EdgesCellsSaid : Prop := edgesCellsRow.holds Try.pinned (OpenSpec.ofChange edgesCellsSpec)

/-- ITS FALSE NEIGHBOUR: 'it returns false'. Refute it at one input. -/
def edgesCellsWrong : ChangeSpec := { name := "edgesCells", fn := fun _ => fun
  | [d1, d2, d3, d4] => { results := [.lit (.bool false)], args := [d1, d2, d3, d4] }
  | _ => none }
def EdgesCellsWrongFalsely : Prop := edgesCellsRow.holds Try.pinned (OpenSpec.ofChange edgesCellsWrong)

/-- 'purflinglaw10.EdgesWithin': WHATEVER THE INPUT: true; the input reads as it did. -/
def edgesWithinSpec : ChangeSpec := { name := "edgesWithin", fn := fun _ => fun
  | [d1, d2, d3, d4] => { results := [.lit (.bool true)], args := [d1, d2, d3, d4] }
  | _ => none }
def edgesWithinRow : OpenClaim := { program := "ytnjifmoclfgegaa", sum := "81f8bfdfacee9dd33f1450eea62b154700b51ac8d7fd545daee5a8a7d7d74610", func := "purfling/purflinglaw10.EdgesWithin", spec := "edgesWithin", unfollowed := true, recurses := true, apart := false }
def EdgesWithinSaid : Prop := edgesWithinRow.holds Try.pinned (OpenSpec.ofChange edgesWithinSpec)

/-- ITS FALSE NEIGHBOUR: 'it returns false'. Refute it at one input. -/
def edgesWithinWrong : ChangeSpec := { name := "edgesWithin", fn := fun _ => fun
  | [d1, d2, d3, d4] => { results := [.lit (.bool false)], args := [d1, d2, d3, d4] }
  | _ => none }
def EdgesWithinWrongFalsely : Prop := edgesWithinRow.holds Try.pinned (OpenSpec.ofChange edgesWithinWrong)

/-- 'purflinglaw10.EdgesGutters': WHATEVER THE INPUT: true; the input reads as it did. -/
def edgesGuttersSpec : ChangeSpec := { name := "edgesGutters", fn := fun _ => fun
  | [d1, d2, d3] => { results := [.lit (.bool true)], args := [d1, d2, d3] }
  | _ => none }
def edgesGuttersRow : OpenClaim := { program := "ytnjifmoclfgegaa", sum := "81f8bfdfacee9dd33f1450eea62b154700b51ac8d7fd545daee5a8a7d7d74610", func := "purfling/purflinglaw10.EdgesGutters", spec := "edgesGutters", unfollowed := true, recurses := true, apart := false }
def EdgesGuttersSaid : Prop := edgesGuttersRow.holds Try.pinned (OpenSpec.ofChange edgesGuttersSpec)

/-- ITS FALSE NEIGHBOUR: 'it returns false'. Refute it at one input. -/
def edgesGuttersWrong : ChangeSpec := { name := "edgesGutters", fn := fun _ => fun
  | [d1, d2, d3] => { results := [.lit (.bool false)], args := [d1, d2, d3] }
  | _ => none }
def EdgesGuttersWrongFalsely : Prop := edgesGuttersRow.holds Try.pinned (OpenSpec.ofChange edgesGuttersWrong)

/-- 'purflinglaw10.EdgesTile': WHATEVER THE INPUT: true; the input reads as it did. -/
def edgesTileSpec : ChangeSpec := { name := "edgesTile", fn := fun _ => fun
  | [d1, d2, d3] => { results := [.lit (.bool true)], args := [d1, d2, d3] }
  | _ => none }
def edgesTileRow : OpenClaim := { program := "ytnjifmoclfgegaa", sum := "81f8bfdfacee9dd33f1450eea62b154700b51ac8d7fd545daee5a8a7d7d74610", func := "purfling/purflinglaw10.EdgesTile", spec := "edgesTile", unfollowed := true, recurses := true, apart := false }
def EdgesTileSaid : Prop := edgesTileRow.holds Try.pinned (OpenSpec.ofChange edgesTileSpec)

/-- ITS FALSE NEIGHBOUR: 'it returns false'. Refute it at one input. -/
def edgesTileWrong : ChangeSpec := { name := "edgesTile", fn := fun _ => fun
  | [d1, d2, d3] => { results := [.lit (.bool false)], args := [d1, d2, d3] }
  | _ => none }
def EdgesTileWrongFalsely : Prop := edgesTileRow.holds Try.pinned (OpenSpec.ofChange edgesTileWrong)

/- THE SECOND FORM. 'bulk': how many values and letters a reading holds, each counted each time it is reached (what is shared counts as often as it is met; a slice's spare places count too). A statement '..UptoSaid' is the law's where the arguments, and the package variables that the reading takes, are together of bulk at most 1048576: NARROWER than '..Said'. Prove '..Said' where nothing that the law and all that it calls make is longer than what came in: it says more and counts as full. Else prove '..UptoSaid'. A law counts once. -/
mutual
def uptoBulk {H : Type} : DataW H → Nat
  | .lit (.string bytes) => bytes.length + 1
  | .lit _ => 1
  | .nil => 1
  | .ptr d => uptoBulk d + 1
  | .slice elems spare => uptoBulkAll elems + uptoBulkAll spare + 1
  | .agg parts => uptoBulkAll parts + 1
  | .iface _ d => uptoBulk d + 1
  | .map entries => uptoBulkEntries entries + 1
  | .held _ => 1
def uptoBulkAll {H : Type} : List (DataW H) → Nat
  | [] => 0
  | d :: r => uptoBulk d + uptoBulkAll r
def uptoBulkEntries {H : Type} : List (Lit × DataW H) → Nat
  | [] => 0
  | x :: r => uptoBulkEntry x + uptoBulkEntries r
def uptoBulkEntry {H : Type} : Lit × DataW H → Nat
  | (.string bytes, d) => bytes.length + uptoBulk d + 1
  | (_, d) => uptoBulk d + 1
 end
def uptoSmall : (H : Type) → List (DataW H) → Bool := fun _ ds => decide (uptoBulkAll ds ≤ 1048576)
def OpenSpec.upto (s : _root_.Go.ChangeSpec) : _root_.Go.OpenSpec := { _root_.Go.OpenSpec.ofChange s with cond := some uptoSmall }

/-- 'purflinglaw10.EdgesBands', WHERE WHAT IT READS IS OF BULK AT MOST 1048576: true; the input reads as it did. -/
def edgesBandsUptoRow : OpenClaim := { program := "ytnjifmoclfgegaa", sum := "81f8bfdfacee9dd33f1450eea62b154700b51ac8d7fd545daee5a8a7d7d74610", func := "purfling/purflinglaw10.EdgesBands", spec := "edgesBands", unfollowed := true, recurses := true, apart := false, narrowed := true }
def EdgesBandsUptoSaid : Prop := edgesBandsUptoRow.holds Try.pinned (OpenSpec.upto edgesBandsSpec)

/-- 'purflinglaw10.EdgesSpans', WHERE WHAT IT READS IS OF BULK AT MOST 1048576: true; the input reads as it did. -/
def edgesSpansUptoRow : OpenClaim := { program := "ytnjifmoclfgegaa", sum := "81f8bfdfacee9dd33f1450eea62b154700b51ac8d7fd545daee5a8a7d7d74610", func := "purfling/purflinglaw10.EdgesSpans", spec := "edgesSpans", unfollowed := true, recurses := true, apart := false, narrowed := true }
def EdgesSpansUptoSaid : Prop := edgesSpansUptoRow.holds Try.pinned (OpenSpec.upto edgesSpansSpec)

/-- 'purflinglaw10.EdgesRise', WHERE WHAT IT READS IS OF BULK AT MOST 1048576: true; the input reads as it did. -/
def edgesRiseUptoRow : OpenClaim := { program := "ytnjifmoclfgegaa", sum := "81f8bfdfacee9dd33f1450eea62b154700b51ac8d7fd545daee5a8a7d7d74610", func := "purfling/purflinglaw10.EdgesRise", spec := "edgesRise", unfollowed := true, recurses := true, apart := false, narrowed := true }
def EdgesRiseUptoSaid : Prop := edgesRiseUptoRow.holds Try.pinned (OpenSpec.upto edgesRiseSpec)

/-- 'purflinglaw10.EdgesCells', WHERE WHAT IT READS IS OF BULK AT MOST 1048576: true; the input reads as it did. -/
def edgesCellsUptoRow : OpenClaim := { program := "ytnjifmoclfgegaa", sum := "81f8bfdfacee9dd33f1450eea62b154700b51ac8d7fd545daee5a8a7d7d74610", func := "purfling/purflinglaw10.EdgesCells", spec := "edgesCells", unfollowed := true, recurses := true, apart := false, narrowed := true }
def EdgesCellsUptoSaid : Prop := edgesCellsUptoRow.holds Try.pinned (OpenSpec.upto edgesCellsSpec)

/-- 'purflinglaw10.EdgesWithin', WHERE WHAT IT READS IS OF BULK AT MOST 1048576: true; the input reads as it did. -/
def edgesWithinUptoRow : OpenClaim := { program := "ytnjifmoclfgegaa", sum := "81f8bfdfacee9dd33f1450eea62b154700b51ac8d7fd545daee5a8a7d7d74610", func := "purfling/purflinglaw10.EdgesWithin", spec := "edgesWithin", unfollowed := true, recurses := true, apart := false, narrowed := true }
def EdgesWithinUptoSaid : Prop := edgesWithinUptoRow.holds Try.pinned (OpenSpec.upto edgesWithinSpec)

/-- 'purflinglaw10.EdgesGutters', WHERE WHAT IT READS IS OF BULK AT MOST 1048576: true; the input reads as it did. -/
def edgesGuttersUptoRow : OpenClaim := { program := "ytnjifmoclfgegaa", sum := "81f8bfdfacee9dd33f1450eea62b154700b51ac8d7fd545daee5a8a7d7d74610", func := "purfling/purflinglaw10.EdgesGutters", spec := "edgesGutters", unfollowed := true, recurses := true, apart := false, narrowed := true }
def EdgesGuttersUptoSaid : Prop := edgesGuttersUptoRow.holds Try.pinned (OpenSpec.upto edgesGuttersSpec)

/-- 'purflinglaw10.EdgesTile', WHERE WHAT IT READS IS OF BULK AT MOST 1048576: true; the input reads as it did. -/
def edgesTileUptoRow : OpenClaim := { program := "ytnjifmoclfgegaa", sum := "81f8bfdfacee9dd33f1450eea62b154700b51ac8d7fd545daee5a8a7d7d74610", func := "purfling/purflinglaw10.EdgesTile", spec := "edgesTile", unfollowed := true, recurses := true, apart := false, narrowed := true }
def EdgesTileUptoSaid : Prop := edgesTileUptoRow.holds Try.pinned (OpenSpec.upto edgesTileSpec)

end Rows
end Go.Proofs.Ytnjifmoclfgegaa
