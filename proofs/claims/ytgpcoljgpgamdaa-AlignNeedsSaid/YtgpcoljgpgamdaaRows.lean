/-
  No cell of these rows narrows 'for every input' (looked for: loops, veiled, ifaces, maps, wideKeys, modest, calm, conditions, laid).
  DERIVED. THE GIVEN ROWS OF THIS SEAT. 7 by the template 'for every input the law returns true; each argument reads behind the call as it read before'; 0 by the template 'total and deterministic' (their statements: YtgpcoljgpgamdaaTotals.lean).
  GIVEN WITH THE SEED: the statements are not yours to turn. If you find one false, say at which input.
  Laid BY PROGRAM, IN A SANDBOX (cutbox-rows.mjs): the forced cells as the released guide's own fill.sh prints them over the translation 382e62b00cacd1c0… (all of the seat's roots in one cut). By AI agents, Wed Nov 11 2026. No macro, syntax, notation, axiom, sorry.
-/
import Derived.Test.YtgpcoljgpgamdaaChecked
import GoSem.Claim
import GoSem.ClaimJoined
import GoSem.ClaimMapViews
import Derived.JoinedTies
import Derived.KernelRfl
namespace Go.Proofs.Ytgpcoljgpgamdaa
/- THE CELL 'sum', in the pinned program and in every row, IS THE sha256 OF THE DUMP (.gsa) THAT YtgpcoljgpgamdaaProg.lean LOADS. Nothing in Lean hashes anything: it is a label: what it is worth is what the hold of that sum in a sandbox is worth. -/
noncomputable def Try.pinned : Pinned := { name := "ytgpcoljgpgamdaa", sum := "382e62b00cacd1c0feac73d1721707f95190c466f0fc7f41b0b4d0968ffc469d", checked := Try.checked }
namespace Rows
def none {H : Type} : Left H := { results := [], args := [] }

/-- 'purflinglaw17.AlignLines': WHATEVER THE INPUT: true; the input reads as it did. -/
def alignLinesSpec : ChangeSpec := { name := "alignLines", fn := fun _ => fun
  | [d1, d2] => { results := [.lit (.bool true)], args := [d1, d2] }
  | _ => none }
def alignLinesRow : OpenClaim := { program := "ytgpcoljgpgamdaa", sum := "382e62b00cacd1c0feac73d1721707f95190c466f0fc7f41b0b4d0968ffc469d", func := "purfling/purflinglaw17.AlignLines", spec := "alignLines", unfollowed := true, recurses := true, apart := false }
def AlignLinesSaid : Prop := alignLinesRow.holds Try.pinned (OpenSpec.ofChange alignLinesSpec)

/-- ITS FALSE NEIGHBOUR: 'it returns false'. Refute it at one input. -/
def alignLinesWrong : ChangeSpec := { name := "alignLines", fn := fun _ => fun
  | [d1, d2] => { results := [.lit (.bool false)], args := [d1, d2] }
  | _ => none }
def AlignLinesWrongFalsely : Prop := alignLinesRow.holds Try.pinned (OpenSpec.ofChange alignLinesWrong)

/-- 'purflinglaw17.AlignDowns': WHATEVER THE INPUT: true; the input reads as it did. -/
def alignDownsSpec : ChangeSpec := { name := "alignDowns", fn := fun _ => fun
  | [d1, d2, d3] => { results := [.lit (.bool true)], args := [d1, d2, d3] }
  | _ => none }
def alignDownsRow : OpenClaim := { program := "ytgpcoljgpgamdaa", sum := "382e62b00cacd1c0feac73d1721707f95190c466f0fc7f41b0b4d0968ffc469d", func := "purfling/purflinglaw17.AlignDowns", spec := "alignDowns", unfollowed := true, recurses := true, apart := false }
def AlignDownsSaid : Prop := alignDownsRow.holds Try.pinned (OpenSpec.ofChange alignDownsSpec)

/-- ITS FALSE NEIGHBOUR: 'it returns false'. Refute it at one input. -/
def alignDownsWrong : ChangeSpec := { name := "alignDowns", fn := fun _ => fun
  | [d1, d2, d3] => { results := [.lit (.bool false)], args := [d1, d2, d3] }
  | _ => none }
def AlignDownsWrongFalsely : Prop := alignDownsRow.holds Try.pinned (OpenSpec.ofChange alignDownsWrong)

/-- 'purflinglaw17.AlignOne': WHATEVER THE INPUT: true; the input reads as it did. -/
def alignOneSpec : ChangeSpec := { name := "alignOne", fn := fun _ => fun
  | [d1, d2, d3] => { results := [.lit (.bool true)], args := [d1, d2, d3] }
  | _ => none }
def alignOneRow : OpenClaim := { program := "ytgpcoljgpgamdaa", sum := "382e62b00cacd1c0feac73d1721707f95190c466f0fc7f41b0b4d0968ffc469d", func := "purfling/purflinglaw17.AlignOne", spec := "alignOne", unfollowed := true, recurses := true, apart := false }
def AlignOneSaid : Prop := alignOneRow.holds Try.pinned (OpenSpec.ofChange alignOneSpec)

/-- ITS FALSE NEIGHBOUR: 'it returns false'. Refute it at one input. -/
def alignOneWrong : ChangeSpec := { name := "alignOne", fn := fun _ => fun
  | [d1, d2, d3] => { results := [.lit (.bool false)], args := [d1, d2, d3] }
  | _ => none }
def AlignOneWrongFalsely : Prop := alignOneRow.holds Try.pinned (OpenSpec.ofChange alignOneWrong)

/-- 'purflinglaw17.AlignWithin': WHATEVER THE INPUT: true; the input reads as it did. -/
def alignWithinSpec : ChangeSpec := { name := "alignWithin", fn := fun _ => fun
  | [d1, d2, d3] => { results := [.lit (.bool true)], args := [d1, d2, d3] }
  | _ => none }
def alignWithinRow : OpenClaim := { program := "ytgpcoljgpgamdaa", sum := "382e62b00cacd1c0feac73d1721707f95190c466f0fc7f41b0b4d0968ffc469d", func := "purfling/purflinglaw17.AlignWithin", spec := "alignWithin", unfollowed := true, recurses := true, apart := false }
def AlignWithinSaid : Prop := alignWithinRow.holds Try.pinned (OpenSpec.ofChange alignWithinSpec)

/-- ITS FALSE NEIGHBOUR: 'it returns false'. Refute it at one input. -/
def alignWithinWrong : ChangeSpec := { name := "alignWithin", fn := fun _ => fun
  | [d1, d2, d3] => { results := [.lit (.bool false)], args := [d1, d2, d3] }
  | _ => none }
def AlignWithinWrongFalsely : Prop := alignWithinRow.holds Try.pinned (OpenSpec.ofChange alignWithinWrong)

/-- 'purflinglaw17.AlignEnds': WHATEVER THE INPUT: true; the input reads as it did. -/
def alignEndsSpec : ChangeSpec := { name := "alignEnds", fn := fun _ => fun
  | [d1, d2, d3] => { results := [.lit (.bool true)], args := [d1, d2, d3] }
  | _ => none }
def alignEndsRow : OpenClaim := { program := "ytgpcoljgpgamdaa", sum := "382e62b00cacd1c0feac73d1721707f95190c466f0fc7f41b0b4d0968ffc469d", func := "purfling/purflinglaw17.AlignEnds", spec := "alignEnds", unfollowed := true, recurses := true, apart := false }
def AlignEndsSaid : Prop := alignEndsRow.holds Try.pinned (OpenSpec.ofChange alignEndsSpec)

/-- ITS FALSE NEIGHBOUR: 'it returns false'. Refute it at one input. -/
def alignEndsWrong : ChangeSpec := { name := "alignEnds", fn := fun _ => fun
  | [d1, d2, d3] => { results := [.lit (.bool false)], args := [d1, d2, d3] }
  | _ => none }
def AlignEndsWrongFalsely : Prop := alignEndsRow.holds Try.pinned (OpenSpec.ofChange alignEndsWrong)

/-- 'purflinglaw17.AlignNeeds': WHATEVER THE INPUT: true; the input reads as it did. -/
def alignNeedsSpec : ChangeSpec := { name := "alignNeeds", fn := fun _ => fun
  | [d1, d2] => { results := [.lit (.bool true)], args := [d1, d2] }
  | _ => none }
def alignNeedsRow : OpenClaim := { program := "ytgpcoljgpgamdaa", sum := "382e62b00cacd1c0feac73d1721707f95190c466f0fc7f41b0b4d0968ffc469d", func := "purfling/purflinglaw17.AlignNeeds", spec := "alignNeeds", unfollowed := true, recurses := true, apart := false }
def AlignNeedsSaid : Prop := alignNeedsRow.holds Try.pinned (OpenSpec.ofChange alignNeedsSpec)

/-- ITS FALSE NEIGHBOUR: 'it returns false'. Refute it at one input. -/
def alignNeedsWrong : ChangeSpec := { name := "alignNeeds", fn := fun _ => fun
  | [d1, d2] => { results := [.lit (.bool false)], args := [d1, d2] }
  | _ => none }
def AlignNeedsWrongFalsely : Prop := alignNeedsRow.holds Try.pinned (OpenSpec.ofChange alignNeedsWrong)

/-- 'purflinglaw17.AlignTall': WHATEVER THE INPUT: true; the input reads as it did. -/
def alignTallSpec : ChangeSpec := { name := "alignTall", fn := fun _ => fun
  | [d1, d2, d3] => { results := [.lit (.bool true)], args := [d1, d2, d3] }
  | _ => none }
def alignTallRow : OpenClaim := { program := "ytgpcoljgpgamdaa", sum := "382e62b00cacd1c0feac73d1721707f95190c466f0fc7f41b0b4d0968ffc469d", func := "purfling/purflinglaw17.AlignTall", spec := "alignTall", unfollowed := true, recurses := true, apart := false }
def AlignTallSaid : Prop := alignTallRow.holds Try.pinned (OpenSpec.ofChange alignTallSpec)

/-- ITS FALSE NEIGHBOUR: 'it returns false'. Refute it at one input. -/
def alignTallWrong : ChangeSpec := { name := "alignTall", fn := fun _ => fun
  | [d1, d2, d3] => { results := [.lit (.bool false)], args := [d1, d2, d3] }
  | _ => none }
def AlignTallWrongFalsely : Prop := alignTallRow.holds Try.pinned (OpenSpec.ofChange alignTallWrong)

/- THE SECOND FORM. 'bulk': how many values and letters a reading holds, each counted each time it is reached (what is shared counts as often as it is met; a slice's spare places count too). A statement '..UptoSaid' is the law's where the arguments, and the package variables that the reading takes, are together of bulk at most 1048576: NARROWER than '..Said'. Prove '..Said' where nothing that the law and all that it calls make is longer than what came in: it says more and counts as full. Else prove '..UptoSaid'. A law counts once. -/
mutual
def uptoBulk {H : Type} : DataW H → Nat
  | .lit (.string bytes) => bytes.length + 1
  | .lit _ => 1
  | .nil => 1
  | .ptr d => uptoBulk d + 1
  | .slice elems spare => uptoBulkAll elems + uptoBulkAll spare + 1
  | .agg parts => uptoBulkAll parts + 1
  | .iface _ d => uptoBulk d + 1
  | .map entries => uptoBulkEntries entries + 1
  | .held _ => 1
def uptoBulkAll {H : Type} : List (DataW H) → Nat
  | [] => 0
  | d :: r => uptoBulk d + uptoBulkAll r
def uptoBulkEntries {H : Type} : List (Lit × DataW H) → Nat
  | [] => 0
  | x :: r => uptoBulkEntry x + uptoBulkEntries r
def uptoBulkEntry {H : Type} : Lit × DataW H → Nat
  | (.string bytes, d) => bytes.length + uptoBulk d + 1
  | (_, d) => uptoBulk d + 1
 end
def uptoSmall : (H : Type) → List (DataW H) → Bool := fun _ ds => decide (uptoBulkAll ds ≤ 1048576)
def OpenSpec.upto (s : _root_.Go.ChangeSpec) : _root_.Go.OpenSpec := { _root_.Go.OpenSpec.ofChange s with cond := some uptoSmall }

/-- 'purflinglaw17.AlignLines', WHERE WHAT IT READS IS OF BULK AT MOST 1048576: true; the input reads as it did. -/
def alignLinesUptoRow : OpenClaim := { program := "ytgpcoljgpgamdaa", sum := "382e62b00cacd1c0feac73d1721707f95190c466f0fc7f41b0b4d0968ffc469d", func := "purfling/purflinglaw17.AlignLines", spec := "alignLines", unfollowed := true, recurses := true, apart := false, narrowed := true }
def AlignLinesUptoSaid : Prop := alignLinesUptoRow.holds Try.pinned (OpenSpec.upto alignLinesSpec)

/-- 'purflinglaw17.AlignDowns', WHERE WHAT IT READS IS OF BULK AT MOST 1048576: true; the input reads as it did. -/
def alignDownsUptoRow : OpenClaim := { program := "ytgpcoljgpgamdaa", sum := "382e62b00cacd1c0feac73d1721707f95190c466f0fc7f41b0b4d0968ffc469d", func := "purfling/purflinglaw17.AlignDowns", spec := "alignDowns", unfollowed := true, recurses := true, apart := false, narrowed := true }
def AlignDownsUptoSaid : Prop := alignDownsUptoRow.holds Try.pinned (OpenSpec.upto alignDownsSpec)

/-- 'purflinglaw17.AlignOne', WHERE WHAT IT READS IS OF BULK AT MOST 1048576: true; the input reads as it did. -/
def alignOneUptoRow : OpenClaim := { program := "ytgpcoljgpgamdaa", sum := "382e62b00cacd1c0feac73d1721707f95190c466f0fc7f41b0b4d0968ffc469d", func := "purfling/purflinglaw17.AlignOne", spec := "alignOne", unfollowed := true, recurses := true, apart := false, narrowed := true }
def AlignOneUptoSaid : Prop := alignOneUptoRow.holds Try.pinned (OpenSpec.upto alignOneSpec)

/-- 'purflinglaw17.AlignWithin', WHERE WHAT IT READS IS OF BULK AT MOST 1048576: true; the input reads as it did. -/
def alignWithinUptoRow : OpenClaim := { program := "ytgpcoljgpgamdaa", sum := "382e62b00cacd1c0feac73d1721707f95190c466f0fc7f41b0b4d0968ffc469d", func := "purfling/purflinglaw17.AlignWithin", spec := "alignWithin", unfollowed := true, recurses := true, apart := false, narrowed := true }
def AlignWithinUptoSaid : Prop := alignWithinUptoRow.holds Try.pinned (OpenSpec.upto alignWithinSpec)

/-- 'purflinglaw17.AlignEnds', WHERE WHAT IT READS IS OF BULK AT MOST 1048576: true; the input reads as it did. -/
def alignEndsUptoRow : OpenClaim := { program := "ytgpcoljgpgamdaa", sum := "382e62b00cacd1c0feac73d1721707f95190c466f0fc7f41b0b4d0968ffc469d", func := "purfling/purflinglaw17.AlignEnds", spec := "alignEnds", unfollowed := true, recurses := true, apart := false, narrowed := true }
def AlignEndsUptoSaid : Prop := alignEndsUptoRow.holds Try.pinned (OpenSpec.upto alignEndsSpec)

/-- 'purflinglaw17.AlignNeeds', WHERE WHAT IT READS IS OF BULK AT MOST 1048576: true; the input reads as it did. -/
def alignNeedsUptoRow : OpenClaim := { program := "ytgpcoljgpgamdaa", sum := "382e62b00cacd1c0feac73d1721707f95190c466f0fc7f41b0b4d0968ffc469d", func := "purfling/purflinglaw17.AlignNeeds", spec := "alignNeeds", unfollowed := true, recurses := true, apart := false, narrowed := true }
def AlignNeedsUptoSaid : Prop := alignNeedsUptoRow.holds Try.pinned (OpenSpec.upto alignNeedsSpec)

/-- 'purflinglaw17.AlignTall', WHERE WHAT IT READS IS OF BULK AT MOST 1048576: true; the input reads as it did. -/
def alignTallUptoRow : OpenClaim := { program := "ytgpcoljgpgamdaa", sum := "382e62b00cacd1c0feac73d1721707f95190c466f0fc7f41b0b4d0968ffc469d", func := "purfling/purflinglaw17.AlignTall", spec := "alignTall", unfollowed := true, recurses := true, apart := false, narrowed := true }
def AlignTallUptoSaid : Prop := alignTallUptoRow.holds Try.pinned (OpenSpec.upto alignTallSpec)

end Rows
end Go.Proofs.Ytgpcoljgpgamdaa
