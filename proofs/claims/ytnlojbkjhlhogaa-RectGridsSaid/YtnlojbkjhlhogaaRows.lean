/-
  No cell of these rows narrows 'for every input' (looked for: loops, veiled, ifaces, maps, wideKeys, modest, calm, conditions, laid).
  DERIVED. THE GIVEN ROWS OF THIS SEAT. 8 by the template 'for every input the law returns true; each argument reads behind the call as it read before'; 0 by the template 'total and deterministic' (their statements: YtnlojbkjhlhogaaTotals.lean).
  GIVEN WITH THE SEED: the statements are not yours to turn. If you find one false, say at which input.
  Laid BY PROGRAM, IN A SANDBOX (cutbox-rows.mjs): the forced cells as the released guide's own fill.sh prints them over the translation 140ff0fe7b87d363… (all of the seat's roots in one cut). By AI agents, Wed Nov 11 2026. No macro, syntax, notation, axiom, sorry.
-/
import Derived.Test.YtnlojbkjhlhogaaChecked
import GoSem.Claim
import GoSem.ClaimJoined
import GoSem.ClaimMapViews
import Derived.JoinedTies
import Derived.KernelRfl
namespace Go.Proofs.Ytnlojbkjhlhogaa
/- THE CELL 'sum', in the pinned program and in every row, IS THE sha256 OF THE DUMP (.gsa) THAT YtnlojbkjhlhogaaProg.lean LOADS. Nothing in Lean hashes anything: it is a label: what it is worth is what the hold of that sum in a sandbox is worth. -/
noncomputable def Try.pinned : Pinned := { name := "ytnlojbkjhlhogaa", sum := "140ff0fe7b87d3639d8beeaa8ed45b81fb38f778512969bd6695cfff71a1b0d2", checked := Try.checked }
namespace Rows
def none {H : Type} : Left H := { results := [], args := [] }

/-- 'purflinglaw02.RectMeets': WHATEVER THE INPUT: true; the input reads as it did. -/
def rectMeetsSpec : ChangeSpec := { name := "rectMeets", fn := fun _ => fun
  | [d1, d2] => { results := [.lit (.bool true)], args := [d1, d2] }
  | _ => none }
def rectMeetsRow : OpenClaim := { program := "ytnlojbkjhlhogaa", sum := "140ff0fe7b87d3639d8beeaa8ed45b81fb38f778512969bd6695cfff71a1b0d2", func := "purfling/purflinglaw02.RectMeets", spec := "rectMeets", unfollowed := true, recurses := true, apart := false }
def RectMeetsSaid : Prop := rectMeetsRow.holds Try.pinned (OpenSpec.ofChange rectMeetsSpec)

/-- ITS FALSE NEIGHBOUR: 'it returns false'. Refute it at one input. -/
def rectMeetsWrong : ChangeSpec := { name := "rectMeets", fn := fun _ => fun
  | [d1, d2] => { results := [.lit (.bool false)], args := [d1, d2] }
  | _ => none }
def RectMeetsWrongFalsely : Prop := rectMeetsRow.holds Try.pinned (OpenSpec.ofChange rectMeetsWrong)

/-- 'purflinglaw02.RectAround': WHATEVER THE INPUT: true; the input reads as it did. -/
def rectAroundSpec : ChangeSpec := { name := "rectAround", fn := fun _ => fun
  | [d] => { results := [.lit (.bool true)], args := [d] }
  | _ => none }
def rectAroundRow : OpenClaim := { program := "ytnlojbkjhlhogaa", sum := "140ff0fe7b87d3639d8beeaa8ed45b81fb38f778512969bd6695cfff71a1b0d2", func := "purfling/purflinglaw02.RectAround", spec := "rectAround", unfollowed := true, recurses := true, apart := false }
def RectAroundSaid : Prop := rectAroundRow.holds Try.pinned (OpenSpec.ofChange rectAroundSpec)

/-- ITS FALSE NEIGHBOUR: 'it returns false'. Refute it at one input. -/
def rectAroundWrong : ChangeSpec := { name := "rectAround", fn := fun _ => fun
  | [d] => { results := [.lit (.bool false)], args := [d] }
  | _ => none }
def RectAroundWrongFalsely : Prop := rectAroundRow.holds Try.pinned (OpenSpec.ofChange rectAroundWrong)

/-- 'purflinglaw02.RectTiles': WHATEVER THE INPUT: true; the input reads as it did. -/
def rectTilesSpec : ChangeSpec := { name := "rectTiles", fn := fun _ => fun
  | [d1, d2] => { results := [.lit (.bool true)], args := [d1, d2] }
  | _ => none }
def rectTilesRow : OpenClaim := { program := "ytnlojbkjhlhogaa", sum := "140ff0fe7b87d3639d8beeaa8ed45b81fb38f778512969bd6695cfff71a1b0d2", func := "purfling/purflinglaw02.RectTiles", spec := "rectTiles", unfollowed := true, recurses := true, apart := false }
def RectTilesSaid : Prop := rectTilesRow.holds Try.pinned (OpenSpec.ofChange rectTilesSpec)

/-- ITS FALSE NEIGHBOUR: 'it returns false'. Refute it at one input. -/
def rectTilesWrong : ChangeSpec := { name := "rectTiles", fn := fun _ => fun
  | [d1, d2] => { results := [.lit (.bool false)], args := [d1, d2] }
  | _ => none }
def RectTilesWrongFalsely : Prop := rectTilesRow.holds Try.pinned (OpenSpec.ofChange rectTilesWrong)

/-- 'purflinglaw02.RectGrids': WHATEVER THE INPUT: true; the input reads as it did. -/
def rectGridsSpec : ChangeSpec := { name := "rectGrids", fn := fun _ => fun
  | [d1, d2, d3] => { results := [.lit (.bool true)], args := [d1, d2, d3] }
  | _ => none }
def rectGridsRow : OpenClaim := { program := "ytnlojbkjhlhogaa", sum := "140ff0fe7b87d3639d8beeaa8ed45b81fb38f778512969bd6695cfff71a1b0d2", func := "purfling/purflinglaw02.RectGrids", spec := "rectGrids", unfollowed := true, recurses := true, apart := false }
def RectGridsSaid : Prop := rectGridsRow.holds Try.pinned (OpenSpec.ofChange rectGridsSpec)

/-- ITS FALSE NEIGHBOUR: 'it returns false'. Refute it at one input. -/
def rectGridsWrong : ChangeSpec := { name := "rectGrids", fn := fun _ => fun
  | [d1, d2, d3] => { results := [.lit (.bool false)], args := [d1, d2, d3] }
  | _ => none }
def RectGridsWrongFalsely : Prop := rectGridsRow.holds Try.pinned (OpenSpec.ofChange rectGridsWrong)

/-- 'purflinglaw02.RectOrders': WHATEVER THE INPUT: true; the input reads as it did. -/
def rectOrdersSpec : ChangeSpec := { name := "rectOrders", fn := fun _ => fun
  | [d1, d2] => { results := [.lit (.bool true)], args := [d1, d2] }
  | _ => none }
def rectOrdersRow : OpenClaim := { program := "ytnlojbkjhlhogaa", sum := "140ff0fe7b87d3639d8beeaa8ed45b81fb38f778512969bd6695cfff71a1b0d2", func := "purfling/purflinglaw02.RectOrders", spec := "rectOrders", unfollowed := true, recurses := true, apart := false }
def RectOrdersSaid : Prop := rectOrdersRow.holds Try.pinned (OpenSpec.ofChange rectOrdersSpec)

/-- ITS FALSE NEIGHBOUR: 'it returns false'. Refute it at one input. -/
def rectOrdersWrong : ChangeSpec := { name := "rectOrders", fn := fun _ => fun
  | [d1, d2] => { results := [.lit (.bool false)], args := [d1, d2] }
  | _ => none }
def RectOrdersWrongFalsely : Prop := rectOrdersRow.holds Try.pinned (OpenSpec.ofChange rectOrdersWrong)

/-- 'purflinglaw02.RectAlone': WHATEVER THE INPUT: true; the input reads as it did. -/
def rectAloneSpec : ChangeSpec := { name := "rectAlone", fn := fun _ => fun
  | [d] => { results := [.lit (.bool true)], args := [d] }
  | _ => none }
def rectAloneRow : OpenClaim := { program := "ytnlojbkjhlhogaa", sum := "140ff0fe7b87d3639d8beeaa8ed45b81fb38f778512969bd6695cfff71a1b0d2", func := "purfling/purflinglaw02.RectAlone", spec := "rectAlone", unfollowed := true, recurses := true, apart := false }
def RectAloneSaid : Prop := rectAloneRow.holds Try.pinned (OpenSpec.ofChange rectAloneSpec)

/-- ITS FALSE NEIGHBOUR: 'it returns false'. Refute it at one input. -/
def rectAloneWrong : ChangeSpec := { name := "rectAlone", fn := fun _ => fun
  | [d] => { results := [.lit (.bool false)], args := [d] }
  | _ => none }
def RectAloneWrongFalsely : Prop := rectAloneRow.holds Try.pinned (OpenSpec.ofChange rectAloneWrong)

/-- 'purflinglaw02.RectMoves': WHATEVER THE INPUT: true; the input reads as it did. -/
def rectMovesSpec : ChangeSpec := { name := "rectMoves", fn := fun _ => fun
  | [d1, d2, d3, d4] => { results := [.lit (.bool true)], args := [d1, d2, d3, d4] }
  | _ => none }
def rectMovesRow : OpenClaim := { program := "ytnlojbkjhlhogaa", sum := "140ff0fe7b87d3639d8beeaa8ed45b81fb38f778512969bd6695cfff71a1b0d2", func := "purfling/purflinglaw02.RectMoves", spec := "rectMoves", unfollowed := true, recurses := true, apart := false }
def RectMovesSaid : Prop := rectMovesRow.holds Try.pinned (OpenSpec.ofChange rectMovesSpec)

/-- ITS FALSE NEIGHBOUR: 'it returns false'. Refute it at one input. -/
def rectMovesWrong : ChangeSpec := { name := "rectMoves", fn := fun _ => fun
  | [d1, d2, d3, d4] => { results := [.lit (.bool false)], args := [d1, d2, d3, d4] }
  | _ => none }
def RectMovesWrongFalsely : Prop := rectMovesRow.holds Try.pinned (OpenSpec.ofChange rectMovesWrong)

/-- 'purflinglaw02.RectBack': WHATEVER THE INPUT: true; the input reads as it did. -/
def rectBackSpec : ChangeSpec := { name := "rectBack", fn := fun _ => fun
  | [d1, d2, d3] => { results := [.lit (.bool true)], args := [d1, d2, d3] }
  | _ => none }
def rectBackRow : OpenClaim := { program := "ytnlojbkjhlhogaa", sum := "140ff0fe7b87d3639d8beeaa8ed45b81fb38f778512969bd6695cfff71a1b0d2", func := "purfling/purflinglaw02.RectBack", spec := "rectBack", unfollowed := true, recurses := true, apart := false }
def RectBackSaid : Prop := rectBackRow.holds Try.pinned (OpenSpec.ofChange rectBackSpec)

/-- ITS FALSE NEIGHBOUR: 'it returns false'. Refute it at one input. -/
def rectBackWrong : ChangeSpec := { name := "rectBack", fn := fun _ => fun
  | [d1, d2, d3] => { results := [.lit (.bool false)], args := [d1, d2, d3] }
  | _ => none }
def RectBackWrongFalsely : Prop := rectBackRow.holds Try.pinned (OpenSpec.ofChange rectBackWrong)

/- THE SECOND FORM. 'bulk': how many values and letters a reading holds, each counted each time it is reached (what is shared counts as often as it is met; a slice's spare places count too). A statement '..UptoSaid' is the law's where the arguments, and the package variables that the reading takes, are together of bulk at most 1048576: NARROWER than '..Said'. Prove '..Said' where nothing that the law and all that it calls make is longer than what came in: it says more and counts as full. Else prove '..UptoSaid'. A law counts once. -/
mutual
def uptoBulk {H : Type} : DataW H → Nat
  | .lit (.string bytes) => bytes.length + 1
  | .lit _ => 1
  | .nil => 1
  | .ptr d => uptoBulk d + 1
  | .slice elems spare => uptoBulkAll elems + uptoBulkAll spare + 1
  | .agg parts => uptoBulkAll parts + 1
  | .iface _ d => uptoBulk d + 1
  | .map entries => uptoBulkEntries entries + 1
  | .held _ => 1
def uptoBulkAll {H : Type} : List (DataW H) → Nat
  | [] => 0
  | d :: r => uptoBulk d + uptoBulkAll r
def uptoBulkEntries {H : Type} : List (Lit × DataW H) → Nat
  | [] => 0
  | x :: r => uptoBulkEntry x + uptoBulkEntries r
def uptoBulkEntry {H : Type} : Lit × DataW H → Nat
  | (.string bytes, d) => bytes.length + uptoBulk d + 1
  | (_, d) => uptoBulk d + 1
 end
def uptoSmall : (H : Type) → List (DataW H) → Bool := fun _ ds => decide (uptoBulkAll ds ≤ 1048576)
def OpenSpec.upto (s : _root_.Go.ChangeSpec) : _root_.Go.OpenSpec := { _root_.Go.OpenSpec.ofChange s with cond := some uptoSmall }

/-- 'purflinglaw02.RectMeets', WHERE WHAT IT READS IS OF BULK AT MOST 1048576: true; the input reads as it did. -/
def rectMeetsUptoRow : OpenClaim := { program := "ytnlojbkjhlhogaa", sum := "140ff0fe7b87d3639d8beeaa8ed45b81fb38f778512969bd6695cfff71a1b0d2", func := "purfling/purflinglaw02.RectMeets", spec := "rectMeets", unfollowed := true, recurses := true, apart := false, narrowed := true }
def RectMeetsUptoSaid : Prop := rectMeetsUptoRow.holds Try.pinned (OpenSpec.upto rectMeetsSpec)

/-- 'purflinglaw02.RectAround', WHERE WHAT IT READS IS OF BULK AT MOST 1048576: true; the input reads as it did. -/
def rectAroundUptoRow : OpenClaim := { program := "ytnlojbkjhlhogaa", sum := "140ff0fe7b87d3639d8beeaa8ed45b81fb38f778512969bd6695cfff71a1b0d2", func := "purfling/purflinglaw02.RectAround", spec := "rectAround", unfollowed := true, recurses := true, apart := false, narrowed := true }
def RectAroundUptoSaid : Prop := rectAroundUptoRow.holds Try.pinned (OpenSpec.upto rectAroundSpec)

/-- 'purflinglaw02.RectTiles', WHERE WHAT IT READS IS OF BULK AT MOST 1048576: true; the input reads as it did. -/
def rectTilesUptoRow : OpenClaim := { program := "ytnlojbkjhlhogaa", sum := "140ff0fe7b87d3639d8beeaa8ed45b81fb38f778512969bd6695cfff71a1b0d2", func := "purfling/purflinglaw02.RectTiles", spec := "rectTiles", unfollowed := true, recurses := true, apart := false, narrowed := true }
def RectTilesUptoSaid : Prop := rectTilesUptoRow.holds Try.pinned (OpenSpec.upto rectTilesSpec)

/-- 'purflinglaw02.RectGrids', WHERE WHAT IT READS IS OF BULK AT MOST 1048576: true; the input reads as it did. -/
def rectGridsUptoRow : OpenClaim := { program := "ytnlojbkjhlhogaa", sum := "140ff0fe7b87d3639d8beeaa8ed45b81fb38f778512969bd6695cfff71a1b0d2", func := "purfling/purflinglaw02.RectGrids", spec := "rectGrids", unfollowed := true, recurses := true, apart := false, narrowed := true }
def RectGridsUptoSaid : Prop := rectGridsUptoRow.holds Try.pinned (OpenSpec.upto rectGridsSpec)

/-- 'purflinglaw02.RectOrders', WHERE WHAT IT READS IS OF BULK AT MOST 1048576: true; the input reads as it did. -/
def rectOrdersUptoRow : OpenClaim := { program := "ytnlojbkjhlhogaa", sum := "140ff0fe7b87d3639d8beeaa8ed45b81fb38f778512969bd6695cfff71a1b0d2", func := "purfling/purflinglaw02.RectOrders", spec := "rectOrders", unfollowed := true, recurses := true, apart := false, narrowed := true }
def RectOrdersUptoSaid : Prop := rectOrdersUptoRow.holds Try.pinned (OpenSpec.upto rectOrdersSpec)

/-- 'purflinglaw02.RectAlone', WHERE WHAT IT READS IS OF BULK AT MOST 1048576: true; the input reads as it did. -/
def rectAloneUptoRow : OpenClaim := { program := "ytnlojbkjhlhogaa", sum := "140ff0fe7b87d3639d8beeaa8ed45b81fb38f778512969bd6695cfff71a1b0d2", func := "purfling/purflinglaw02.RectAlone", spec := "rectAlone", unfollowed := true, recurses := true, apart := false, narrowed := true }
def RectAloneUptoSaid : Prop := rectAloneUptoRow.holds Try.pinned (OpenSpec.upto rectAloneSpec)

/-- 'purflinglaw02.RectMoves', WHERE WHAT IT READS IS OF BULK AT MOST 1048576: true; the input reads as it did. -/
def rectMovesUptoRow : OpenClaim := { program := "ytnlojbkjhlhogaa", sum := "140ff0fe7b87d3639d8beeaa8ed45b81fb38f778512969bd6695cfff71a1b0d2", func := "purfling/purflinglaw02.RectMoves", spec := "rectMoves", unfollowed := true, recurses := true, apart := false, narrowed := true }
def RectMovesUptoSaid : Prop := rectMovesUptoRow.holds Try.pinned (OpenSpec.upto rectMovesSpec)

/-- 'purflinglaw02.RectBack', WHERE WHAT IT READS IS OF BULK AT MOST 1048576: true; the input reads as it did. -/
def rectBackUptoRow : OpenClaim := { program := "ytnlojbkjhlhogaa", sum := "140ff0fe7b87d3639d8beeaa8ed45b81fb38f778512969bd6695cfff71a1b0d2", func := "purfling/purflinglaw02.RectBack", spec := "rectBack", unfollowed := true, recurses := true, apart := false, narrowed := true }
def RectBackUptoSaid : Prop := rectBackUptoRow.holds Try.pinned (OpenSpec.upto rectBackSpec)

end Rows
end Go.Proofs.Ytnlojbkjhlhogaa
