/-
  No cell of these rows narrows 'for every input' (looked for: loops, veiled, ifaces, maps, wideKeys, modest, calm, conditions, laid).
  DERIVED. THE GIVEN ROWS OF THIS SEAT. 4 by the template 'for every input the law returns true; each argument reads behind the call as it read before'; 0 by the template 'total and deterministic' (their statements: YthlhfnbaihdjkaaTotals.lean).
  GIVEN WITH THE SEED: the statements are not yours to turn. If you find one false, say at which input.
  Laid BY PROGRAM, IN A SANDBOX (cutbox-rows.mjs): the forced cells as the released guide's own fill.sh prints them over the translation 3cd320fdeadcf6fc… (all of the seat's roots in one cut). By AI agents, Wed Nov 11 2026. No macro, syntax, notation, axiom, sorry.
-/
import Derived.Test.YthlhfnbaihdjkaaChecked
import GoSem.Claim
import GoSem.ClaimJoined
import GoSem.ClaimMapViews
import Derived.JoinedTies
import Derived.KernelRfl
namespace Go.Proofs.Ythlhfnbaihdjkaa
/- THE CELL 'sum', in the pinned program and in every row, IS THE sha256 OF THE DUMP (.gsa) THAT YthlhfnbaihdjkaaProg.lean LOADS. Nothing in Lean hashes anything: it is a label: what it is worth is what the hold of that sum in a sandbox is worth. -/
noncomputable def Try.pinned : Pinned := { name := "ythlhfnbaihdjkaa", sum := "3cd320fdeadcf6fc80c3543c114a6a00119036584aee4b34e1bd85198a27a211", checked := Try.checked }
namespace Rows
def none {H : Type} : Left H := { results := [], args := [] }

/-- 'compositorlaw23.ShipWrites': WHATEVER THE INPUT: true; the input reads as it did. -/
def shipWritesSpec : ChangeSpec := { name := "shipWrites", fn := fun _ => fun
  | [d] => { results := [.lit (.bool true)], args := [d] }
  | _ => none }
def shipWritesRow : OpenClaim := { program := "ythlhfnbaihdjkaa", sum := "3cd320fdeadcf6fc80c3543c114a6a00119036584aee4b34e1bd85198a27a211", func := "compositor/compositorlaw23.ShipWrites", spec := "shipWrites", unfollowed := true, recurses := true, apart := false }
def ShipWritesSaid : Prop := shipWritesRow.holds Try.pinned (OpenSpec.ofChange shipWritesSpec)

/-- ITS FALSE NEIGHBOUR: 'it returns false'. Refute it at one input. -/
def shipWritesWrong : ChangeSpec := { name := "shipWrites", fn := fun _ => fun
  | [d] => { results := [.lit (.bool false)], args := [d] }
  | _ => none }
def ShipWritesWrongFalsely : Prop := shipWritesRow.holds Try.pinned (OpenSpec.ofChange shipWritesWrong)

/-- 'compositorlaw23.ShipReads': WHATEVER THE INPUT: true; the input reads as it did. -/
def shipReadsSpec : ChangeSpec := { name := "shipReads", fn := fun _ => fun
  | [d] => { results := [.lit (.bool true)], args := [d] }
  | _ => none }
def shipReadsRow : OpenClaim := { program := "ythlhfnbaihdjkaa", sum := "3cd320fdeadcf6fc80c3543c114a6a00119036584aee4b34e1bd85198a27a211", func := "compositor/compositorlaw23.ShipReads", spec := "shipReads", unfollowed := true, recurses := true, apart := false }
def ShipReadsSaid : Prop := shipReadsRow.holds Try.pinned (OpenSpec.ofChange shipReadsSpec)

/-- ITS FALSE NEIGHBOUR: 'it returns false'. Refute it at one input. -/
def shipReadsWrong : ChangeSpec := { name := "shipReads", fn := fun _ => fun
  | [d] => { results := [.lit (.bool false)], args := [d] }
  | _ => none }
def ShipReadsWrongFalsely : Prop := shipReadsRow.holds Try.pinned (OpenSpec.ofChange shipReadsWrong)

/-- 'compositorlaw23.ShipBack': WHATEVER THE INPUT: true; the input reads as it did. -/
def shipBackSpec : ChangeSpec := { name := "shipBack", fn := fun _ => fun
  | [d1, d2, d3] => { results := [.lit (.bool true)], args := [d1, d2, d3] }
  | _ => none }
def shipBackRow : OpenClaim := { program := "ythlhfnbaihdjkaa", sum := "3cd320fdeadcf6fc80c3543c114a6a00119036584aee4b34e1bd85198a27a211", func := "compositor/compositorlaw23.ShipBack", spec := "shipBack", unfollowed := true, recurses := true, apart := false }
def ShipBackSaid : Prop := shipBackRow.holds Try.pinned (OpenSpec.ofChange shipBackSpec)

/-- ITS FALSE NEIGHBOUR: 'it returns false'. Refute it at one input. -/
def shipBackWrong : ChangeSpec := { name := "shipBack", fn := fun _ => fun
  | [d1, d2, d3] => { results := [.lit (.bool false)], args := [d1, d2, d3] }
  | _ => none }
def ShipBackWrongFalsely : Prop := shipBackRow.holds Try.pinned (OpenSpec.ofChange shipBackWrong)

/-- 'compositorlaw23.ShipSize': WHATEVER THE INPUT: true; the input reads as it did. -/
def shipSizeSpec : ChangeSpec := { name := "shipSize", fn := fun _ => fun
  | [d] => { results := [.lit (.bool true)], args := [d] }
  | _ => none }
def shipSizeRow : OpenClaim := { program := "ythlhfnbaihdjkaa", sum := "3cd320fdeadcf6fc80c3543c114a6a00119036584aee4b34e1bd85198a27a211", func := "compositor/compositorlaw23.ShipSize", spec := "shipSize", unfollowed := true, recurses := true, apart := false }
def ShipSizeSaid : Prop := shipSizeRow.holds Try.pinned (OpenSpec.ofChange shipSizeSpec)

/-- ITS FALSE NEIGHBOUR: 'it returns false'. Refute it at one input. -/
def shipSizeWrong : ChangeSpec := { name := "shipSize", fn := fun _ => fun
  | [d] => { results := [.lit (.bool false)], args := [d] }
  | _ => none }
def ShipSizeWrongFalsely : Prop := shipSizeRow.holds Try.pinned (OpenSpec.ofChange shipSizeWrong)

/- THE SECOND FORM. 'bulk': how many values and letters a reading holds, each counted each time it is reached (what is shared counts as often as it is met; a slice's spare places count too). A statement '..UptoSaid' is the law's where the arguments, and the package variables that the reading takes, are together of bulk at most 1048576: NARROWER than '..Said'. Prove '..Said' where nothing that the law and all that it calls make is longer than what came in: it says more and counts as full. Else prove '..UptoSaid'. A law counts once. -/
mutual
def uptoBulk {H : Type} : DataW H → Nat
  | .lit (.string bytes) => bytes.length + 1
  | .lit _ => 1
  | .nil => 1
  | .ptr d => uptoBulk d + 1
  | .slice elems spare => uptoBulkAll elems + uptoBulkAll spare + 1
  | .agg parts => uptoBulkAll parts + 1
  | .iface _ d => uptoBulk d + 1
  | .map entries => uptoBulkEntries entries + 1
  | .held _ => 1
def uptoBulkAll {H : Type} : List (DataW H) → Nat
  | [] => 0
  | d :: r => uptoBulk d + uptoBulkAll r
def uptoBulkEntries {H : Type} : List (Lit × DataW H) → Nat
  | [] => 0
  | x :: r => uptoBulkEntry x + uptoBulkEntries r
def uptoBulkEntry {H : Type} : Lit × DataW H → Nat
  | (.string bytes, d) => bytes.length + uptoBulk d + 1
  | (_, d) => uptoBulk d + 1
 end
def uptoSmall : (H : Type) → List (DataW H) → Bool := fun _ ds => decide (uptoBulkAll ds ≤ 1048576)
def OpenSpec.upto (s : _root_.Go.ChangeSpec) : _root_.Go.OpenSpec := { _root_.Go.OpenSpec.ofChange s with cond := some uptoSmall }

/-- 'compositorlaw23.ShipWrites', WHERE WHAT IT READS IS OF BULK AT MOST 1048576: true; the input reads as it did. -/
def shipWritesUptoRow : OpenClaim := { program := "ythlhfnbaihdjkaa", sum := "3cd320fdeadcf6fc80c3543c114a6a00119036584aee4b34e1bd85198a27a211", func := "compositor/compositorlaw23.ShipWrites", spec := "shipWrites", unfollowed := true, recurses := true, apart := false, narrowed := true }
def ShipWritesUptoSaid : Prop := shipWritesUptoRow.holds Try.pinned (OpenSpec.upto shipWritesSpec)

/-- 'compositorlaw23.ShipReads', WHERE WHAT IT READS IS OF BULK AT MOST 1048576: true; the input reads as it did. -/
def shipReadsUptoRow : OpenClaim := { program := "ythlhfnbaihdjkaa", sum := "3cd320fdeadcf6fc80c3543c114a6a00119036584aee4b34e1bd85198a27a211", func := "compositor/compositorlaw23.ShipReads", spec := "shipReads", unfollowed := true, recurses := true, apart := false, narrowed := true }
def ShipReadsUptoSaid : Prop := shipReadsUptoRow.holds Try.pinned (OpenSpec.upto shipReadsSpec)

/-- 'compositorlaw23.ShipBack', WHERE WHAT IT READS IS OF BULK AT MOST 1048576: true; the input reads as it did. -/
def shipBackUptoRow : OpenClaim := { program := "ythlhfnbaihdjkaa", sum := "3cd320fdeadcf6fc80c3543c114a6a00119036584aee4b34e1bd85198a27a211", func := "compositor/compositorlaw23.ShipBack", spec := "shipBack", unfollowed := true, recurses := true, apart := false, narrowed := true }
def ShipBackUptoSaid : Prop := shipBackUptoRow.holds Try.pinned (OpenSpec.upto shipBackSpec)

/-- 'compositorlaw23.ShipSize', WHERE WHAT IT READS IS OF BULK AT MOST 1048576: true; the input reads as it did. -/
def shipSizeUptoRow : OpenClaim := { program := "ythlhfnbaihdjkaa", sum := "3cd320fdeadcf6fc80c3543c114a6a00119036584aee4b34e1bd85198a27a211", func := "compositor/compositorlaw23.ShipSize", spec := "shipSize", unfollowed := true, recurses := true, apart := false, narrowed := true }
def ShipSizeUptoSaid : Prop := shipSizeUptoRow.holds Try.pinned (OpenSpec.upto shipSizeSpec)

end Rows
end Go.Proofs.Ythlhfnbaihdjkaa
