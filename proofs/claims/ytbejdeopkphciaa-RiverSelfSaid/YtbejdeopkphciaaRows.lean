/-
  No cell of these rows narrows 'for every input' (looked for: loops, veiled, ifaces, maps, wideKeys, modest, calm, conditions, laid).
  DERIVED. THE GIVEN ROWS OF THIS SEAT. 4 by the template 'for every input the law returns true; each argument reads behind the call as it read before'; 0 by the template 'total and deterministic' (their statements: YtbejdeopkphciaaTotals.lean).
  GIVEN WITH THE SEED: the statements are not yours to turn. If you find one false, say at which input.
  Laid BY PROGRAM, IN A SANDBOX (cutbox-rows.mjs): the forced cells as the released guide's own fill.sh prints them over the translation 3e17030a4e203e15… (all of the seat's roots in one cut). By AI agents, Wed Nov 11 2026. No macro, syntax, notation, axiom, sorry.
-/
import Derived.Test.YtbejdeopkphciaaChecked
import GoSem.Claim
import GoSem.ClaimJoined
import GoSem.ClaimMapViews
import Derived.JoinedTies
import Derived.KernelRfl
namespace Go.Proofs.Ytbejdeopkphciaa
/- THE CELL 'sum', in the pinned program and in every row, IS THE sha256 OF THE DUMP (.gsa) THAT YtbejdeopkphciaaProg.lean LOADS. Nothing in Lean hashes anything: it is a label: what it is worth is what the hold of that sum in a sandbox is worth. -/
noncomputable def Try.pinned : Pinned := { name := "ytbejdeopkphciaa", sum := "3e17030a4e203e1541ac3fd49f5f3c791ee46eeb131dd05ef1f1287bdbdfac95", checked := Try.checked }
namespace Rows
def none {H : Type} : Left H := { results := [], args := [] }

/-- 'compositorlaw20.RiverTells': WHATEVER THE INPUT: true; the input reads as it did. -/
def riverTellsSpec : ChangeSpec := { name := "riverTells", fn := fun _ => fun
  | [d1, d2] => { results := [.lit (.bool true)], args := [d1, d2] }
  | _ => none }
def riverTellsRow : OpenClaim := { program := "ytbejdeopkphciaa", sum := "3e17030a4e203e1541ac3fd49f5f3c791ee46eeb131dd05ef1f1287bdbdfac95", func := "compositor/compositorlaw20.RiverTells", spec := "riverTells", unfollowed := true, recurses := true, apart := false }
def RiverTellsSaid : Prop := riverTellsRow.holds Try.pinned (OpenSpec.ofChange riverTellsSpec)

/-- ITS FALSE NEIGHBOUR: 'it returns false'. Refute it at one input. -/
def riverTellsWrong : ChangeSpec := { name := "riverTells", fn := fun _ => fun
  | [d1, d2] => { results := [.lit (.bool false)], args := [d1, d2] }
  | _ => none }
def RiverTellsWrongFalsely : Prop := riverTellsRow.holds Try.pinned (OpenSpec.ofChange riverTellsWrong)

/-- 'compositorlaw20.RiverTurns': WHATEVER THE INPUT: true; the input reads as it did. -/
def riverTurnsSpec : ChangeSpec := { name := "riverTurns", fn := fun _ => fun
  | [d1, d2] => { results := [.lit (.bool true)], args := [d1, d2] }
  | _ => none }
def riverTurnsRow : OpenClaim := { program := "ytbejdeopkphciaa", sum := "3e17030a4e203e1541ac3fd49f5f3c791ee46eeb131dd05ef1f1287bdbdfac95", func := "compositor/compositorlaw20.RiverTurns", spec := "riverTurns", unfollowed := true, recurses := true, apart := false }
def RiverTurnsSaid : Prop := riverTurnsRow.holds Try.pinned (OpenSpec.ofChange riverTurnsSpec)

/-- ITS FALSE NEIGHBOUR: 'it returns false'. Refute it at one input. -/
def riverTurnsWrong : ChangeSpec := { name := "riverTurns", fn := fun _ => fun
  | [d1, d2] => { results := [.lit (.bool false)], args := [d1, d2] }
  | _ => none }
def RiverTurnsWrongFalsely : Prop := riverTurnsRow.holds Try.pinned (OpenSpec.ofChange riverTurnsWrong)

/-- 'compositorlaw20.RiverSelf': WHATEVER THE INPUT: true; the input reads as it did. -/
def riverSelfSpec : ChangeSpec := { name := "riverSelf", fn := fun _ => fun
  | [d1, d2] => { results := [.lit (.bool true)], args := [d1, d2] }
  | _ => none }
def riverSelfRow : OpenClaim := { program := "ytbejdeopkphciaa", sum := "3e17030a4e203e1541ac3fd49f5f3c791ee46eeb131dd05ef1f1287bdbdfac95", func := "compositor/compositorlaw20.RiverSelf", spec := "riverSelf", unfollowed := true, recurses := true, apart := false }
def RiverSelfSaid : Prop := riverSelfRow.holds Try.pinned (OpenSpec.ofChange riverSelfSpec)

/-- ITS FALSE NEIGHBOUR: 'it returns false'. Refute it at one input. -/
def riverSelfWrong : ChangeSpec := { name := "riverSelf", fn := fun _ => fun
  | [d1, d2] => { results := [.lit (.bool false)], args := [d1, d2] }
  | _ => none }
def RiverSelfWrongFalsely : Prop := riverSelfRow.holds Try.pinned (OpenSpec.ofChange riverSelfWrong)

/-- 'compositorlaw20.RiverMoves': WHATEVER THE INPUT: true; the input reads as it did. -/
def riverMovesSpec : ChangeSpec := { name := "riverMoves", fn := fun _ => fun
  | [d1, d2, d3] => { results := [.lit (.bool true)], args := [d1, d2, d3] }
  | _ => none }
def riverMovesRow : OpenClaim := { program := "ytbejdeopkphciaa", sum := "3e17030a4e203e1541ac3fd49f5f3c791ee46eeb131dd05ef1f1287bdbdfac95", func := "compositor/compositorlaw20.RiverMoves", spec := "riverMoves", unfollowed := true, recurses := true, apart := false }
def RiverMovesSaid : Prop := riverMovesRow.holds Try.pinned (OpenSpec.ofChange riverMovesSpec)

/-- ITS FALSE NEIGHBOUR: 'it returns false'. Refute it at one input. -/
def riverMovesWrong : ChangeSpec := { name := "riverMoves", fn := fun _ => fun
  | [d1, d2, d3] => { results := [.lit (.bool false)], args := [d1, d2, d3] }
  | _ => none }
def RiverMovesWrongFalsely : Prop := riverMovesRow.holds Try.pinned (OpenSpec.ofChange riverMovesWrong)

/- THE SECOND FORM. 'bulk': how many values and letters a reading holds, each counted each time it is reached (what is shared counts as often as it is met; a slice's spare places count too). A statement '..UptoSaid' is the law's where the arguments, and the package variables that the reading takes, are together of bulk at most 1048576: NARROWER than '..Said'. Prove '..Said' where nothing that the law and all that it calls make is longer than what came in: it says more and counts as full. Else prove '..UptoSaid'. A law counts once. -/
mutual
def uptoBulk {H : Type} : DataW H → Nat
  | .lit (.string bytes) => bytes.length + 1
  | .lit _ => 1
  | .nil => 1
  | .ptr d => uptoBulk d + 1
  | .slice elems spare => uptoBulkAll elems + uptoBulkAll spare + 1
  | .agg parts => uptoBulkAll parts + 1
  | .iface _ d => uptoBulk d + 1
  | .map entries => uptoBulkEntries entries + 1
  | .held _ => 1
def uptoBulkAll {H : Type} : List (DataW H) → Nat
  | [] => 0
  | d :: r => uptoBulk d + uptoBulkAll r
def uptoBulkEntries {H : Type} : List (Lit × DataW H) → Nat
  | [] => 0
  | x :: r => uptoBulkEntry x + uptoBulkEntries r
def uptoBulkEntry {H : Type} : Lit × DataW H → Nat
  | (.string bytes, d) => bytes.length + uptoBulk d + 1
  | (_, d) => uptoBulk d + 1
 end
def uptoSmall : (H : Type) → List (DataW H) → Bool := fun _ ds => decide (uptoBulkAll ds ≤ 1048576)
def OpenSpec.upto (s : _root_.Go.ChangeSpec) : _root_.Go.OpenSpec := { _root_.Go.OpenSpec.ofChange s with cond := some uptoSmall }

/-- 'compositorlaw20.RiverTells', WHERE WHAT IT READS IS OF BULK AT MOST 1048576: true; the input reads as it did. -/
def riverTellsUptoRow : OpenClaim := { program := "ytbejdeopkphciaa", sum := "3e17030a4e203e1541ac3fd49f5f3c791ee46eeb131dd05ef1f1287bdbdfac95", func := "compositor/compositorlaw20.RiverTells", spec := "riverTells", unfollowed := true, recurses := true, apart := false, narrowed := true }
def RiverTellsUptoSaid : Prop := riverTellsUptoRow.holds Try.pinned (OpenSpec.upto riverTellsSpec)

/-- 'compositorlaw20.RiverTurns', WHERE WHAT IT READS IS OF BULK AT MOST 1048576: true; the input reads as it did. -/
def riverTurnsUptoRow : OpenClaim := { program := "ytbejdeopkphciaa", sum := "3e17030a4e203e1541ac3fd49f5f3c791ee46eeb131dd05ef1f1287bdbdfac95", func := "compositor/compositorlaw20.RiverTurns", spec := "riverTurns", unfollowed := true, recurses := true, apart := false, narrowed := true }
def RiverTurnsUptoSaid : Prop := riverTurnsUptoRow.holds Try.pinned (OpenSpec.upto riverTurnsSpec)

/-- 'compositorlaw20.RiverSelf', WHERE WHAT IT READS IS OF BULK AT MOST 1048576: true; the input reads as it did. -/
def riverSelfUptoRow : OpenClaim := { program := "ytbejdeopkphciaa", sum := "3e17030a4e203e1541ac3fd49f5f3c791ee46eeb131dd05ef1f1287bdbdfac95", func := "compositor/compositorlaw20.RiverSelf", spec := "riverSelf", unfollowed := true, recurses := true, apart := false, narrowed := true }
def RiverSelfUptoSaid : Prop := riverSelfUptoRow.holds Try.pinned (OpenSpec.upto riverSelfSpec)

/-- 'compositorlaw20.RiverMoves', WHERE WHAT IT READS IS OF BULK AT MOST 1048576: true; the input reads as it did. -/
def riverMovesUptoRow : OpenClaim := { program := "ytbejdeopkphciaa", sum := "3e17030a4e203e1541ac3fd49f5f3c791ee46eeb131dd05ef1f1287bdbdfac95", func := "compositor/compositorlaw20.RiverMoves", spec := "riverMoves", unfollowed := true, recurses := true, apart := false, narrowed := true }
def RiverMovesUptoSaid : Prop := riverMovesUptoRow.holds Try.pinned (OpenSpec.upto riverMovesSpec)

end Rows
end Go.Proofs.Ytbejdeopkphciaa
