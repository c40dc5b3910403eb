/-
  No cell of these rows narrows 'for every input' (looked for: loops, veiled, ifaces, maps, wideKeys, modest, calm, conditions, laid).
  DERIVED. THE GIVEN ROWS OF THIS SEAT. 5 by the template 'for every input the law returns true; each argument reads behind the call as it read before'; 0 by the template 'total and deterministic' (their statements: YtkmdpliokmfboaaTotals.lean).
  GIVEN WITH THE SEED: the statements are not yours to turn. If you find one false, say at which input.
  Laid BY PROGRAM, IN A SANDBOX (cutbox-rows.mjs): the forced cells as the released guide's own fill.sh prints them over the translation 265943e4b167824b… (all of the seat's roots in one cut). By AI agents, Wed Nov 11 2026. No macro, syntax, notation, axiom, sorry.
-/
import Derived.Test.YtkmdpliokmfboaaChecked
import GoSem.Claim
import GoSem.ClaimJoined
import GoSem.ClaimMapViews
import Derived.JoinedTies
import Derived.KernelRfl
namespace Go.Proofs.Ytkmdpliokmfboaa
/- THE CELL 'sum', in the pinned program and in every row, IS THE sha256 OF THE DUMP (.gsa) THAT YtkmdpliokmfboaaProg.lean LOADS. Nothing in Lean hashes anything: it is a label: what it is worth is what the hold of that sum in a sandbox is worth. -/
noncomputable def Try.pinned : Pinned := { name := "ytkmdpliokmfboaa", sum := "265943e4b167824bafd735a5eea2106b1a5a88114802a2ee233cfdeb3bedb6c4", checked := Try.checked }
namespace Rows
def none {H : Type} : Left H := { results := [], args := [] }

/-- 'recordlinklaw07.DistanceLeast': WHATEVER THE INPUT: true; the input reads as it did. -/
def distanceLeastSpec : ChangeSpec := { name := "distanceLeast", fn := fun _ => fun
  | [d] => { results := [.lit (.bool true)], args := [d] }
  | _ => none }
def distanceLeastRow : OpenClaim := { program := "ytkmdpliokmfboaa", sum := "265943e4b167824bafd735a5eea2106b1a5a88114802a2ee233cfdeb3bedb6c4", func := "recordlink/recordlinklaw07.DistanceLeast", spec := "distanceLeast", unfollowed := true, recurses := true, apart := false }
def DistanceLeastSaid : Prop := distanceLeastRow.holds Try.pinned (OpenSpec.ofChange distanceLeastSpec)

/-- ITS FALSE NEIGHBOUR: 'it returns false'. Refute it at one input. -/
def distanceLeastWrong : ChangeSpec := { name := "distanceLeast", fn := fun _ => fun
  | [d] => { results := [.lit (.bool false)], args := [d] }
  | _ => none }
def DistanceLeastWrongFalsely : Prop := distanceLeastRow.holds Try.pinned (OpenSpec.ofChange distanceLeastWrong)

/-- 'recordlinklaw07.DistanceScript': WHATEVER THE INPUT: true; the input reads as it did. -/
def distanceScriptSpec : ChangeSpec := { name := "distanceScript", fn := fun _ => fun
  | [d] => { results := [.lit (.bool true)], args := [d] }
  | _ => none }
def distanceScriptRow : OpenClaim := { program := "ytkmdpliokmfboaa", sum := "265943e4b167824bafd735a5eea2106b1a5a88114802a2ee233cfdeb3bedb6c4", func := "recordlink/recordlinklaw07.DistanceScript", spec := "distanceScript", unfollowed := true, recurses := true, apart := false }
def DistanceScriptSaid : Prop := distanceScriptRow.holds Try.pinned (OpenSpec.ofChange distanceScriptSpec)

/-- ITS FALSE NEIGHBOUR: 'it returns false'. Refute it at one input. -/
def distanceScriptWrong : ChangeSpec := { name := "distanceScript", fn := fun _ => fun
  | [d] => { results := [.lit (.bool false)], args := [d] }
  | _ => none }
def DistanceScriptWrongFalsely : Prop := distanceScriptRow.holds Try.pinned (OpenSpec.ofChange distanceScriptWrong)

/-- 'recordlinklaw07.DistanceEnds': WHATEVER THE INPUT: true; the input reads as it did. -/
def distanceEndsSpec : ChangeSpec := { name := "distanceEnds", fn := fun _ => fun
  | [d] => { results := [.lit (.bool true)], args := [d] }
  | _ => none }
def distanceEndsRow : OpenClaim := { program := "ytkmdpliokmfboaa", sum := "265943e4b167824bafd735a5eea2106b1a5a88114802a2ee233cfdeb3bedb6c4", func := "recordlink/recordlinklaw07.DistanceEnds", spec := "distanceEnds", unfollowed := true, recurses := true, apart := false }
def DistanceEndsSaid : Prop := distanceEndsRow.holds Try.pinned (OpenSpec.ofChange distanceEndsSpec)

/-- ITS FALSE NEIGHBOUR: 'it returns false'. Refute it at one input. -/
def distanceEndsWrong : ChangeSpec := { name := "distanceEnds", fn := fun _ => fun
  | [d] => { results := [.lit (.bool false)], args := [d] }
  | _ => none }
def DistanceEndsWrongFalsely : Prop := distanceEndsRow.holds Try.pinned (OpenSpec.ofChange distanceEndsWrong)

/-- 'recordlinklaw07.DistanceExact': WHATEVER THE INPUT: true; the input reads as it did. -/
def distanceExactSpec : ChangeSpec := { name := "distanceExact", fn := fun _ => fun
  | [d1, d2, d3, d4] => { results := [.lit (.bool true)], args := [d1, d2, d3, d4] }
  | _ => none }
def distanceExactRow : OpenClaim := { program := "ytkmdpliokmfboaa", sum := "265943e4b167824bafd735a5eea2106b1a5a88114802a2ee233cfdeb3bedb6c4", func := "recordlink/recordlinklaw07.DistanceExact", spec := "distanceExact", unfollowed := true, recurses := true, apart := false }
def DistanceExactSaid : Prop := distanceExactRow.holds Try.pinned (OpenSpec.ofChange distanceExactSpec)

/-- ITS FALSE NEIGHBOUR: 'it returns false'. Refute it at one input. -/
def distanceExactWrong : ChangeSpec := { name := "distanceExact", fn := fun _ => fun
  | [d1, d2, d3, d4] => { results := [.lit (.bool false)], args := [d1, d2, d3, d4] }
  | _ => none }
def DistanceExactWrongFalsely : Prop := distanceExactRow.holds Try.pinned (OpenSpec.ofChange distanceExactWrong)

/-- 'recordlinklaw07.DistanceBounds': WHATEVER THE INPUT: true; the input reads as it did. -/
def distanceBoundsSpec : ChangeSpec := { name := "distanceBounds", fn := fun _ => fun
  | [d] => { results := [.lit (.bool true)], args := [d] }
  | _ => none }
def distanceBoundsRow : OpenClaim := { program := "ytkmdpliokmfboaa", sum := "265943e4b167824bafd735a5eea2106b1a5a88114802a2ee233cfdeb3bedb6c4", func := "recordlink/recordlinklaw07.DistanceBounds", spec := "distanceBounds", unfollowed := true, recurses := true, apart := false }
def DistanceBoundsSaid : Prop := distanceBoundsRow.holds Try.pinned (OpenSpec.ofChange distanceBoundsSpec)

/-- ITS FALSE NEIGHBOUR: 'it returns false'. Refute it at one input. -/
def distanceBoundsWrong : ChangeSpec := { name := "distanceBounds", fn := fun _ => fun
  | [d] => { results := [.lit (.bool false)], args := [d] }
  | _ => none }
def DistanceBoundsWrongFalsely : Prop := distanceBoundsRow.holds Try.pinned (OpenSpec.ofChange distanceBoundsWrong)

/- THE SECOND FORM. 'bulk': how many values and letters a reading holds, each counted each time it is reached (what is shared counts as often as it is met; a slice's spare places count too). A statement '..UptoSaid' is the law's where the arguments, and the package variables that the reading takes, are together of bulk at most 1048576: NARROWER than '..Said'. Prove '..Said' where nothing that the law and all that it calls make is longer than what came in: it says more and counts as full. Else prove '..UptoSaid'. A law counts once. -/
mutual
def uptoBulk {H : Type} : DataW H → Nat
  | .lit (.string bytes) => bytes.length + 1
  | .lit _ => 1
  | .nil => 1
  | .ptr d => uptoBulk d + 1
  | .slice elems spare => uptoBulkAll elems + uptoBulkAll spare + 1
  | .agg parts => uptoBulkAll parts + 1
  | .iface _ d => uptoBulk d + 1
  | .map entries => uptoBulkEntries entries + 1
  | .held _ => 1
def uptoBulkAll {H : Type} : List (DataW H) → Nat
  | [] => 0
  | d :: r => uptoBulk d + uptoBulkAll r
def uptoBulkEntries {H : Type} : List (Lit × DataW H) → Nat
  | [] => 0
  | x :: r => uptoBulkEntry x + uptoBulkEntries r
def uptoBulkEntry {H : Type} : Lit × DataW H → Nat
  | (.string bytes, d) => bytes.length + uptoBulk d + 1
  | (_, d) => uptoBulk d + 1
 end
def uptoSmall : (H : Type) → List (DataW H) → Bool := fun _ ds => decide (uptoBulkAll ds ≤ 1048576)
def OpenSpec.upto (s : _root_.Go.ChangeSpec) : _root_.Go.OpenSpec := { _root_.Go.OpenSpec.ofChange s with cond := some uptoSmall }

/-- 'recordlinklaw07.DistanceLeast', WHERE WHAT IT READS IS OF BULK AT MOST 1048576: true; the input reads as it did. -/
def distanceLeastUptoRow : OpenClaim := { program := "ytkmdpliokmfboaa", sum := "265943e4b167824bafd735a5eea2106b1a5a88114802a2ee233cfdeb3bedb6c4", func := "recordlink/recordlinklaw07.DistanceLeast", spec := "distanceLeast", unfollowed := true, recurses := true, apart := false, narrowed := true }
def DistanceLeastUptoSaid : Prop := distanceLeastUptoRow.holds Try.pinned (OpenSpec.upto distanceLeastSpec)

/-- 'recordlinklaw07.DistanceScript', WHERE WHAT IT READS IS OF BULK AT MOST 1048576: true; the input reads as it did. -/
def distanceScriptUptoRow : OpenClaim := { program := "ytkmdpliokmfboaa", sum := "265943e4b167824bafd735a5eea2106b1a5a88114802a2ee233cfdeb3bedb6c4", func := "recordlink/recordlinklaw07.DistanceScript", spec := "distanceScript", unfollowed := true, recurses := true, apart := false, narrowed := true }
def DistanceScriptUptoSaid : Prop := distanceScriptUptoRow.holds Try.pinned (OpenSpec.upto distanceScriptSpec)

/-- 'recordlinklaw07.DistanceEnds', WHERE WHAT IT READS IS OF BULK AT MOST 1048576: true; the input reads as it did. -/
def distanceEndsUptoRow : OpenClaim := { program := "ytkmdpliokmfboaa", sum := "265943e4b167824bafd735a5eea2106b1a5a88114802a2ee233cfdeb3bedb6c4", func := "recordlink/recordlinklaw07.DistanceEnds", spec := "distanceEnds", unfollowed := true, recurses := true, apart := false, narrowed := true }
def DistanceEndsUptoSaid : Prop := distanceEndsUptoRow.holds Try.pinned (OpenSpec.upto distanceEndsSpec)

/-- 'recordlinklaw07.DistanceExact', WHERE WHAT IT READS IS OF BULK AT MOST 1048576: true; the input reads as it did. -/
def distanceExactUptoRow : OpenClaim := { program := "ytkmdpliokmfboaa", sum := "265943e4b167824bafd735a5eea2106b1a5a88114802a2ee233cfdeb3bedb6c4", func := "recordlink/recordlinklaw07.DistanceExact", spec := "distanceExact", unfollowed := true, recurses := true, apart := false, narrowed := true }
def DistanceExactUptoSaid : Prop := distanceExactUptoRow.holds Try.pinned (OpenSpec.upto distanceExactSpec)

/-- 'recordlinklaw07.DistanceBounds', WHERE WHAT IT READS IS OF BULK AT MOST 1048576: true; the input reads as it did. -/
def distanceBoundsUptoRow : OpenClaim := { program := "ytkmdpliokmfboaa", sum := "265943e4b167824bafd735a5eea2106b1a5a88114802a2ee233cfdeb3bedb6c4", func := "recordlink/recordlinklaw07.DistanceBounds", spec := "distanceBounds", unfollowed := true, recurses := true, apart := false, narrowed := true }
def DistanceBoundsUptoSaid : Prop := distanceBoundsUptoRow.holds Try.pinned (OpenSpec.upto distanceBoundsSpec)

end Rows
end Go.Proofs.Ytkmdpliokmfboaa
