/-
  No cell of these rows narrows 'for every input' (looked for: loops, veiled, ifaces, maps, wideKeys, modest, calm, conditions, laid).
  DERIVED. THE GIVEN ROWS OF THIS SEAT. 5 by the template 'for every input the law returns true; each argument reads behind the call as it read before'; 0 by the template 'total and deterministic' (their statements: YtogpmimmlcheaaaTotals.lean).
  GIVEN WITH THE SEED: the statements are not yours to turn. If you find one false, say at which input.
  Laid BY PROGRAM, IN A SANDBOX (cutbox-rows.mjs): the forced cells as the released guide's own fill.sh prints them over the translation f3d0855d3865810a… (all of the seat's roots in one cut). By AI agents, Wed Nov 11 2026. No macro, syntax, notation, axiom, sorry.
-/
import Derived.Test.YtogpmimmlcheaaaChecked
import GoSem.Claim
import GoSem.ClaimJoined
import GoSem.ClaimMapViews
import Derived.JoinedTies
import Derived.KernelRfl
namespace Go.Proofs.Ytogpmimmlcheaaa
/- THE CELL 'sum', in the pinned program and in every row, IS THE sha256 OF THE DUMP (.gsa) THAT YtogpmimmlcheaaaProg.lean LOADS. Nothing in Lean hashes anything: it is a label: what it is worth is what the hold of that sum in a sandbox is worth. -/
noncomputable def Try.pinned : Pinned := { name := "ytogpmimmlcheaaa", sum := "f3d0855d3865810a4038158a5f57452215123d2203d4d7cc5434919beb5554c3", checked := Try.checked }
namespace Rows
def none {H : Type} : Left H := { results := [], args := [] }

/-- 'recordlinklaw35.KeychangeLost': WHATEVER THE INPUT: true; the input reads as it did. -/
def keychangeLostSpec : ChangeSpec := { name := "keychangeLost", fn := fun _ => fun
  | [d] => { results := [.lit (.bool true)], args := [d] }
  | _ => none }
def keychangeLostRow : OpenClaim := { program := "ytogpmimmlcheaaa", sum := "f3d0855d3865810a4038158a5f57452215123d2203d4d7cc5434919beb5554c3", func := "recordlink/recordlinklaw35.KeychangeLost", spec := "keychangeLost", unfollowed := true, recurses := true, apart := false }
def KeychangeLostSaid : Prop := keychangeLostRow.holds Try.pinned (OpenSpec.ofChange keychangeLostSpec)

/-- ITS FALSE NEIGHBOUR: 'it returns false'. Refute it at one input. -/
def keychangeLostWrong : ChangeSpec := { name := "keychangeLost", fn := fun _ => fun
  | [d] => { results := [.lit (.bool false)], args := [d] }
  | _ => none }
def KeychangeLostWrongFalsely : Prop := keychangeLostRow.holds Try.pinned (OpenSpec.ofChange keychangeLostWrong)

/-- 'recordlinklaw35.KeychangeCompares': WHATEVER THE INPUT: true; the input reads as it did. -/
def keychangeComparesSpec : ChangeSpec := { name := "keychangeCompares", fn := fun _ => fun
  | [d] => { results := [.lit (.bool true)], args := [d] }
  | _ => none }
def keychangeComparesRow : OpenClaim := { program := "ytogpmimmlcheaaa", sum := "f3d0855d3865810a4038158a5f57452215123d2203d4d7cc5434919beb5554c3", func := "recordlink/recordlinklaw35.KeychangeCompares", spec := "keychangeCompares", unfollowed := true, recurses := true, apart := false }
def KeychangeComparesSaid : Prop := keychangeComparesRow.holds Try.pinned (OpenSpec.ofChange keychangeComparesSpec)

/-- ITS FALSE NEIGHBOUR: 'it returns false'. Refute it at one input. -/
def keychangeComparesWrong : ChangeSpec := { name := "keychangeCompares", fn := fun _ => fun
  | [d] => { results := [.lit (.bool false)], args := [d] }
  | _ => none }
def KeychangeComparesWrongFalsely : Prop := keychangeComparesRow.holds Try.pinned (OpenSpec.ofChange keychangeComparesWrong)

/-- 'recordlinklaw35.KeychangeOne': WHATEVER THE INPUT: true; the input reads as it did. -/
def keychangeOneSpec : ChangeSpec := { name := "keychangeOne", fn := fun _ => fun
  | [d] => { results := [.lit (.bool true)], args := [d] }
  | _ => none }
def keychangeOneRow : OpenClaim := { program := "ytogpmimmlcheaaa", sum := "f3d0855d3865810a4038158a5f57452215123d2203d4d7cc5434919beb5554c3", func := "recordlink/recordlinklaw35.KeychangeOne", spec := "keychangeOne", unfollowed := true, recurses := true, apart := false }
def KeychangeOneSaid : Prop := keychangeOneRow.holds Try.pinned (OpenSpec.ofChange keychangeOneSpec)

/-- ITS FALSE NEIGHBOUR: 'it returns false'. Refute it at one input. -/
def keychangeOneWrong : ChangeSpec := { name := "keychangeOne", fn := fun _ => fun
  | [d] => { results := [.lit (.bool false)], args := [d] }
  | _ => none }
def KeychangeOneWrongFalsely : Prop := keychangeOneRow.holds Try.pinned (OpenSpec.ofChange keychangeOneWrong)

/-- 'recordlinklaw35.KeychangeEnds': WHATEVER THE INPUT: true; the input reads as it did. -/
def keychangeEndsSpec : ChangeSpec := { name := "keychangeEnds", fn := fun _ => fun
  | [d] => { results := [.lit (.bool true)], args := [d] }
  | _ => none }
def keychangeEndsRow : OpenClaim := { program := "ytogpmimmlcheaaa", sum := "f3d0855d3865810a4038158a5f57452215123d2203d4d7cc5434919beb5554c3", func := "recordlink/recordlinklaw35.KeychangeEnds", spec := "keychangeEnds", unfollowed := true, recurses := true, apart := false }
def KeychangeEndsSaid : Prop := keychangeEndsRow.holds Try.pinned (OpenSpec.ofChange keychangeEndsSpec)

/-- ITS FALSE NEIGHBOUR: 'it returns false'. Refute it at one input. -/
def keychangeEndsWrong : ChangeSpec := { name := "keychangeEnds", fn := fun _ => fun
  | [d] => { results := [.lit (.bool false)], args := [d] }
  | _ => none }
def KeychangeEndsWrongFalsely : Prop := keychangeEndsRow.holds Try.pinned (OpenSpec.ofChange keychangeEndsWrong)

/-- 'recordlinklaw35.KeychangeExact': WHATEVER THE INPUT: true; the input reads as it did. -/
def keychangeExactSpec : ChangeSpec := { name := "keychangeExact", fn := fun _ => fun
  | [d1, d2, d3, d4] => { results := [.lit (.bool true)], args := [d1, d2, d3, d4] }
  | _ => none }
def keychangeExactRow : OpenClaim := { program := "ytogpmimmlcheaaa", sum := "f3d0855d3865810a4038158a5f57452215123d2203d4d7cc5434919beb5554c3", func := "recordlink/recordlinklaw35.KeychangeExact", spec := "keychangeExact", unfollowed := true, recurses := true, apart := false }
def KeychangeExactSaid : Prop := keychangeExactRow.holds Try.pinned (OpenSpec.ofChange keychangeExactSpec)

/-- ITS FALSE NEIGHBOUR: 'it returns false'. Refute it at one input. -/
def keychangeExactWrong : ChangeSpec := { name := "keychangeExact", fn := fun _ => fun
  | [d1, d2, d3, d4] => { results := [.lit (.bool false)], args := [d1, d2, d3, d4] }
  | _ => none }
def KeychangeExactWrongFalsely : Prop := keychangeExactRow.holds Try.pinned (OpenSpec.ofChange keychangeExactWrong)

/- THE SECOND FORM. 'bulk': how many values and letters a reading holds, each counted each time it is reached (what is shared counts as often as it is met; a slice's spare places count too). A statement '..UptoSaid' is the law's where the arguments, and the package variables that the reading takes, are together of bulk at most 1048576: NARROWER than '..Said'. Prove '..Said' where nothing that the law and all that it calls make is longer than what came in: it says more and counts as full. Else prove '..UptoSaid'. A law counts once. -/
mutual
def uptoBulk {H : Type} : DataW H → Nat
  | .lit (.string bytes) => bytes.length + 1
  | .lit _ => 1
  | .nil => 1
  | .ptr d => uptoBulk d + 1
  | .slice elems spare => uptoBulkAll elems + uptoBulkAll spare + 1
  | .agg parts => uptoBulkAll parts + 1
  | .iface _ d => uptoBulk d + 1
  | .map entries => uptoBulkEntries entries + 1
  | .held _ => 1
def uptoBulkAll {H : Type} : List (DataW H) → Nat
  | [] => 0
  | d :: r => uptoBulk d + uptoBulkAll r
def uptoBulkEntries {H : Type} : List (Lit × DataW H) → Nat
  | [] => 0
  | x :: r => uptoBulkEntry x + uptoBulkEntries r
def uptoBulkEntry {H : Type} : Lit × DataW H → Nat
  | (.string bytes, d) => bytes.length + uptoBulk d + 1
  | (_, d) => uptoBulk d + 1
 end
def uptoSmall : (H : Type) → List (DataW H) → Bool := fun _ ds => decide (uptoBulkAll ds ≤ 1048576)
def OpenSpec.upto (s : _root_.Go.ChangeSpec) : _root_.Go.OpenSpec := { _root_.Go.OpenSpec.ofChange s with cond := some uptoSmall }

/-- 'recordlinklaw35.KeychangeLost', WHERE WHAT IT READS IS OF BULK AT MOST 1048576: true; the input reads as it did. -/
def keychangeLostUptoRow : OpenClaim := { program := "ytogpmimmlcheaaa", sum := "f3d0855d3865810a4038158a5f57452215123d2203d4d7cc5434919beb5554c3", func := "recordlink/recordlinklaw35.KeychangeLost", spec := "keychangeLost", unfollowed := true, recurses := true, apart := false, narrowed := true }
def KeychangeLostUptoSaid : Prop := keychangeLostUptoRow.holds Try.pinned (OpenSpec.upto keychangeLostSpec)

/-- 'recordlinklaw35.KeychangeCompares', WHERE WHAT IT READS IS OF BULK AT MOST 1048576: true; the input reads as it did. -/
def keychangeComparesUptoRow : OpenClaim := { program := "ytogpmimmlcheaaa", sum := "f3d0855d3865810a4038158a5f57452215123d2203d4d7cc5434919beb5554c3", func := "recordlink/recordlinklaw35.KeychangeCompares", spec := "keychangeCompares", unfollowed := true, recurses := true, apart := false, narrowed := true }
def KeychangeComparesUptoSaid : Prop := keychangeComparesUptoRow.holds Try.pinned (OpenSpec.upto keychangeComparesSpec)

/-- 'recordlinklaw35.KeychangeOne', WHERE WHAT IT READS IS OF BULK AT MOST 1048576: true; the input reads as it did. -/
def keychangeOneUptoRow : OpenClaim := { program := "ytogpmimmlcheaaa", sum := "f3d0855d3865810a4038158a5f57452215123d2203d4d7cc5434919beb5554c3", func := "recordlink/recordlinklaw35.KeychangeOne", spec := "keychangeOne", unfollowed := true, recurses := true, apart := false, narrowed := true }
def KeychangeOneUptoSaid : Prop := keychangeOneUptoRow.holds Try.pinned (OpenSpec.upto keychangeOneSpec)

/-- 'recordlinklaw35.KeychangeEnds', WHERE WHAT IT READS IS OF BULK AT MOST 1048576: true; the input reads as it did. -/
def keychangeEndsUptoRow : OpenClaim := { program := "ytogpmimmlcheaaa", sum := "f3d0855d3865810a4038158a5f57452215123d2203d4d7cc5434919beb5554c3", func := "recordlink/recordlinklaw35.KeychangeEnds", spec := "keychangeEnds", unfollowed := true, recurses := true, apart := false, narrowed := true }
def KeychangeEndsUptoSaid : Prop := keychangeEndsUptoRow.holds Try.pinned (OpenSpec.upto keychangeEndsSpec)

/-- 'recordlinklaw35.KeychangeExact', WHERE WHAT IT READS IS OF BULK AT MOST 1048576: true; the input reads as it did. -/
def keychangeExactUptoRow : OpenClaim := { program := "ytogpmimmlcheaaa", sum := "f3d0855d3865810a4038158a5f57452215123d2203d4d7cc5434919beb5554c3", func := "recordlink/recordlinklaw35.KeychangeExact", spec := "keychangeExact", unfollowed := true, recurses := true, apart := false, narrowed := true }
def KeychangeExactUptoSaid : Prop := keychangeExactUptoRow.holds Try.pinned (OpenSpec.upto keychangeExactSpec)

end Rows
end Go.Proofs.Ytogpmimmlcheaaa
