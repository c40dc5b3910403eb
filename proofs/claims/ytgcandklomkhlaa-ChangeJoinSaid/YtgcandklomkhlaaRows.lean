/-
  No cell of these rows narrows 'for every input' (looked for: loops, veiled, ifaces, maps, wideKeys, modest, calm, conditions, laid).
  DERIVED. THE GIVEN ROWS OF THIS SEAT. 5 by the template 'for every input the law returns true; each argument reads behind the call as it read before'; 0 by the template 'total and deterministic' (their statements: YtgcandklomkhlaaTotals.lean).
  GIVEN WITH THE SEED: the statements are not yours to turn. If you find one false, say at which input.
  Laid BY PROGRAM, IN A SANDBOX (cutbox-rows.mjs): the forced cells as the released guide's own fill.sh prints them over the translation 4c3a12daefba4599… (all of the seat's roots in one cut). By AI agents, Wed Nov 11 2026. No macro, syntax, notation, axiom, sorry.
-/
import Derived.Test.YtgcandklomkhlaaChecked
import GoSem.Claim
import GoSem.ClaimJoined
import GoSem.ClaimMapViews
import Derived.JoinedTies
import Derived.KernelRfl
namespace Go.Proofs.Ytgcandklomkhlaa
/- THE CELL 'sum', in the pinned program and in every row, IS THE sha256 OF THE DUMP (.gsa) THAT YtgcandklomkhlaaProg.lean LOADS. Nothing in Lean hashes anything: it is a label: what it is worth is what the hold of that sum in a sandbox is worth. -/
noncomputable def Try.pinned : Pinned := { name := "ytgcandklomkhlaa", sum := "4c3a12daefba45990f5f9aadabd02fe0703f1a79bc041b0a30b139485fc236dc", checked := Try.checked }
namespace Rows
def none {H : Type} : Left H := { results := [], args := [] }

/-- 'recordlinklaw36.ChangeOrder': WHATEVER THE INPUT: true; the input reads as it did. -/
def changeOrderSpec : ChangeSpec := { name := "changeOrder", fn := fun _ => fun
  | [d] => { results := [.lit (.bool true)], args := [d] }
  | _ => none }
def changeOrderRow : OpenClaim := { program := "ytgcandklomkhlaa", sum := "4c3a12daefba45990f5f9aadabd02fe0703f1a79bc041b0a30b139485fc236dc", func := "recordlink/recordlinklaw36.ChangeOrder", spec := "changeOrder", inPlace := ["slices.overlaps[recordlink/api.Row]"], unfollowed := true, recurses := true, apart := false }
def ChangeOrderSaid : Prop := changeOrderRow.holds Try.pinned (OpenSpec.ofChange changeOrderSpec)

/-- ITS FALSE NEIGHBOUR: 'it returns false'. Refute it at one input. -/
def changeOrderWrong : ChangeSpec := { name := "changeOrder", fn := fun _ => fun
  | [d] => { results := [.lit (.bool false)], args := [d] }
  | _ => none }
def ChangeOrderWrongFalsely : Prop := changeOrderRow.holds Try.pinned (OpenSpec.ofChange changeOrderWrong)

/-- 'recordlinklaw36.ChangeLatest': WHATEVER THE INPUT: true; the input reads as it did. -/
def changeLatestSpec : ChangeSpec := { name := "changeLatest", fn := fun _ => fun
  | [d] => { results := [.lit (.bool true)], args := [d] }
  | _ => none }
def changeLatestRow : OpenClaim := { program := "ytgcandklomkhlaa", sum := "4c3a12daefba45990f5f9aadabd02fe0703f1a79bc041b0a30b139485fc236dc", func := "recordlink/recordlinklaw36.ChangeLatest", spec := "changeLatest", inPlace := ["slices.overlaps[recordlink/api.Row]"], unfollowed := true, recurses := true, apart := false }
def ChangeLatestSaid : Prop := changeLatestRow.holds Try.pinned (OpenSpec.ofChange changeLatestSpec)

/-- ITS FALSE NEIGHBOUR: 'it returns false'. Refute it at one input. -/
def changeLatestWrong : ChangeSpec := { name := "changeLatest", fn := fun _ => fun
  | [d] => { results := [.lit (.bool false)], args := [d] }
  | _ => none }
def ChangeLatestWrongFalsely : Prop := changeLatestRow.holds Try.pinned (OpenSpec.ofChange changeLatestWrong)

/-- 'recordlinklaw36.ChangeLimit': WHATEVER THE INPUT: true; the input reads as it did. -/
def changeLimitSpec : ChangeSpec := { name := "changeLimit", fn := fun _ => fun
  | [d] => { results := [.lit (.bool true)], args := [d] }
  | _ => none }
def changeLimitRow : OpenClaim := { program := "ytgcandklomkhlaa", sum := "4c3a12daefba45990f5f9aadabd02fe0703f1a79bc041b0a30b139485fc236dc", func := "recordlink/recordlinklaw36.ChangeLimit", spec := "changeLimit", inPlace := ["slices.overlaps[recordlink/api.Row]"], unfollowed := true, recurses := true, apart := false }
def ChangeLimitSaid : Prop := changeLimitRow.holds Try.pinned (OpenSpec.ofChange changeLimitSpec)

/-- ITS FALSE NEIGHBOUR: 'it returns false'. Refute it at one input. -/
def changeLimitWrong : ChangeSpec := { name := "changeLimit", fn := fun _ => fun
  | [d] => { results := [.lit (.bool false)], args := [d] }
  | _ => none }
def ChangeLimitWrongFalsely : Prop := changeLimitRow.holds Try.pinned (OpenSpec.ofChange changeLimitWrong)

/-- 'recordlinklaw36.ChangeMerge': WHATEVER THE INPUT: true; the input reads as it did. -/
def changeMergeSpec : ChangeSpec := { name := "changeMerge", fn := fun _ => fun
  | [d] => { results := [.lit (.bool true)], args := [d] }
  | _ => none }
def changeMergeRow : OpenClaim := { program := "ytgcandklomkhlaa", sum := "4c3a12daefba45990f5f9aadabd02fe0703f1a79bc041b0a30b139485fc236dc", func := "recordlink/recordlinklaw36.ChangeMerge", spec := "changeMerge", inPlace := ["slices.overlaps[recordlink/api.Row]"], unfollowed := true, recurses := true, apart := false }
def ChangeMergeSaid : Prop := changeMergeRow.holds Try.pinned (OpenSpec.ofChange changeMergeSpec)

/-- ITS FALSE NEIGHBOUR: 'it returns false'. Refute it at one input. -/
def changeMergeWrong : ChangeSpec := { name := "changeMerge", fn := fun _ => fun
  | [d] => { results := [.lit (.bool false)], args := [d] }
  | _ => none }
def ChangeMergeWrongFalsely : Prop := changeMergeRow.holds Try.pinned (OpenSpec.ofChange changeMergeWrong)

/-- 'recordlinklaw36.ChangeJoin': WHATEVER THE INPUT: true; the input reads as it did. -/
def changeJoinSpec : ChangeSpec := { name := "changeJoin", fn := fun _ => fun
  | [d] => { results := [.lit (.bool true)], args := [d] }
  | _ => none }
def changeJoinRow : OpenClaim := { program := "ytgcandklomkhlaa", sum := "4c3a12daefba45990f5f9aadabd02fe0703f1a79bc041b0a30b139485fc236dc", func := "recordlink/recordlinklaw36.ChangeJoin", spec := "changeJoin", inPlace := ["slices.overlaps[recordlink/api.Row]"], unfollowed := true, recurses := true, apart := false }
def ChangeJoinSaid : Prop := changeJoinRow.holds Try.pinned (OpenSpec.ofChange changeJoinSpec)

/-- ITS FALSE NEIGHBOUR: 'it returns false'. Refute it at one input. -/
def changeJoinWrong : ChangeSpec := { name := "changeJoin", fn := fun _ => fun
  | [d] => { results := [.lit (.bool false)], args := [d] }
  | _ => none }
def ChangeJoinWrongFalsely : Prop := changeJoinRow.holds Try.pinned (OpenSpec.ofChange changeJoinWrong)

/- THE SECOND FORM. 'bulk': how many values and letters a reading holds, each counted each time it is reached (what is shared counts as often as it is met; a slice's spare places count too). A statement '..UptoSaid' is the law's where the arguments, and the package variables that the reading takes, are together of bulk at most 1048576: NARROWER than '..Said'. Prove '..Said' where nothing that the law and all that it calls make is longer than what came in: it says more and counts as full. Else prove '..UptoSaid'. A law counts once. -/
mutual
def uptoBulk {H : Type} : DataW H → Nat
  | .lit (.string bytes) => bytes.length + 1
  | .lit _ => 1
  | .nil => 1
  | .ptr d => uptoBulk d + 1
  | .slice elems spare => uptoBulkAll elems + uptoBulkAll spare + 1
  | .agg parts => uptoBulkAll parts + 1
  | .iface _ d => uptoBulk d + 1
  | .map entries => uptoBulkEntries entries + 1
  | .held _ => 1
def uptoBulkAll {H : Type} : List (DataW H) → Nat
  | [] => 0
  | d :: r => uptoBulk d + uptoBulkAll r
def uptoBulkEntries {H : Type} : List (Lit × DataW H) → Nat
  | [] => 0
  | x :: r => uptoBulkEntry x + uptoBulkEntries r
def uptoBulkEntry {H : Type} : Lit × DataW H → Nat
  | (.string bytes, d) => bytes.length + uptoBulk d + 1
  | (_, d) => uptoBulk d + 1
 end
def uptoSmall : (H : Type) → List (DataW H) → Bool := fun _ ds => decide (uptoBulkAll ds ≤ 1048576)
def OpenSpec.upto (s : _root_.Go.ChangeSpec) : _root_.Go.OpenSpec := { _root_.Go.OpenSpec.ofChange s with cond := some uptoSmall }

/-- 'recordlinklaw36.ChangeOrder', WHERE WHAT IT READS IS OF BULK AT MOST 1048576: true; the input reads as it did. -/
def changeOrderUptoRow : OpenClaim := { program := "ytgcandklomkhlaa", sum := "4c3a12daefba45990f5f9aadabd02fe0703f1a79bc041b0a30b139485fc236dc", func := "recordlink/recordlinklaw36.ChangeOrder", spec := "changeOrder", inPlace := ["slices.overlaps[recordlink/api.Row]"], unfollowed := true, recurses := true, apart := false, narrowed := true }
def ChangeOrderUptoSaid : Prop := changeOrderUptoRow.holds Try.pinned (OpenSpec.upto changeOrderSpec)

/-- 'recordlinklaw36.ChangeLatest', WHERE WHAT IT READS IS OF BULK AT MOST 1048576: true; the input reads as it did. -/
def changeLatestUptoRow : OpenClaim := { program := "ytgcandklomkhlaa", sum := "4c3a12daefba45990f5f9aadabd02fe0703f1a79bc041b0a30b139485fc236dc", func := "recordlink/recordlinklaw36.ChangeLatest", spec := "changeLatest", inPlace := ["slices.overlaps[recordlink/api.Row]"], unfollowed := true, recurses := true, apart := false, narrowed := true }
def ChangeLatestUptoSaid : Prop := changeLatestUptoRow.holds Try.pinned (OpenSpec.upto changeLatestSpec)

/-- 'recordlinklaw36.ChangeLimit', WHERE WHAT IT READS IS OF BULK AT MOST 1048576: true; the input reads as it did. -/
def changeLimitUptoRow : OpenClaim := { program := "ytgcandklomkhlaa", sum := "4c3a12daefba45990f5f9aadabd02fe0703f1a79bc041b0a30b139485fc236dc", func := "recordlink/recordlinklaw36.ChangeLimit", spec := "changeLimit", inPlace := ["slices.overlaps[recordlink/api.Row]"], unfollowed := true, recurses := true, apart := false, narrowed := true }
def ChangeLimitUptoSaid : Prop := changeLimitUptoRow.holds Try.pinned (OpenSpec.upto changeLimitSpec)

/-- 'recordlinklaw36.ChangeMerge', WHERE WHAT IT READS IS OF BULK AT MOST 1048576: true; the input reads as it did. -/
def changeMergeUptoRow : OpenClaim := { program := "ytgcandklomkhlaa", sum := "4c3a12daefba45990f5f9aadabd02fe0703f1a79bc041b0a30b139485fc236dc", func := "recordlink/recordlinklaw36.ChangeMerge", spec := "changeMerge", inPlace := ["slices.overlaps[recordlink/api.Row]"], unfollowed := true, recurses := true, apart := false, narrowed := true }
def ChangeMergeUptoSaid : Prop := changeMergeUptoRow.holds Try.pinned (OpenSpec.upto changeMergeSpec)

/-- 'recordlinklaw36.ChangeJoin', WHERE WHAT IT READS IS OF BULK AT MOST 1048576: true; the input reads as it did. -/
def changeJoinUptoRow : OpenClaim := { program := "ytgcandklomkhlaa", sum := "4c3a12daefba45990f5f9aadabd02fe0703f1a79bc041b0a30b139485fc236dc", func := "recordlink/recordlinklaw36.ChangeJoin", spec := "changeJoin", inPlace := ["slices.overlaps[recordlink/api.Row]"], unfollowed := true, recurses := true, apart := false, narrowed := true }
def ChangeJoinUptoSaid : Prop := changeJoinUptoRow.holds Try.pinned (OpenSpec.upto changeJoinSpec)

end Rows
end Go.Proofs.Ytgcandklomkhlaa
