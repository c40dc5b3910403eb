/-
  No cell of these rows narrows 'for every input' (looked for: loops, veiled, ifaces, maps, wideKeys, modest, calm, conditions, laid).
  DERIVED. THE GIVEN ROWS OF THIS SEAT. 6 by the template 'for every input the law returns true; each argument reads behind the call as it read before'; 0 by the template 'total and deterministic' (their statements: YtnjjjmknmoenmaaTotals.lean).
  GIVEN WITH THE SEED: the statements are not yours to turn. If you find one false, say at which input.
  Laid BY PROGRAM, IN A SANDBOX (cutbox-rows.mjs): the forced cells as the released guide's own fill.sh prints them over the translation 7edce71eb5214566… (all of the seat's roots in one cut). By AI agents, Wed Nov 11 2026. No macro, syntax, notation, axiom, sorry.
-/
import Derived.Test.YtnjjjmknmoenmaaChecked
import GoSem.Claim
import GoSem.ClaimJoined
import GoSem.ClaimMapViews
import Derived.JoinedTies
import Derived.KernelRfl
namespace Go.Proofs.Ytnjjjmknmoenmaa
/- THE CELL 'sum', in the pinned program and in every row, IS THE sha256 OF THE DUMP (.gsa) THAT YtnjjjmknmoenmaaProg.lean LOADS. Nothing in Lean hashes anything: it is a label: what it is worth is what the hold of that sum in a sandbox is worth. -/
noncomputable def Try.pinned : Pinned := { name := "ytnjjjmknmoenmaa", sum := "7edce71eb5214566a4025bc359020decadac194ddc6b0d106fee4a077e0a0bc2", checked := Try.checked }
namespace Rows
def none {H : Type} : Left H := { results := [], args := [] }

/-- 'recordlinklaw39.ChannelEnds': WHATEVER THE INPUT: true; the input reads as it did. -/
def channelEndsSpec : ChangeSpec := { name := "channelEnds", fn := fun _ => fun
  | [d] => { results := [.lit (.bool true)], args := [d] }
  | _ => none }
def channelEndsRow : OpenClaim := { program := "ytnjjjmknmoenmaa", sum := "7edce71eb5214566a4025bc359020decadac194ddc6b0d106fee4a077e0a0bc2", func := "recordlink/recordlinklaw39.ChannelEnds", spec := "channelEnds", inPlace := ["slices.overlaps[recordlink/api.Packet]"], unfollowed := true, recurses := true, apart := false }
def ChannelEndsSaid : Prop := channelEndsRow.holds Try.pinned (OpenSpec.ofChange channelEndsSpec)

/-- ITS FALSE NEIGHBOUR: 'it returns false'. Refute it at one input. -/
def channelEndsWrong : ChangeSpec := { name := "channelEnds", fn := fun _ => fun
  | [d] => { results := [.lit (.bool false)], args := [d] }
  | _ => none }
def ChannelEndsWrongFalsely : Prop := channelEndsRow.holds Try.pinned (OpenSpec.ofChange channelEndsWrong)

/-- 'recordlinklaw39.ChannelAhead': WHATEVER THE INPUT: true; the input reads as it did. -/
def channelAheadSpec : ChangeSpec := { name := "channelAhead", fn := fun _ => fun
  | [d] => { results := [.lit (.bool true)], args := [d] }
  | _ => none }
def channelAheadRow : OpenClaim := { program := "ytnjjjmknmoenmaa", sum := "7edce71eb5214566a4025bc359020decadac194ddc6b0d106fee4a077e0a0bc2", func := "recordlink/recordlinklaw39.ChannelAhead", spec := "channelAhead", inPlace := ["slices.overlaps[recordlink/api.Packet]"], unfollowed := true, recurses := true, apart := false }
def ChannelAheadSaid : Prop := channelAheadRow.holds Try.pinned (OpenSpec.ofChange channelAheadSpec)

/-- ITS FALSE NEIGHBOUR: 'it returns false'. Refute it at one input. -/
def channelAheadWrong : ChangeSpec := { name := "channelAhead", fn := fun _ => fun
  | [d] => { results := [.lit (.bool false)], args := [d] }
  | _ => none }
def ChannelAheadWrongFalsely : Prop := channelAheadRow.holds Try.pinned (OpenSpec.ofChange channelAheadWrong)

/-- 'recordlinklaw39.ChannelLimits': WHATEVER THE INPUT: true; the input reads as it did. -/
def channelLimitsSpec : ChangeSpec := { name := "channelLimits", fn := fun _ => fun
  | [d] => { results := [.lit (.bool true)], args := [d] }
  | _ => none }
def channelLimitsRow : OpenClaim := { program := "ytnjjjmknmoenmaa", sum := "7edce71eb5214566a4025bc359020decadac194ddc6b0d106fee4a077e0a0bc2", func := "recordlink/recordlinklaw39.ChannelLimits", spec := "channelLimits", inPlace := ["slices.overlaps[recordlink/api.Packet]"], unfollowed := true, recurses := true, apart := false }
def ChannelLimitsSaid : Prop := channelLimitsRow.holds Try.pinned (OpenSpec.ofChange channelLimitsSpec)

/-- ITS FALSE NEIGHBOUR: 'it returns false'. Refute it at one input. -/
def channelLimitsWrong : ChangeSpec := { name := "channelLimits", fn := fun _ => fun
  | [d] => { results := [.lit (.bool false)], args := [d] }
  | _ => none }
def ChannelLimitsWrongFalsely : Prop := channelLimitsRow.holds Try.pinned (OpenSpec.ofChange channelLimitsWrong)

/-- 'recordlinklaw39.ChannelExact': WHATEVER THE INPUT: true; the input reads as it did. -/
def channelExactSpec : ChangeSpec := { name := "channelExact", fn := fun _ => fun
  | [d1, d2, d3, d4] => { results := [.lit (.bool true)], args := [d1, d2, d3, d4] }
  | _ => none }
def channelExactRow : OpenClaim := { program := "ytnjjjmknmoenmaa", sum := "7edce71eb5214566a4025bc359020decadac194ddc6b0d106fee4a077e0a0bc2", func := "recordlink/recordlinklaw39.ChannelExact", spec := "channelExact", inPlace := ["slices.overlaps[recordlink/api.Packet]"], unfollowed := true, recurses := true, apart := false }
def ChannelExactSaid : Prop := channelExactRow.holds Try.pinned (OpenSpec.ofChange channelExactSpec)

/-- ITS FALSE NEIGHBOUR: 'it returns false'. Refute it at one input. -/
def channelExactWrong : ChangeSpec := { name := "channelExact", fn := fun _ => fun
  | [d1, d2, d3, d4] => { results := [.lit (.bool false)], args := [d1, d2, d3, d4] }
  | _ => none }
def ChannelExactWrongFalsely : Prop := channelExactRow.holds Try.pinned (OpenSpec.ofChange channelExactWrong)

/-- 'recordlinklaw39.ChannelOrder': WHATEVER THE INPUT: true; the input reads as it did. -/
def channelOrderSpec : ChangeSpec := { name := "channelOrder", fn := fun _ => fun
  | [d1, d2] => { results := [.lit (.bool true)], args := [d1, d2] }
  | _ => none }
def channelOrderRow : OpenClaim := { program := "ytnjjjmknmoenmaa", sum := "7edce71eb5214566a4025bc359020decadac194ddc6b0d106fee4a077e0a0bc2", func := "recordlink/recordlinklaw39.ChannelOrder", spec := "channelOrder", inPlace := ["slices.overlaps[recordlink/api.Packet]"], unfollowed := true, recurses := true, apart := false }
def ChannelOrderSaid : Prop := channelOrderRow.holds Try.pinned (OpenSpec.ofChange channelOrderSpec)

/-- ITS FALSE NEIGHBOUR: 'it returns false'. Refute it at one input. -/
def channelOrderWrong : ChangeSpec := { name := "channelOrder", fn := fun _ => fun
  | [d1, d2] => { results := [.lit (.bool false)], args := [d1, d2] }
  | _ => none }
def ChannelOrderWrongFalsely : Prop := channelOrderRow.holds Try.pinned (OpenSpec.ofChange channelOrderWrong)

/-- 'recordlinklaw39.ChannelQuiet': WHATEVER THE INPUT: true; the input reads as it did. -/
def channelQuietSpec : ChangeSpec := { name := "channelQuiet", fn := fun _ => fun
  | [d1, d2] => { results := [.lit (.bool true)], args := [d1, d2] }
  | _ => none }
def channelQuietRow : OpenClaim := { program := "ytnjjjmknmoenmaa", sum := "7edce71eb5214566a4025bc359020decadac194ddc6b0d106fee4a077e0a0bc2", func := "recordlink/recordlinklaw39.ChannelQuiet", spec := "channelQuiet", inPlace := ["slices.overlaps[recordlink/api.Packet]"], unfollowed := true, recurses := true, apart := false }
def ChannelQuietSaid : Prop := channelQuietRow.holds Try.pinned (OpenSpec.ofChange channelQuietSpec)

/-- ITS FALSE NEIGHBOUR: 'it returns false'. Refute it at one input. -/
def channelQuietWrong : ChangeSpec := { name := "channelQuiet", fn := fun _ => fun
  | [d1, d2] => { results := [.lit (.bool false)], args := [d1, d2] }
  | _ => none }
def ChannelQuietWrongFalsely : Prop := channelQuietRow.holds Try.pinned (OpenSpec.ofChange channelQuietWrong)

/- THE SECOND FORM. 'bulk': how many values and letters a reading holds, each counted each time it is reached (what is shared counts as often as it is met; a slice's spare places count too). A statement '..UptoSaid' is the law's where the arguments, and the package variables that the reading takes, are together of bulk at most 1048576: NARROWER than '..Said'. Prove '..Said' where nothing that the law and all that it calls make is longer than what came in: it says more and counts as full. Else prove '..UptoSaid'. A law counts once. -/
mutual
def uptoBulk {H : Type} : DataW H → Nat
  | .lit (.string bytes) => bytes.length + 1
  | .lit _ => 1
  | .nil => 1
  | .ptr d => uptoBulk d + 1
  | .slice elems spare => uptoBulkAll elems + uptoBulkAll spare + 1
  | .agg parts => uptoBulkAll parts + 1
  | .iface _ d => uptoBulk d + 1
  | .map entries => uptoBulkEntries entries + 1
  | .held _ => 1
def uptoBulkAll {H : Type} : List (DataW H) → Nat
  | [] => 0
  | d :: r => uptoBulk d + uptoBulkAll r
def uptoBulkEntries {H : Type} : List (Lit × DataW H) → Nat
  | [] => 0
  | x :: r => uptoBulkEntry x + uptoBulkEntries r
def uptoBulkEntry {H : Type} : Lit × DataW H → Nat
  | (.string bytes, d) => bytes.length + uptoBulk d + 1
  | (_, d) => uptoBulk d + 1
 end
def uptoSmall : (H : Type) → List (DataW H) → Bool := fun _ ds => decide (uptoBulkAll ds ≤ 1048576)
def OpenSpec.upto (s : _root_.Go.ChangeSpec) : _root_.Go.OpenSpec := { _root_.Go.OpenSpec.ofChange s with cond := some uptoSmall }

/-- 'recordlinklaw39.ChannelEnds', WHERE WHAT IT READS IS OF BULK AT MOST 1048576: true; the input reads as it did. -/
def channelEndsUptoRow : OpenClaim := { program := "ytnjjjmknmoenmaa", sum := "7edce71eb5214566a4025bc359020decadac194ddc6b0d106fee4a077e0a0bc2", func := "recordlink/recordlinklaw39.ChannelEnds", spec := "channelEnds", inPlace := ["slices.overlaps[recordlink/api.Packet]"], unfollowed := true, recurses := true, apart := false, narrowed := true }
def ChannelEndsUptoSaid : Prop := channelEndsUptoRow.holds Try.pinned (OpenSpec.upto channelEndsSpec)

/-- 'recordlinklaw39.ChannelAhead', WHERE WHAT IT READS IS OF BULK AT MOST 1048576: true; the input reads as it did. -/
def channelAheadUptoRow : OpenClaim := { program := "ytnjjjmknmoenmaa", sum := "7edce71eb5214566a4025bc359020decadac194ddc6b0d106fee4a077e0a0bc2", func := "recordlink/recordlinklaw39.ChannelAhead", spec := "channelAhead", inPlace := ["slices.overlaps[recordlink/api.Packet]"], unfollowed := true, recurses := true, apart := false, narrowed := true }
def ChannelAheadUptoSaid : Prop := channelAheadUptoRow.holds Try.pinned (OpenSpec.upto channelAheadSpec)

/-- 'recordlinklaw39.ChannelLimits', WHERE WHAT IT READS IS OF BULK AT MOST 1048576: true; the input reads as it did. -/
def channelLimitsUptoRow : OpenClaim := { program := "ytnjjjmknmoenmaa", sum := "7edce71eb5214566a4025bc359020decadac194ddc6b0d106fee4a077e0a0bc2", func := "recordlink/recordlinklaw39.ChannelLimits", spec := "channelLimits", inPlace := ["slices.overlaps[recordlink/api.Packet]"], unfollowed := true, recurses := true, apart := false, narrowed := true }
def ChannelLimitsUptoSaid : Prop := channelLimitsUptoRow.holds Try.pinned (OpenSpec.upto channelLimitsSpec)

/-- 'recordlinklaw39.ChannelExact', WHERE WHAT IT READS IS OF BULK AT MOST 1048576: true; the input reads as it did. -/
def channelExactUptoRow : OpenClaim := { program := "ytnjjjmknmoenmaa", sum := "7edce71eb5214566a4025bc359020decadac194ddc6b0d106fee4a077e0a0bc2", func := "recordlink/recordlinklaw39.ChannelExact", spec := "channelExact", inPlace := ["slices.overlaps[recordlink/api.Packet]"], unfollowed := true, recurses := true, apart := false, narrowed := true }
def ChannelExactUptoSaid : Prop := channelExactUptoRow.holds Try.pinned (OpenSpec.upto channelExactSpec)

/-- 'recordlinklaw39.ChannelOrder', WHERE WHAT IT READS IS OF BULK AT MOST 1048576: true; the input reads as it did. -/
def channelOrderUptoRow : OpenClaim := { program := "ytnjjjmknmoenmaa", sum := "7edce71eb5214566a4025bc359020decadac194ddc6b0d106fee4a077e0a0bc2", func := "recordlink/recordlinklaw39.ChannelOrder", spec := "channelOrder", inPlace := ["slices.overlaps[recordlink/api.Packet]"], unfollowed := true, recurses := true, apart := false, narrowed := true }
def ChannelOrderUptoSaid : Prop := channelOrderUptoRow.holds Try.pinned (OpenSpec.upto channelOrderSpec)

/-- 'recordlinklaw39.ChannelQuiet', WHERE WHAT IT READS IS OF BULK AT MOST 1048576: true; the input reads as it did. -/
def channelQuietUptoRow : OpenClaim := { program := "ytnjjjmknmoenmaa", sum := "7edce71eb5214566a4025bc359020decadac194ddc6b0d106fee4a077e0a0bc2", func := "recordlink/recordlinklaw39.ChannelQuiet", spec := "channelQuiet", inPlace := ["slices.overlaps[recordlink/api.Packet]"], unfollowed := true, recurses := true, apart := false, narrowed := true }
def ChannelQuietUptoSaid : Prop := channelQuietUptoRow.holds Try.pinned (OpenSpec.upto channelQuietSpec)

end Rows
end Go.Proofs.Ytnjjjmknmoenmaa
