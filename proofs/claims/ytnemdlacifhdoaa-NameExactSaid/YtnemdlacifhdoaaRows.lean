/-
  No cell of these rows narrows 'for every input' (looked for: loops, veiled, ifaces, maps, wideKeys, modest, calm, conditions, laid).
  DERIVED. THE GIVEN ROWS OF THIS SEAT. 6 by the template 'for every input the law returns true; each argument reads behind the call as it read before'; 0 by the template 'total and deterministic' (their statements: YtnemdlacifhdoaaTotals.lean).
  GIVEN WITH THE SEED: the statements are not yours to turn. If you find one false, say at which input.
  Laid BY PROGRAM, IN A SANDBOX (cutbox-rows.mjs): the forced cells as the released guide's own fill.sh prints them over the translation 06729aeebb161dcd… (all of the seat's roots in one cut). By AI agents, Wed Nov 11 2026. No macro, syntax, notation, axiom, sorry.
-/
import Derived.Test.YtnemdlacifhdoaaChecked
import GoSem.Claim
import GoSem.ClaimJoined
import GoSem.ClaimMapViews
import Derived.JoinedTies
import Derived.KernelRfl
namespace Go.Proofs.Ytnemdlacifhdoaa
/- THE CELL 'sum', in the pinned program and in every row, IS THE sha256 OF THE DUMP (.gsa) THAT YtnemdlacifhdoaaProg.lean LOADS. Nothing in Lean hashes anything: it is a label: what it is worth is what the hold of that sum in a sandbox is worth. -/
noncomputable def Try.pinned : Pinned := { name := "ytnemdlacifhdoaa", sum := "06729aeebb161dcd8323c576ef3705a5393efde66d0f96c6966a0a23f625cca5", checked := Try.checked }
namespace Rows
def none {H : Type} : Left H := { results := [], args := [] }

/-- 'recordlinklaw02.NameExtras': WHATEVER THE INPUT: true; the input reads as it did. -/
def nameExtrasSpec : ChangeSpec := { name := "nameExtras", fn := fun _ => fun
  | [d] => { results := [.lit (.bool true)], args := [d] }
  | _ => none }
def nameExtrasRow : OpenClaim := { program := "ytnemdlacifhdoaa", sum := "06729aeebb161dcd8323c576ef3705a5393efde66d0f96c6966a0a23f625cca5", func := "recordlink/recordlinklaw02.NameExtras", spec := "nameExtras", inPlace := ["internal/abi.NoEscape", "internal/bytealg.MakeNoZero"], unfollowed := true, recurses := true, apart := false }
def NameExtrasSaid : Prop := nameExtrasRow.holds Try.pinned (OpenSpec.ofChange nameExtrasSpec)

/-- ITS FALSE NEIGHBOUR: 'it returns false'. Refute it at one input. -/
def nameExtrasWrong : ChangeSpec := { name := "nameExtras", fn := fun _ => fun
  | [d] => { results := [.lit (.bool false)], args := [d] }
  | _ => none }
def NameExtrasWrongFalsely : Prop := nameExtrasRow.holds Try.pinned (OpenSpec.ofChange nameExtrasWrong)

/-- 'recordlinklaw02.NameNicknames': WHATEVER THE INPUT: true; the input reads as it did. -/
def nameNicknamesSpec : ChangeSpec := { name := "nameNicknames", fn := fun _ => fun
  | [d] => { results := [.lit (.bool true)], args := [d] }
  | _ => none }
def nameNicknamesRow : OpenClaim := { program := "ytnemdlacifhdoaa", sum := "06729aeebb161dcd8323c576ef3705a5393efde66d0f96c6966a0a23f625cca5", func := "recordlink/recordlinklaw02.NameNicknames", spec := "nameNicknames", inPlace := ["internal/abi.NoEscape", "internal/bytealg.MakeNoZero"], unfollowed := true, recurses := true, apart := false }
def NameNicknamesSaid : Prop := nameNicknamesRow.holds Try.pinned (OpenSpec.ofChange nameNicknamesSpec)

/-- ITS FALSE NEIGHBOUR: 'it returns false'. Refute it at one input. -/
def nameNicknamesWrong : ChangeSpec := { name := "nameNicknames", fn := fun _ => fun
  | [d] => { results := [.lit (.bool false)], args := [d] }
  | _ => none }
def NameNicknamesWrongFalsely : Prop := nameNicknamesRow.holds Try.pinned (OpenSpec.ofChange nameNicknamesWrong)

/-- 'recordlinklaw02.NameOrder': WHATEVER THE INPUT: true; the input reads as it did. -/
def nameOrderSpec : ChangeSpec := { name := "nameOrder", fn := fun _ => fun
  | [d] => { results := [.lit (.bool true)], args := [d] }
  | _ => none }
def nameOrderRow : OpenClaim := { program := "ytnemdlacifhdoaa", sum := "06729aeebb161dcd8323c576ef3705a5393efde66d0f96c6966a0a23f625cca5", func := "recordlink/recordlinklaw02.NameOrder", spec := "nameOrder", inPlace := ["internal/abi.NoEscape", "internal/bytealg.MakeNoZero"], unfollowed := true, recurses := true, apart := false }
def NameOrderSaid : Prop := nameOrderRow.holds Try.pinned (OpenSpec.ofChange nameOrderSpec)

/-- ITS FALSE NEIGHBOUR: 'it returns false'. Refute it at one input. -/
def nameOrderWrong : ChangeSpec := { name := "nameOrder", fn := fun _ => fun
  | [d] => { results := [.lit (.bool false)], args := [d] }
  | _ => none }
def NameOrderWrongFalsely : Prop := nameOrderRow.holds Try.pinned (OpenSpec.ofChange nameOrderWrong)

/-- 'recordlinklaw02.NameChecks': WHATEVER THE INPUT: true; the input reads as it did. -/
def nameChecksSpec : ChangeSpec := { name := "nameChecks", fn := fun _ => fun
  | [d] => { results := [.lit (.bool true)], args := [d] }
  | _ => none }
def nameChecksRow : OpenClaim := { program := "ytnemdlacifhdoaa", sum := "06729aeebb161dcd8323c576ef3705a5393efde66d0f96c6966a0a23f625cca5", func := "recordlink/recordlinklaw02.NameChecks", spec := "nameChecks", inPlace := ["internal/abi.NoEscape", "internal/bytealg.MakeNoZero"], unfollowed := true, recurses := true, apart := false }
def NameChecksSaid : Prop := nameChecksRow.holds Try.pinned (OpenSpec.ofChange nameChecksSpec)

/-- ITS FALSE NEIGHBOUR: 'it returns false'. Refute it at one input. -/
def nameChecksWrong : ChangeSpec := { name := "nameChecks", fn := fun _ => fun
  | [d] => { results := [.lit (.bool false)], args := [d] }
  | _ => none }
def NameChecksWrongFalsely : Prop := nameChecksRow.holds Try.pinned (OpenSpec.ofChange nameChecksWrong)

/-- 'recordlinklaw02.NameExact': WHATEVER THE INPUT: true; the input reads as it did. -/
def nameExactSpec : ChangeSpec := { name := "nameExact", fn := fun _ => fun
  | [d1, d2, d3, d4] => { results := [.lit (.bool true)], args := [d1, d2, d3, d4] }
  | _ => none }
def nameExactRow : OpenClaim := { program := "ytnemdlacifhdoaa", sum := "06729aeebb161dcd8323c576ef3705a5393efde66d0f96c6966a0a23f625cca5", func := "recordlink/recordlinklaw02.NameExact", spec := "nameExact", inPlace := ["internal/abi.NoEscape", "internal/bytealg.MakeNoZero"], unfollowed := true, recurses := true, apart := false }
def NameExactSaid : Prop := nameExactRow.holds Try.pinned (OpenSpec.ofChange nameExactSpec)

/-- ITS FALSE NEIGHBOUR: 'it returns false'. Refute it at one input. -/
def nameExactWrong : ChangeSpec := { name := "nameExact", fn := fun _ => fun
  | [d1, d2, d3, d4] => { results := [.lit (.bool false)], args := [d1, d2, d3, d4] }
  | _ => none }
def NameExactWrongFalsely : Prop := nameExactRow.holds Try.pinned (OpenSpec.ofChange nameExactWrong)

/-- 'recordlinklaw02.NameIdempotent': WHATEVER THE INPUT: true; the input reads as it did. -/
def nameIdempotentSpec : ChangeSpec := { name := "nameIdempotent", fn := fun _ => fun
  | [d] => { results := [.lit (.bool true)], args := [d] }
  | _ => none }
def nameIdempotentRow : OpenClaim := { program := "ytnemdlacifhdoaa", sum := "06729aeebb161dcd8323c576ef3705a5393efde66d0f96c6966a0a23f625cca5", func := "recordlink/recordlinklaw02.NameIdempotent", spec := "nameIdempotent", inPlace := ["internal/abi.NoEscape", "internal/bytealg.MakeNoZero"], unfollowed := true, recurses := true, apart := false }
def NameIdempotentSaid : Prop := nameIdempotentRow.holds Try.pinned (OpenSpec.ofChange nameIdempotentSpec)

/-- ITS FALSE NEIGHBOUR: 'it returns false'. Refute it at one input. -/
def nameIdempotentWrong : ChangeSpec := { name := "nameIdempotent", fn := fun _ => fun
  | [d] => { results := [.lit (.bool false)], args := [d] }
  | _ => none }
def NameIdempotentWrongFalsely : Prop := nameIdempotentRow.holds Try.pinned (OpenSpec.ofChange nameIdempotentWrong)

/- THE SECOND FORM. 'bulk': how many values and letters a reading holds, each counted each time it is reached (what is shared counts as often as it is met; a slice's spare places count too). A statement '..UptoSaid' is the law's where the arguments, and the package variables that the reading takes, are together of bulk at most 1048576: NARROWER than '..Said'. Prove '..Said' where nothing that the law and all that it calls make is longer than what came in: it says more and counts as full. Else prove '..UptoSaid'. A law counts once. -/
mutual
def uptoBulk {H : Type} : DataW H → Nat
  | .lit (.string bytes) => bytes.length + 1
  | .lit _ => 1
  | .nil => 1
  | .ptr d => uptoBulk d + 1
  | .slice elems spare => uptoBulkAll elems + uptoBulkAll spare + 1
  | .agg parts => uptoBulkAll parts + 1
  | .iface _ d => uptoBulk d + 1
  | .map entries => uptoBulkEntries entries + 1
  | .held _ => 1
def uptoBulkAll {H : Type} : List (DataW H) → Nat
  | [] => 0
  | d :: r => uptoBulk d + uptoBulkAll r
def uptoBulkEntries {H : Type} : List (Lit × DataW H) → Nat
  | [] => 0
  | x :: r => uptoBulkEntry x + uptoBulkEntries r
def uptoBulkEntry {H : Type} : Lit × DataW H → Nat
  | (.string bytes, d) => bytes.length + uptoBulk d + 1
  | (_, d) => uptoBulk d + 1
 end
def uptoSmall : (H : Type) → List (DataW H) → Bool := fun _ ds => decide (uptoBulkAll ds ≤ 1048576)
def OpenSpec.upto (s : _root_.Go.ChangeSpec) : _root_.Go.OpenSpec := { _root_.Go.OpenSpec.ofChange s with cond := some uptoSmall }

/-- 'recordlinklaw02.NameExtras', WHERE WHAT IT READS IS OF BULK AT MOST 1048576: true; the input reads as it did. -/
def nameExtrasUptoRow : OpenClaim := { program := "ytnemdlacifhdoaa", sum := "06729aeebb161dcd8323c576ef3705a5393efde66d0f96c6966a0a23f625cca5", func := "recordlink/recordlinklaw02.NameExtras", spec := "nameExtras", inPlace := ["internal/abi.NoEscape", "internal/bytealg.MakeNoZero"], unfollowed := true, recurses := true, apart := false, narrowed := true }
def NameExtrasUptoSaid : Prop := nameExtrasUptoRow.holds Try.pinned (OpenSpec.upto nameExtrasSpec)

/-- 'recordlinklaw02.NameNicknames', WHERE WHAT IT READS IS OF BULK AT MOST 1048576: true; the input reads as it did. -/
def nameNicknamesUptoRow : OpenClaim := { program := "ytnemdlacifhdoaa", sum := "06729aeebb161dcd8323c576ef3705a5393efde66d0f96c6966a0a23f625cca5", func := "recordlink/recordlinklaw02.NameNicknames", spec := "nameNicknames", inPlace := ["internal/abi.NoEscape", "internal/bytealg.MakeNoZero"], unfollowed := true, recurses := true, apart := false, narrowed := true }
def NameNicknamesUptoSaid : Prop := nameNicknamesUptoRow.holds Try.pinned (OpenSpec.upto nameNicknamesSpec)

/-- 'recordlinklaw02.NameOrder', WHERE WHAT IT READS IS OF BULK AT MOST 1048576: true; the input reads as it did. -/
def nameOrderUptoRow : OpenClaim := { program := "ytnemdlacifhdoaa", sum := "06729aeebb161dcd8323c576ef3705a5393efde66d0f96c6966a0a23f625cca5", func := "recordlink/recordlinklaw02.NameOrder", spec := "nameOrder", inPlace := ["internal/abi.NoEscape", "internal/bytealg.MakeNoZero"], unfollowed := true, recurses := true, apart := false, narrowed := true }
def NameOrderUptoSaid : Prop := nameOrderUptoRow.holds Try.pinned (OpenSpec.upto nameOrderSpec)

/-- 'recordlinklaw02.NameChecks', WHERE WHAT IT READS IS OF BULK AT MOST 1048576: true; the input reads as it did. -/
def nameChecksUptoRow : OpenClaim := { program := "ytnemdlacifhdoaa", sum := "06729aeebb161dcd8323c576ef3705a5393efde66d0f96c6966a0a23f625cca5", func := "recordlink/recordlinklaw02.NameChecks", spec := "nameChecks", inPlace := ["internal/abi.NoEscape", "internal/bytealg.MakeNoZero"], unfollowed := true, recurses := true, apart := false, narrowed := true }
def NameChecksUptoSaid : Prop := nameChecksUptoRow.holds Try.pinned (OpenSpec.upto nameChecksSpec)

/-- 'recordlinklaw02.NameExact', WHERE WHAT IT READS IS OF BULK AT MOST 1048576: true; the input reads as it did. -/
def nameExactUptoRow : OpenClaim := { program := "ytnemdlacifhdoaa", sum := "06729aeebb161dcd8323c576ef3705a5393efde66d0f96c6966a0a23f625cca5", func := "recordlink/recordlinklaw02.NameExact", spec := "nameExact", inPlace := ["internal/abi.NoEscape", "internal/bytealg.MakeNoZero"], unfollowed := true, recurses := true, apart := false, narrowed := true }
def NameExactUptoSaid : Prop := nameExactUptoRow.holds Try.pinned (OpenSpec.upto nameExactSpec)

/-- 'recordlinklaw02.NameIdempotent', WHERE WHAT IT READS IS OF BULK AT MOST 1048576: true; the input reads as it did. -/
def nameIdempotentUptoRow : OpenClaim := { program := "ytnemdlacifhdoaa", sum := "06729aeebb161dcd8323c576ef3705a5393efde66d0f96c6966a0a23f625cca5", func := "recordlink/recordlinklaw02.NameIdempotent", spec := "nameIdempotent", inPlace := ["internal/abi.NoEscape", "internal/bytealg.MakeNoZero"], unfollowed := true, recurses := true, apart := false, narrowed := true }
def NameIdempotentUptoSaid : Prop := nameIdempotentUptoRow.holds Try.pinned (OpenSpec.upto nameIdempotentSpec)

end Rows
end Go.Proofs.Ytnemdlacifhdoaa
