/-
  NARROWER THAN 'FOR EVERY INPUT', by the rows' own cells (each row's printed sentence says how): AddressMoves: laid · AddressZeros: laid · AddressCodes: laid · AddressExact: laid · AddressIdempotent: laid.
  DERIVED. THE GIVEN ROWS OF THIS SEAT. 5 by the template 'for every input the law returns true; each argument reads behind the call as it read before'; 0 by the template 'total and deterministic' (their statements: YthokblligmllfaaDoorTotals.lean).
  GIVEN WITH THE SEED: the statements are not yours to turn. If you find one false, say at which input.
  Laid BY PROGRAM, IN A SANDBOX (cutbox-rows.mjs): the forced cells as the released guide's own fill.sh prints them over the translation a9e0d1a95e851378… (all of the seat's roots in one cut). By AI agents, Wed Nov 11 2026. No macro, syntax, notation, axiom, sorry.
-/
import Derived.Test.YthokblligmllfaaDoorChecked
import GoSem.PinnedTables
import GoSem.Claim
import GoSem.ClaimJoined
import GoSem.ClaimMapViews
import Derived.JoinedTies
import Derived.KernelRfl
namespace Go.Proofs.YthokblligmllfaaDoor
/- THE CELL 'sum', in the pinned program and in every row, IS THE sha256 OF THE DUMP (.gsa) THAT YthokblligmllfaaDoorProg.lean LOADS. Nothing in Lean hashes anything: it is a label: what it is worth is what the hold of that sum in a sandbox is worth. -/
noncomputable def Tryd.pinned : Pinned := { name := "ythokblligmllfaadoor", sum := "a9e0d1a95e851378c33d1d10b9142ba87fdfe313a6c34d34263aefb6afb84391", checked := Tryd.checked }
namespace Rows
def none {H : Type} : Left H := { results := [], args := [] }

/- WHAT THE LISTED PACKAGE-LEVEL VARIABLES READ AS WHEN THE CALL BEGINS. Each datum BY PROGRAM (the guide's laid-datum.mjs) off the statement by which the dump's own 'gosem.cut.vars' lays the variable. In a bare row this is a premise. The card (YthokblligmllfaaDoorCards.lean) ties it to the program's text. -/
def laid_unicode_utf8_acceptRanges {H : Type} : DataW H := .agg [.agg [.lit (.int .u8 128), .lit (.int .u8 191)], .agg [.lit (.int .u8 160), .lit (.int .u8 191)], .agg [.lit (.int .u8 128), .lit (.int .u8 159)], .agg [.lit (.int .u8 144), .lit (.int .u8 191)], .agg [.lit (.int .u8 128), .lit (.int .u8 143)], .agg [.lit (.int .u8 0), .lit (.int .u8 0)], .agg [.lit (.int .u8 0), .lit (.int .u8 0)], .agg [.lit (.int .u8 0), .lit (.int .u8 0)], .agg [.lit (.int .u8 0), .lit (.int .u8 0)], .agg [.lit (.int .u8 0), .lit (.int .u8 0)], .agg [.lit (.int .u8 0), .lit (.int .u8 0)], .agg [.lit (.int .u8 0), .lit (.int .u8 0)], .agg [.lit (.int .u8 0), .lit (.int .u8 0)], .agg [.lit (.int .u8 0), .lit (.int .u8 0)], .agg [.lit (.int .u8 0), .lit (.int .u8 0)], .agg [.lit (.int .u8 0), .lit (.int .u8 0)]]
/-- One of Go's own tables, pinned by name: the form's constant. -/
def laid_unicode_utf8_first : DataW Unit := Go.Pinned.utf8First

/-- 'recordlinklaw04.AddressMoves': WHATEVER THE INPUT: true; the input reads as it did. -/
def addressMovesSpec : ChangeSpec := { name := "addressMoves", fn := fun _ => fun
  | [d] => { results := [.lit (.bool true)], args := [d] }
  | _ => none }
def addressMovesRow : OpenClaim := { program := "ythokblligmllfaadoor", sum := "a9e0d1a95e851378c33d1d10b9142ba87fdfe313a6c34d34263aefb6afb84391", func := "recordlink/recordlinklaw04.AddressMoves", spec := "addressMoves", inPlace := ["internal/abi.NoEscape", "internal/bytealg.MakeNoZero", "internal/bytealg.IndexByteString", "internal/bytealg.IndexString"], unfollowed := true, recurses := true, named := ["unicode/utf8.first", "unicode/utf8.acceptRanges", "internal/bytealg.MaxLen"], apart := false, laid := [("unicode/utf8.acceptRanges", laid_unicode_utf8_acceptRanges), ("unicode/utf8.first", laid_unicode_utf8_first)] }
def AddressMovesSaid : Prop := addressMovesRow.holds Tryd.pinned (OpenSpec.ofChange addressMovesSpec)

/-- ITS FALSE NEIGHBOUR: 'it returns false'. Refute it at one input. -/
def addressMovesWrong : ChangeSpec := { name := "addressMoves", fn := fun _ => fun
  | [d] => { results := [.lit (.bool false)], args := [d] }
  | _ => none }
def AddressMovesWrongFalsely : Prop := addressMovesRow.holds Tryd.pinned (OpenSpec.ofChange addressMovesWrong)

/-- 'recordlinklaw04.AddressZeros': WHATEVER THE INPUT: true; the input reads as it did. -/
def addressZerosSpec : ChangeSpec := { name := "addressZeros", fn := fun _ => fun
  | [d1, d2] => { results := [.lit (.bool true)], args := [d1, d2] }
  | _ => none }
def addressZerosRow : OpenClaim := { program := "ythokblligmllfaadoor", sum := "a9e0d1a95e851378c33d1d10b9142ba87fdfe313a6c34d34263aefb6afb84391", func := "recordlink/recordlinklaw04.AddressZeros", spec := "addressZeros", inPlace := ["internal/abi.NoEscape", "internal/bytealg.MakeNoZero", "internal/bytealg.IndexByteString", "internal/bytealg.IndexString"], unfollowed := true, recurses := true, named := ["unicode/utf8.first", "unicode/utf8.acceptRanges", "internal/bytealg.MaxLen"], apart := false, laid := [("unicode/utf8.acceptRanges", laid_unicode_utf8_acceptRanges), ("unicode/utf8.first", laid_unicode_utf8_first)] }
def AddressZerosSaid : Prop := addressZerosRow.holds Tryd.pinned (OpenSpec.ofChange addressZerosSpec)

/-- ITS FALSE NEIGHBOUR: 'it returns false'. Refute it at one input. -/
def addressZerosWrong : ChangeSpec := { name := "addressZeros", fn := fun _ => fun
  | [d1, d2] => { results := [.lit (.bool false)], args := [d1, d2] }
  | _ => none }
def AddressZerosWrongFalsely : Prop := addressZerosRow.holds Tryd.pinned (OpenSpec.ofChange addressZerosWrong)

/-- 'recordlinklaw04.AddressCodes': WHATEVER THE INPUT: true; the input reads as it did. -/
def addressCodesSpec : ChangeSpec := { name := "addressCodes", fn := fun _ => fun
  | [d] => { results := [.lit (.bool true)], args := [d] }
  | _ => none }
def addressCodesRow : OpenClaim := { program := "ythokblligmllfaadoor", sum := "a9e0d1a95e851378c33d1d10b9142ba87fdfe313a6c34d34263aefb6afb84391", func := "recordlink/recordlinklaw04.AddressCodes", spec := "addressCodes", inPlace := ["internal/abi.NoEscape", "internal/bytealg.MakeNoZero", "internal/bytealg.IndexByteString", "internal/bytealg.IndexString"], unfollowed := true, recurses := true, named := ["unicode/utf8.first", "unicode/utf8.acceptRanges", "internal/bytealg.MaxLen"], apart := false, laid := [("unicode/utf8.acceptRanges", laid_unicode_utf8_acceptRanges), ("unicode/utf8.first", laid_unicode_utf8_first)] }
def AddressCodesSaid : Prop := addressCodesRow.holds Tryd.pinned (OpenSpec.ofChange addressCodesSpec)

/-- ITS FALSE NEIGHBOUR: 'it returns false'. Refute it at one input. -/
def addressCodesWrong : ChangeSpec := { name := "addressCodes", fn := fun _ => fun
  | [d] => { results := [.lit (.bool false)], args := [d] }
  | _ => none }
def AddressCodesWrongFalsely : Prop := addressCodesRow.holds Tryd.pinned (OpenSpec.ofChange addressCodesWrong)

/-- 'recordlinklaw04.AddressExact': WHATEVER THE INPUT: true; the input reads as it did. -/
def addressExactSpec : ChangeSpec := { name := "addressExact", fn := fun _ => fun
  | [d1, d2, d3, d4] => { results := [.lit (.bool true)], args := [d1, d2, d3, d4] }
  | _ => none }
def addressExactRow : OpenClaim := { program := "ythokblligmllfaadoor", sum := "a9e0d1a95e851378c33d1d10b9142ba87fdfe313a6c34d34263aefb6afb84391", func := "recordlink/recordlinklaw04.AddressExact", spec := "addressExact", inPlace := ["internal/abi.NoEscape", "internal/bytealg.MakeNoZero", "internal/bytealg.IndexByteString", "internal/bytealg.IndexString"], unfollowed := true, recurses := true, named := ["unicode/utf8.first", "unicode/utf8.acceptRanges", "internal/bytealg.MaxLen"], apart := false, laid := [("unicode/utf8.acceptRanges", laid_unicode_utf8_acceptRanges), ("unicode/utf8.first", laid_unicode_utf8_first)] }
def AddressExactSaid : Prop := addressExactRow.holds Tryd.pinned (OpenSpec.ofChange addressExactSpec)

/-- ITS FALSE NEIGHBOUR: 'it returns false'. Refute it at one input. -/
def addressExactWrong : ChangeSpec := { name := "addressExact", fn := fun _ => fun
  | [d1, d2, d3, d4] => { results := [.lit (.bool false)], args := [d1, d2, d3, d4] }
  | _ => none }
def AddressExactWrongFalsely : Prop := addressExactRow.holds Tryd.pinned (OpenSpec.ofChange addressExactWrong)

/-- 'recordlinklaw04.AddressIdempotent': WHATEVER THE INPUT: true; the input reads as it did. -/
def addressIdempotentSpec : ChangeSpec := { name := "addressIdempotent", fn := fun _ => fun
  | [d] => { results := [.lit (.bool true)], args := [d] }
  | _ => none }
def addressIdempotentRow : OpenClaim := { program := "ythokblligmllfaadoor", sum := "a9e0d1a95e851378c33d1d10b9142ba87fdfe313a6c34d34263aefb6afb84391", func := "recordlink/recordlinklaw04.AddressIdempotent", spec := "addressIdempotent", inPlace := ["internal/abi.NoEscape", "internal/bytealg.MakeNoZero", "internal/bytealg.IndexByteString", "internal/bytealg.IndexString"], unfollowed := true, recurses := true, named := ["unicode/utf8.first", "unicode/utf8.acceptRanges", "internal/bytealg.MaxLen"], apart := false, laid := [("unicode/utf8.acceptRanges", laid_unicode_utf8_acceptRanges), ("unicode/utf8.first", laid_unicode_utf8_first)] }
def AddressIdempotentSaid : Prop := addressIdempotentRow.holds Tryd.pinned (OpenSpec.ofChange addressIdempotentSpec)

/-- ITS FALSE NEIGHBOUR: 'it returns false'. Refute it at one input. -/
def addressIdempotentWrong : ChangeSpec := { name := "addressIdempotent", fn := fun _ => fun
  | [d] => { results := [.lit (.bool false)], args := [d] }
  | _ => none }
def AddressIdempotentWrongFalsely : Prop := addressIdempotentRow.holds Tryd.pinned (OpenSpec.ofChange addressIdempotentWrong)

/- THE SECOND FORM. 'bulk': how many values and letters a reading holds, each counted each time it is reached (what is shared counts as often as it is met; a slice's spare places count too). A statement '..UptoSaid' is the law's where the arguments, and the package variables that the reading takes, are together of bulk at most 1048576: NARROWER than '..Said'. Prove '..Said' where nothing that the law and all that it calls make is longer than what came in: it says more and counts as full. Else prove '..UptoSaid'. A law counts once. -/
mutual
def uptoBulk {H : Type} : DataW H → Nat
  | .lit (.string bytes) => bytes.length + 1
  | .lit _ => 1
  | .nil => 1
  | .ptr d => uptoBulk d + 1
  | .slice elems spare => uptoBulkAll elems + uptoBulkAll spare + 1
  | .agg parts => uptoBulkAll parts + 1
  | .iface _ d => uptoBulk d + 1
  | .map entries => uptoBulkEntries entries + 1
  | .held _ => 1
def uptoBulkAll {H : Type} : List (DataW H) → Nat
  | [] => 0
  | d :: r => uptoBulk d + uptoBulkAll r
def uptoBulkEntries {H : Type} : List (Lit × DataW H) → Nat
  | [] => 0
  | x :: r => uptoBulkEntry x + uptoBulkEntries r
def uptoBulkEntry {H : Type} : Lit × DataW H → Nat
  | (.string bytes, d) => bytes.length + uptoBulk d + 1
  | (_, d) => uptoBulk d + 1
 end
def uptoSmall : (H : Type) → List (DataW H) → Bool := fun _ ds => decide (uptoBulkAll ds ≤ 1048576)
def OpenSpec.upto (s : _root_.Go.ChangeSpec) : _root_.Go.OpenSpec := { _root_.Go.OpenSpec.ofChange s with cond := some uptoSmall }

/-- 'recordlinklaw04.AddressMoves', WHERE WHAT IT READS IS OF BULK AT MOST 1048576: true; the input reads as it did. -/
def addressMovesUptoRow : OpenClaim := { program := "ythokblligmllfaadoor", sum := "a9e0d1a95e851378c33d1d10b9142ba87fdfe313a6c34d34263aefb6afb84391", func := "recordlink/recordlinklaw04.AddressMoves", spec := "addressMoves", inPlace := ["internal/abi.NoEscape", "internal/bytealg.MakeNoZero", "internal/bytealg.IndexByteString", "internal/bytealg.IndexString"], unfollowed := true, recurses := true, named := ["unicode/utf8.first", "unicode/utf8.acceptRanges", "internal/bytealg.MaxLen"], apart := false, laid := [("unicode/utf8.acceptRanges", laid_unicode_utf8_acceptRanges), ("unicode/utf8.first", laid_unicode_utf8_first)], narrowed := true }
def AddressMovesUptoSaid : Prop := addressMovesUptoRow.holds Tryd.pinned (OpenSpec.upto addressMovesSpec)

/-- 'recordlinklaw04.AddressZeros', WHERE WHAT IT READS IS OF BULK AT MOST 1048576: true; the input reads as it did. -/
def addressZerosUptoRow : OpenClaim := { program := "ythokblligmllfaadoor", sum := "a9e0d1a95e851378c33d1d10b9142ba87fdfe313a6c34d34263aefb6afb84391", func := "recordlink/recordlinklaw04.AddressZeros", spec := "addressZeros", inPlace := ["internal/abi.NoEscape", "internal/bytealg.MakeNoZero", "internal/bytealg.IndexByteString", "internal/bytealg.IndexString"], unfollowed := true, recurses := true, named := ["unicode/utf8.first", "unicode/utf8.acceptRanges", "internal/bytealg.MaxLen"], apart := false, laid := [("unicode/utf8.acceptRanges", laid_unicode_utf8_acceptRanges), ("unicode/utf8.first", laid_unicode_utf8_first)], narrowed := true }
def AddressZerosUptoSaid : Prop := addressZerosUptoRow.holds Tryd.pinned (OpenSpec.upto addressZerosSpec)

/-- 'recordlinklaw04.AddressCodes', WHERE WHAT IT READS IS OF BULK AT MOST 1048576: true; the input reads as it did. -/
def addressCodesUptoRow : OpenClaim := { program := "ythokblligmllfaadoor", sum := "a9e0d1a95e851378c33d1d10b9142ba87fdfe313a6c34d34263aefb6afb84391", func := "recordlink/recordlinklaw04.AddressCodes", spec := "addressCodes", inPlace := ["internal/abi.NoEscape", "internal/bytealg.MakeNoZero", "internal/bytealg.IndexByteString", "internal/bytealg.IndexString"], unfollowed := true, recurses := true, named := ["unicode/utf8.first", "unicode/utf8.acceptRanges", "internal/bytealg.MaxLen"], apart := false, laid := [("unicode/utf8.acceptRanges", laid_unicode_utf8_acceptRanges), ("unicode/utf8.first", laid_unicode_utf8_first)], narrowed := true }
def AddressCodesUptoSaid : Prop := addressCodesUptoRow.holds Tryd.pinned (OpenSpec.upto addressCodesSpec)

/-- 'recordlinklaw04.AddressExact', WHERE WHAT IT READS IS OF BULK AT MOST 1048576: true; the input reads as it did. -/
def addressExactUptoRow : OpenClaim := { program := "ythokblligmllfaadoor", sum := "a9e0d1a95e851378c33d1d10b9142ba87fdfe313a6c34d34263aefb6afb84391", func := "recordlink/recordlinklaw04.AddressExact", spec := "addressExact", inPlace := ["internal/abi.NoEscape", "internal/bytealg.MakeNoZero", "internal/bytealg.IndexByteString", "internal/bytealg.IndexString"], unfollowed := true, recurses := true, named := ["unicode/utf8.first", "unicode/utf8.acceptRanges", "internal/bytealg.MaxLen"], apart := false, laid := [("unicode/utf8.acceptRanges", laid_unicode_utf8_acceptRanges), ("unicode/utf8.first", laid_unicode_utf8_first)], narrowed := true }
def AddressExactUptoSaid : Prop := addressExactUptoRow.holds Tryd.pinned (OpenSpec.upto addressExactSpec)

/-- 'recordlinklaw04.AddressIdempotent', WHERE WHAT IT READS IS OF BULK AT MOST 1048576: true; the input reads as it did. -/
def addressIdempotentUptoRow : OpenClaim := { program := "ythokblligmllfaadoor", sum := "a9e0d1a95e851378c33d1d10b9142ba87fdfe313a6c34d34263aefb6afb84391", func := "recordlink/recordlinklaw04.AddressIdempotent", spec := "addressIdempotent", inPlace := ["internal/abi.NoEscape", "internal/bytealg.MakeNoZero", "internal/bytealg.IndexByteString", "internal/bytealg.IndexString"], unfollowed := true, recurses := true, named := ["unicode/utf8.first", "unicode/utf8.acceptRanges", "internal/bytealg.MaxLen"], apart := false, laid := [("unicode/utf8.acceptRanges", laid_unicode_utf8_acceptRanges), ("unicode/utf8.first", laid_unicode_utf8_first)], narrowed := true }
def AddressIdempotentUptoSaid : Prop := addressIdempotentUptoRow.holds Tryd.pinned (OpenSpec.upto addressIdempotentSpec)

end Rows
end Go.Proofs.YthokblligmllfaaDoor
