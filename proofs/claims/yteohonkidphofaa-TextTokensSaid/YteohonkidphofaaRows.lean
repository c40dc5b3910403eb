/-
  No cell of these rows narrows 'for every input' (looked for: loops, veiled, ifaces, maps, wideKeys, modest, calm, conditions, laid).
  DERIVED. THE GIVEN ROWS OF THIS SEAT. 6 by the template 'for every input the law returns true; each argument reads behind the call as it read before'; 0 by the template 'total and deterministic' (their statements: YteohonkidphofaaTotals.lean).
  GIVEN WITH THE SEED: the statements are not yours to turn. If you find one false, say at which input.
  Laid BY PROGRAM, IN A SANDBOX (cutbox-rows.mjs): the forced cells as the released guide's own fill.sh prints them over the translation 9866c6303d50d1d3… (all of the seat's roots in one cut). By AI agents, Wed Nov 11 2026. No macro, syntax, notation, axiom, sorry.
-/
import Derived.Test.YteohonkidphofaaChecked
import GoSem.Claim
import GoSem.ClaimJoined
import GoSem.ClaimMapViews
import Derived.JoinedTies
import Derived.KernelRfl
namespace Go.Proofs.Yteohonkidphofaa
/- THE CELL 'sum', in the pinned program and in every row, IS THE sha256 OF THE DUMP (.gsa) THAT YteohonkidphofaaProg.lean LOADS. Nothing in Lean hashes anything: it is a label: what it is worth is what the hold of that sum in a sandbox is worth. -/
noncomputable def Try.pinned : Pinned := { name := "yteohonkidphofaa", sum := "9866c6303d50d1d3e5b0b800f22bacb689eaaf05198a6e7fa25a3ebabf16abda", checked := Try.checked }
namespace Rows
def none {H : Type} : Left H := { results := [], args := [] }

/-- 'recordlinklaw01.TextDress': WHATEVER THE INPUT: true; the input reads as it did. -/
def textDressSpec : ChangeSpec := { name := "textDress", fn := fun _ => fun
  | [d] => { results := [.lit (.bool true)], args := [d] }
  | _ => none }
def textDressRow : OpenClaim := { program := "yteohonkidphofaa", sum := "9866c6303d50d1d3e5b0b800f22bacb689eaaf05198a6e7fa25a3ebabf16abda", func := "recordlink/recordlinklaw01.TextDress", spec := "textDress", inPlace := ["internal/abi.NoEscape", "internal/bytealg.MakeNoZero"], unfollowed := true, recurses := true, apart := false }
def TextDressSaid : Prop := textDressRow.holds Try.pinned (OpenSpec.ofChange textDressSpec)

/-- ITS FALSE NEIGHBOUR: 'it returns false'. Refute it at one input. -/
def textDressWrong : ChangeSpec := { name := "textDress", fn := fun _ => fun
  | [d] => { results := [.lit (.bool false)], args := [d] }
  | _ => none }
def TextDressWrongFalsely : Prop := textDressRow.holds Try.pinned (OpenSpec.ofChange textDressWrong)

/-- 'recordlinklaw01.TextTokens': WHATEVER THE INPUT: true; the input reads as it did. -/
def textTokensSpec : ChangeSpec := { name := "textTokens", fn := fun _ => fun
  | [d] => { results := [.lit (.bool true)], args := [d] }
  | _ => none }
def textTokensRow : OpenClaim := { program := "yteohonkidphofaa", sum := "9866c6303d50d1d3e5b0b800f22bacb689eaaf05198a6e7fa25a3ebabf16abda", func := "recordlink/recordlinklaw01.TextTokens", spec := "textTokens", inPlace := ["internal/abi.NoEscape", "internal/bytealg.MakeNoZero"], unfollowed := true, recurses := true, apart := false }
def TextTokensSaid : Prop := textTokensRow.holds Try.pinned (OpenSpec.ofChange textTokensSpec)

/-- ITS FALSE NEIGHBOUR: 'it returns false'. Refute it at one input. -/
def textTokensWrong : ChangeSpec := { name := "textTokens", fn := fun _ => fun
  | [d] => { results := [.lit (.bool false)], args := [d] }
  | _ => none }
def TextTokensWrongFalsely : Prop := textTokensRow.holds Try.pinned (OpenSpec.ofChange textTokensWrong)

/-- 'recordlinklaw01.TextPairs': WHATEVER THE INPUT: true; the input reads as it did. -/
def textPairsSpec : ChangeSpec := { name := "textPairs", fn := fun _ => fun
  | [d] => { results := [.lit (.bool true)], args := [d] }
  | _ => none }
def textPairsRow : OpenClaim := { program := "yteohonkidphofaa", sum := "9866c6303d50d1d3e5b0b800f22bacb689eaaf05198a6e7fa25a3ebabf16abda", func := "recordlink/recordlinklaw01.TextPairs", spec := "textPairs", inPlace := ["internal/abi.NoEscape", "internal/bytealg.MakeNoZero"], unfollowed := true, recurses := true, apart := false }
def TextPairsSaid : Prop := textPairsRow.holds Try.pinned (OpenSpec.ofChange textPairsSpec)

/-- ITS FALSE NEIGHBOUR: 'it returns false'. Refute it at one input. -/
def textPairsWrong : ChangeSpec := { name := "textPairs", fn := fun _ => fun
  | [d] => { results := [.lit (.bool false)], args := [d] }
  | _ => none }
def TextPairsWrongFalsely : Prop := textPairsRow.holds Try.pinned (OpenSpec.ofChange textPairsWrong)

/-- 'recordlinklaw01.TextParts': WHATEVER THE INPUT: true; the input reads as it did. -/
def textPartsSpec : ChangeSpec := { name := "textParts", fn := fun _ => fun
  | [d] => { results := [.lit (.bool true)], args := [d] }
  | _ => none }
def textPartsRow : OpenClaim := { program := "yteohonkidphofaa", sum := "9866c6303d50d1d3e5b0b800f22bacb689eaaf05198a6e7fa25a3ebabf16abda", func := "recordlink/recordlinklaw01.TextParts", spec := "textParts", inPlace := ["internal/abi.NoEscape", "internal/bytealg.MakeNoZero"], unfollowed := true, recurses := true, apart := false }
def TextPartsSaid : Prop := textPartsRow.holds Try.pinned (OpenSpec.ofChange textPartsSpec)

/-- ITS FALSE NEIGHBOUR: 'it returns false'. Refute it at one input. -/
def textPartsWrong : ChangeSpec := { name := "textParts", fn := fun _ => fun
  | [d] => { results := [.lit (.bool false)], args := [d] }
  | _ => none }
def TextPartsWrongFalsely : Prop := textPartsRow.holds Try.pinned (OpenSpec.ofChange textPartsWrong)

/-- 'recordlinklaw01.TextExact': WHATEVER THE INPUT: true; the input reads as it did. -/
def textExactSpec : ChangeSpec := { name := "textExact", fn := fun _ => fun
  | [d1, d2, d3] => { results := [.lit (.bool true)], args := [d1, d2, d3] }
  | _ => none }
def textExactRow : OpenClaim := { program := "yteohonkidphofaa", sum := "9866c6303d50d1d3e5b0b800f22bacb689eaaf05198a6e7fa25a3ebabf16abda", func := "recordlink/recordlinklaw01.TextExact", spec := "textExact", inPlace := ["internal/abi.NoEscape", "internal/bytealg.MakeNoZero"], unfollowed := true, recurses := true, apart := false }
def TextExactSaid : Prop := textExactRow.holds Try.pinned (OpenSpec.ofChange textExactSpec)

/-- ITS FALSE NEIGHBOUR: 'it returns false'. Refute it at one input. -/
def textExactWrong : ChangeSpec := { name := "textExact", fn := fun _ => fun
  | [d1, d2, d3] => { results := [.lit (.bool false)], args := [d1, d2, d3] }
  | _ => none }
def TextExactWrongFalsely : Prop := textExactRow.holds Try.pinned (OpenSpec.ofChange textExactWrong)

/-- 'recordlinklaw01.TextIdempotent': WHATEVER THE INPUT: true; the input reads as it did. -/
def textIdempotentSpec : ChangeSpec := { name := "textIdempotent", fn := fun _ => fun
  | [d] => { results := [.lit (.bool true)], args := [d] }
  | _ => none }
def textIdempotentRow : OpenClaim := { program := "yteohonkidphofaa", sum := "9866c6303d50d1d3e5b0b800f22bacb689eaaf05198a6e7fa25a3ebabf16abda", func := "recordlink/recordlinklaw01.TextIdempotent", spec := "textIdempotent", inPlace := ["internal/abi.NoEscape", "internal/bytealg.MakeNoZero"], unfollowed := true, recurses := true, apart := false }
def TextIdempotentSaid : Prop := textIdempotentRow.holds Try.pinned (OpenSpec.ofChange textIdempotentSpec)

/-- ITS FALSE NEIGHBOUR: 'it returns false'. Refute it at one input. -/
def textIdempotentWrong : ChangeSpec := { name := "textIdempotent", fn := fun _ => fun
  | [d] => { results := [.lit (.bool false)], args := [d] }
  | _ => none }
def TextIdempotentWrongFalsely : Prop := textIdempotentRow.holds Try.pinned (OpenSpec.ofChange textIdempotentWrong)

/- THE SECOND FORM. 'bulk': how many values and letters a reading holds, each counted each time it is reached (what is shared counts as often as it is met; a slice's spare places count too). A statement '..UptoSaid' is the law's where the arguments, and the package variables that the reading takes, are together of bulk at most 1048576: NARROWER than '..Said'. Prove '..Said' where nothing that the law and all that it calls make is longer than what came in: it says more and counts as full. Else prove '..UptoSaid'. A law counts once. -/
mutual
def uptoBulk {H : Type} : DataW H → Nat
  | .lit (.string bytes) => bytes.length + 1
  | .lit _ => 1
  | .nil => 1
  | .ptr d => uptoBulk d + 1
  | .slice elems spare => uptoBulkAll elems + uptoBulkAll spare + 1
  | .agg parts => uptoBulkAll parts + 1
  | .iface _ d => uptoBulk d + 1
  | .map entries => uptoBulkEntries entries + 1
  | .held _ => 1
def uptoBulkAll {H : Type} : List (DataW H) → Nat
  | [] => 0
  | d :: r => uptoBulk d + uptoBulkAll r
def uptoBulkEntries {H : Type} : List (Lit × DataW H) → Nat
  | [] => 0
  | x :: r => uptoBulkEntry x + uptoBulkEntries r
def uptoBulkEntry {H : Type} : Lit × DataW H → Nat
  | (.string bytes, d) => bytes.length + uptoBulk d + 1
  | (_, d) => uptoBulk d + 1
 end
def uptoSmall : (H : Type) → List (DataW H) → Bool := fun _ ds => decide (uptoBulkAll ds ≤ 1048576)
def OpenSpec.upto (s : _root_.Go.ChangeSpec) : _root_.Go.OpenSpec := { _root_.Go.OpenSpec.ofChange s with cond := some uptoSmall }

/-- 'recordlinklaw01.TextDress', WHERE WHAT IT READS IS OF BULK AT MOST 1048576: true; the input reads as it did. -/
def textDressUptoRow : OpenClaim := { program := "yteohonkidphofaa", sum := "9866c6303d50d1d3e5b0b800f22bacb689eaaf05198a6e7fa25a3ebabf16abda", func := "recordlink/recordlinklaw01.TextDress", spec := "textDress", inPlace := ["internal/abi.NoEscape", "internal/bytealg.MakeNoZero"], unfollowed := true, recurses := true, apart := false, narrowed := true }
def TextDressUptoSaid : Prop := textDressUptoRow.holds Try.pinned (OpenSpec.upto textDressSpec)

/-- 'recordlinklaw01.TextTokens', WHERE WHAT IT READS IS OF BULK AT MOST 1048576: true; the input reads as it did. -/
def textTokensUptoRow : OpenClaim := { program := "yteohonkidphofaa", sum := "9866c6303d50d1d3e5b0b800f22bacb689eaaf05198a6e7fa25a3ebabf16abda", func := "recordlink/recordlinklaw01.TextTokens", spec := "textTokens", inPlace := ["internal/abi.NoEscape", "internal/bytealg.MakeNoZero"], unfollowed := true, recurses := true, apart := false, narrowed := true }
def TextTokensUptoSaid : Prop := textTokensUptoRow.holds Try.pinned (OpenSpec.upto textTokensSpec)

/-- 'recordlinklaw01.TextPairs', WHERE WHAT IT READS IS OF BULK AT MOST 1048576: true; the input reads as it did. -/
def textPairsUptoRow : OpenClaim := { program := "yteohonkidphofaa", sum := "9866c6303d50d1d3e5b0b800f22bacb689eaaf05198a6e7fa25a3ebabf16abda", func := "recordlink/recordlinklaw01.TextPairs", spec := "textPairs", inPlace := ["internal/abi.NoEscape", "internal/bytealg.MakeNoZero"], unfollowed := true, recurses := true, apart := false, narrowed := true }
def TextPairsUptoSaid : Prop := textPairsUptoRow.holds Try.pinned (OpenSpec.upto textPairsSpec)

/-- 'recordlinklaw01.TextParts', WHERE WHAT IT READS IS OF BULK AT MOST 1048576: true; the input reads as it did. -/
def textPartsUptoRow : OpenClaim := { program := "yteohonkidphofaa", sum := "9866c6303d50d1d3e5b0b800f22bacb689eaaf05198a6e7fa25a3ebabf16abda", func := "recordlink/recordlinklaw01.TextParts", spec := "textParts", inPlace := ["internal/abi.NoEscape", "internal/bytealg.MakeNoZero"], unfollowed := true, recurses := true, apart := false, narrowed := true }
def TextPartsUptoSaid : Prop := textPartsUptoRow.holds Try.pinned (OpenSpec.upto textPartsSpec)

/-- 'recordlinklaw01.TextExact', WHERE WHAT IT READS IS OF BULK AT MOST 1048576: true; the input reads as it did. -/
def textExactUptoRow : OpenClaim := { program := "yteohonkidphofaa", sum := "9866c6303d50d1d3e5b0b800f22bacb689eaaf05198a6e7fa25a3ebabf16abda", func := "recordlink/recordlinklaw01.TextExact", spec := "textExact", inPlace := ["internal/abi.NoEscape", "internal/bytealg.MakeNoZero"], unfollowed := true, recurses := true, apart := false, narrowed := true }
def TextExactUptoSaid : Prop := textExactUptoRow.holds Try.pinned (OpenSpec.upto textExactSpec)

/-- 'recordlinklaw01.TextIdempotent', WHERE WHAT IT READS IS OF BULK AT MOST 1048576: true; the input reads as it did. -/
def textIdempotentUptoRow : OpenClaim := { program := "yteohonkidphofaa", sum := "9866c6303d50d1d3e5b0b800f22bacb689eaaf05198a6e7fa25a3ebabf16abda", func := "recordlink/recordlinklaw01.TextIdempotent", spec := "textIdempotent", inPlace := ["internal/abi.NoEscape", "internal/bytealg.MakeNoZero"], unfollowed := true, recurses := true, apart := false, narrowed := true }
def TextIdempotentUptoSaid : Prop := textIdempotentUptoRow.holds Try.pinned (OpenSpec.upto textIdempotentSpec)

end Rows
end Go.Proofs.Yteohonkidphofaa
