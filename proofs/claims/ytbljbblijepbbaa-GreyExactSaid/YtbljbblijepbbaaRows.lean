/-
  No cell of these rows narrows 'for every input' (looked for: loops, veiled, ifaces, maps, wideKeys, modest, calm, conditions, laid).
  DERIVED. THE GIVEN ROWS OF THIS SEAT. 5 by the template 'for every input the law returns true; each argument reads behind the call as it read before'; 0 by the template 'total and deterministic' (their statements: YtbljbblijepbbaaTotals.lean).
  GIVEN WITH THE SEED: the statements are not yours to turn. If you find one false, say at which input.
  Laid BY PROGRAM, IN A SANDBOX (cutbox-rows.mjs): the forced cells as the released guide's own fill.sh prints them over the translation 3b9bfacb0d04aca2… (all of the seat's roots in one cut). By AI agents, Wed Nov 11 2026. No macro, syntax, notation, axiom, sorry.
-/
import Derived.Test.YtbljbblijepbbaaChecked
import GoSem.Claim
import GoSem.ClaimJoined
import GoSem.ClaimMapViews
import Derived.JoinedTies
import Derived.KernelRfl
namespace Go.Proofs.Ytbljbblijepbbaa
/- THE CELL 'sum', in the pinned program and in every row, IS THE sha256 OF THE DUMP (.gsa) THAT YtbljbblijepbbaaProg.lean LOADS. Nothing in Lean hashes anything: it is a label: what it is worth is what the hold of that sum in a sandbox is worth. -/
noncomputable def Try.pinned : Pinned := { name := "ytbljbblijepbbaa", sum := "3b9bfacb0d04aca205ccbc12e361fcbcbe03c49dbd665a24f6f5e9136c22d22a", checked := Try.checked }
namespace Rows
def none {H : Type} : Left H := { results := [], args := [] }

/-- 'recordlinklaw27.GreyDecides': WHATEVER THE INPUT: true; the input reads as it did. -/
def greyDecidesSpec : ChangeSpec := { name := "greyDecides", fn := fun _ => fun
  | [d] => { results := [.lit (.bool true)], args := [d] }
  | _ => none }
def greyDecidesRow : OpenClaim := { program := "ytbljbblijepbbaa", sum := "3b9bfacb0d04aca205ccbc12e361fcbcbe03c49dbd665a24f6f5e9136c22d22a", func := "recordlink/recordlinklaw27.GreyDecides", spec := "greyDecides", plainKeys := false, apart := false }
def GreyDecidesSaid : Prop := greyDecidesRow.holds Try.pinned (OpenSpec.ofChange greyDecidesSpec)

/-- ITS FALSE NEIGHBOUR: 'it returns false'. Refute it at one input. -/
def greyDecidesWrong : ChangeSpec := { name := "greyDecides", fn := fun _ => fun
  | [d] => { results := [.lit (.bool false)], args := [d] }
  | _ => none }
def GreyDecidesWrongFalsely : Prop := greyDecidesRow.holds Try.pinned (OpenSpec.ofChange greyDecidesWrong)

/-- 'recordlinklaw27.GreyHigher': WHATEVER THE INPUT: true; the input reads as it did. -/
def greyHigherSpec : ChangeSpec := { name := "greyHigher", fn := fun _ => fun
  | [d] => { results := [.lit (.bool true)], args := [d] }
  | _ => none }
def greyHigherRow : OpenClaim := { program := "ytbljbblijepbbaa", sum := "3b9bfacb0d04aca205ccbc12e361fcbcbe03c49dbd665a24f6f5e9136c22d22a", func := "recordlink/recordlinklaw27.GreyHigher", spec := "greyHigher", plainKeys := false, apart := false }
def GreyHigherSaid : Prop := greyHigherRow.holds Try.pinned (OpenSpec.ofChange greyHigherSpec)

/-- ITS FALSE NEIGHBOUR: 'it returns false'. Refute it at one input. -/
def greyHigherWrong : ChangeSpec := { name := "greyHigher", fn := fun _ => fun
  | [d] => { results := [.lit (.bool false)], args := [d] }
  | _ => none }
def GreyHigherWrongFalsely : Prop := greyHigherRow.holds Try.pinned (OpenSpec.ofChange greyHigherWrong)

/-- 'recordlinklaw27.GreyContradicts': WHATEVER THE INPUT: true; the input reads as it did. -/
def greyContradictsSpec : ChangeSpec := { name := "greyContradicts", fn := fun _ => fun
  | [d] => { results := [.lit (.bool true)], args := [d] }
  | _ => none }
def greyContradictsRow : OpenClaim := { program := "ytbljbblijepbbaa", sum := "3b9bfacb0d04aca205ccbc12e361fcbcbe03c49dbd665a24f6f5e9136c22d22a", func := "recordlink/recordlinklaw27.GreyContradicts", spec := "greyContradicts", plainKeys := false, apart := false }
def GreyContradictsSaid : Prop := greyContradictsRow.holds Try.pinned (OpenSpec.ofChange greyContradictsSpec)

/-- ITS FALSE NEIGHBOUR: 'it returns false'. Refute it at one input. -/
def greyContradictsWrong : ChangeSpec := { name := "greyContradicts", fn := fun _ => fun
  | [d] => { results := [.lit (.bool false)], args := [d] }
  | _ => none }
def GreyContradictsWrongFalsely : Prop := greyContradictsRow.holds Try.pinned (OpenSpec.ofChange greyContradictsWrong)

/-- 'recordlinklaw27.GreyExact': WHATEVER THE INPUT: true; the input reads as it did. -/
def greyExactSpec : ChangeSpec := { name := "greyExact", fn := fun _ => fun
  | [d1, d2, d3, d4, d5, d6] => { results := [.lit (.bool true)], args := [d1, d2, d3, d4, d5, d6] }
  | _ => none }
def greyExactRow : OpenClaim := { program := "ytbljbblijepbbaa", sum := "3b9bfacb0d04aca205ccbc12e361fcbcbe03c49dbd665a24f6f5e9136c22d22a", func := "recordlink/recordlinklaw27.GreyExact", spec := "greyExact", unfollowed := true, recurses := true, plainKeys := false, apart := false }
def GreyExactSaid : Prop := greyExactRow.holds Try.pinned (OpenSpec.ofChange greyExactSpec)

/-- ITS FALSE NEIGHBOUR: 'it returns false'. Refute it at one input. -/
def greyExactWrong : ChangeSpec := { name := "greyExact", fn := fun _ => fun
  | [d1, d2, d3, d4, d5, d6] => { results := [.lit (.bool false)], args := [d1, d2, d3, d4, d5, d6] }
  | _ => none }
def GreyExactWrongFalsely : Prop := greyExactRow.holds Try.pinned (OpenSpec.ofChange greyExactWrong)

/-- 'recordlinklaw27.GreyStands': WHATEVER THE INPUT: true; the input reads as it did. -/
def greyStandsSpec : ChangeSpec := { name := "greyStands", fn := fun _ => fun
  | [d] => { results := [.lit (.bool true)], args := [d] }
  | _ => none }
def greyStandsRow : OpenClaim := { program := "ytbljbblijepbbaa", sum := "3b9bfacb0d04aca205ccbc12e361fcbcbe03c49dbd665a24f6f5e9136c22d22a", func := "recordlink/recordlinklaw27.GreyStands", spec := "greyStands", unfollowed := true, recurses := true, plainKeys := false, apart := false }
def GreyStandsSaid : Prop := greyStandsRow.holds Try.pinned (OpenSpec.ofChange greyStandsSpec)

/-- ITS FALSE NEIGHBOUR: 'it returns false'. Refute it at one input. -/
def greyStandsWrong : ChangeSpec := { name := "greyStands", fn := fun _ => fun
  | [d] => { results := [.lit (.bool false)], args := [d] }
  | _ => none }
def GreyStandsWrongFalsely : Prop := greyStandsRow.holds Try.pinned (OpenSpec.ofChange greyStandsWrong)

/- THE SECOND FORM. 'bulk': how many values and letters a reading holds, each counted each time it is reached (what is shared counts as often as it is met; a slice's spare places count too). A statement '..UptoSaid' is the law's where the arguments, and the package variables that the reading takes, are together of bulk at most 1048576: NARROWER than '..Said'. Prove '..Said' where nothing that the law and all that it calls make is longer than what came in: it says more and counts as full. Else prove '..UptoSaid'. A law counts once. -/
mutual
def uptoBulk {H : Type} : DataW H → Nat
  | .lit (.string bytes) => bytes.length + 1
  | .lit _ => 1
  | .nil => 1
  | .ptr d => uptoBulk d + 1
  | .slice elems spare => uptoBulkAll elems + uptoBulkAll spare + 1
  | .agg parts => uptoBulkAll parts + 1
  | .iface _ d => uptoBulk d + 1
  | .map entries => uptoBulkEntries entries + 1
  | .held _ => 1
def uptoBulkAll {H : Type} : List (DataW H) → Nat
  | [] => 0
  | d :: r => uptoBulk d + uptoBulkAll r
def uptoBulkEntries {H : Type} : List (Lit × DataW H) → Nat
  | [] => 0
  | x :: r => uptoBulkEntry x + uptoBulkEntries r
def uptoBulkEntry {H : Type} : Lit × DataW H → Nat
  | (.string bytes, d) => bytes.length + uptoBulk d + 1
  | (_, d) => uptoBulk d + 1
 end
def uptoSmall : (H : Type) → List (DataW H) → Bool := fun _ ds => decide (uptoBulkAll ds ≤ 1048576)
def OpenSpec.upto (s : _root_.Go.ChangeSpec) : _root_.Go.OpenSpec := { _root_.Go.OpenSpec.ofChange s with cond := some uptoSmall }

/-- 'recordlinklaw27.GreyDecides', WHERE WHAT IT READS IS OF BULK AT MOST 1048576: true; the input reads as it did. -/
def greyDecidesUptoRow : OpenClaim := { program := "ytbljbblijepbbaa", sum := "3b9bfacb0d04aca205ccbc12e361fcbcbe03c49dbd665a24f6f5e9136c22d22a", func := "recordlink/recordlinklaw27.GreyDecides", spec := "greyDecides", plainKeys := false, apart := false, narrowed := true }
def GreyDecidesUptoSaid : Prop := greyDecidesUptoRow.holds Try.pinned (OpenSpec.upto greyDecidesSpec)

/-- 'recordlinklaw27.GreyHigher', WHERE WHAT IT READS IS OF BULK AT MOST 1048576: true; the input reads as it did. -/
def greyHigherUptoRow : OpenClaim := { program := "ytbljbblijepbbaa", sum := "3b9bfacb0d04aca205ccbc12e361fcbcbe03c49dbd665a24f6f5e9136c22d22a", func := "recordlink/recordlinklaw27.GreyHigher", spec := "greyHigher", plainKeys := false, apart := false, narrowed := true }
def GreyHigherUptoSaid : Prop := greyHigherUptoRow.holds Try.pinned (OpenSpec.upto greyHigherSpec)

/-- 'recordlinklaw27.GreyContradicts', WHERE WHAT IT READS IS OF BULK AT MOST 1048576: true; the input reads as it did. -/
def greyContradictsUptoRow : OpenClaim := { program := "ytbljbblijepbbaa", sum := "3b9bfacb0d04aca205ccbc12e361fcbcbe03c49dbd665a24f6f5e9136c22d22a", func := "recordlink/recordlinklaw27.GreyContradicts", spec := "greyContradicts", plainKeys := false, apart := false, narrowed := true }
def GreyContradictsUptoSaid : Prop := greyContradictsUptoRow.holds Try.pinned (OpenSpec.upto greyContradictsSpec)

/-- 'recordlinklaw27.GreyExact', WHERE WHAT IT READS IS OF BULK AT MOST 1048576: true; the input reads as it did. -/
def greyExactUptoRow : OpenClaim := { program := "ytbljbblijepbbaa", sum := "3b9bfacb0d04aca205ccbc12e361fcbcbe03c49dbd665a24f6f5e9136c22d22a", func := "recordlink/recordlinklaw27.GreyExact", spec := "greyExact", unfollowed := true, recurses := true, plainKeys := false, apart := false, narrowed := true }
def GreyExactUptoSaid : Prop := greyExactUptoRow.holds Try.pinned (OpenSpec.upto greyExactSpec)

/-- 'recordlinklaw27.GreyStands', WHERE WHAT IT READS IS OF BULK AT MOST 1048576: true; the input reads as it did. -/
def greyStandsUptoRow : OpenClaim := { program := "ytbljbblijepbbaa", sum := "3b9bfacb0d04aca205ccbc12e361fcbcbe03c49dbd665a24f6f5e9136c22d22a", func := "recordlink/recordlinklaw27.GreyStands", spec := "greyStands", unfollowed := true, recurses := true, plainKeys := false, apart := false, narrowed := true }
def GreyStandsUptoSaid : Prop := greyStandsUptoRow.holds Try.pinned (OpenSpec.upto greyStandsSpec)

end Rows
end Go.Proofs.Ytbljbblijepbbaa
