/-
  No cell of these rows narrows 'for every input' (looked for: loops, veiled, ifaces, maps, wideKeys, modest, calm, conditions, laid).
  DERIVED. THE GIVEN ROWS OF THIS SEAT. 5 by the template 'for every input the law returns true; each argument reads behind the call as it read before'; 0 by the template 'total and deterministic' (their statements: YtlachocloaeejaaTotals.lean).
  GIVEN WITH THE SEED: the statements are not yours to turn. If you find one false, say at which input.
  Laid BY PROGRAM, IN A SANDBOX (cutbox-rows.mjs): the forced cells as the released guide's own fill.sh prints them over the translation c497184d4e4565a0… (all of the seat's roots in one cut). By AI agents, Wed Nov 11 2026. No macro, syntax, notation, axiom, sorry.
-/
import Derived.Test.YtlachocloaeejaaChecked
import GoSem.Claim
import GoSem.ClaimJoined
import GoSem.ClaimMapViews
import Derived.JoinedTies
import Derived.KernelRfl
namespace Go.Proofs.Ytlachocloaeejaa
/- THE CELL 'sum', in the pinned program and in every row, IS THE sha256 OF THE DUMP (.gsa) THAT YtlachocloaeejaaProg.lean LOADS. Nothing in Lean hashes anything: it is a label: what it is worth is what the hold of that sum in a sandbox is worth. -/
noncomputable def Try.pinned : Pinned := { name := "ytlachocloaeejaa", sum := "c497184d4e4565a04b4a6098bd9f38418482d007f2086c21b2c085a8594e126b", checked := Try.checked }
namespace Rows
def none {H : Type} : Left H := { results := [], args := [] }

/-- 'recordlinklaw06.PhoneticExact': WHATEVER THE INPUT: true; the input reads as it did. -/
def phoneticExactSpec : ChangeSpec := { name := "phoneticExact", fn := fun _ => fun
  | [d1, d2, d3] => { results := [.lit (.bool true)], args := [d1, d2, d3] }
  | _ => none }
def phoneticExactRow : OpenClaim := { program := "ytlachocloaeejaa", sum := "c497184d4e4565a04b4a6098bd9f38418482d007f2086c21b2c085a8594e126b", func := "recordlink/recordlinklaw06.PhoneticExact", spec := "phoneticExact", unfollowed := true, recurses := true, apart := false }
def PhoneticExactSaid : Prop := phoneticExactRow.holds Try.pinned (OpenSpec.ofChange phoneticExactSpec)

/-- ITS FALSE NEIGHBOUR: 'it returns false'. Refute it at one input. -/
def phoneticExactWrong : ChangeSpec := { name := "phoneticExact", fn := fun _ => fun
  | [d1, d2, d3] => { results := [.lit (.bool false)], args := [d1, d2, d3] }
  | _ => none }
def PhoneticExactWrongFalsely : Prop := phoneticExactRow.holds Try.pinned (OpenSpec.ofChange phoneticExactWrong)

/-- 'recordlinklaw06.PhoneticDoubles': WHATEVER THE INPUT: true; the input reads as it did. -/
def phoneticDoublesSpec : ChangeSpec := { name := "phoneticDoubles", fn := fun _ => fun
  | [d1, d2] => { results := [.lit (.bool true)], args := [d1, d2] }
  | _ => none }
def phoneticDoublesRow : OpenClaim := { program := "ytlachocloaeejaa", sum := "c497184d4e4565a04b4a6098bd9f38418482d007f2086c21b2c085a8594e126b", func := "recordlink/recordlinklaw06.PhoneticDoubles", spec := "phoneticDoubles", unfollowed := true, recurses := true, apart := false }
def PhoneticDoublesSaid : Prop := phoneticDoublesRow.holds Try.pinned (OpenSpec.ofChange phoneticDoublesSpec)

/-- ITS FALSE NEIGHBOUR: 'it returns false'. Refute it at one input. -/
def phoneticDoublesWrong : ChangeSpec := { name := "phoneticDoubles", fn := fun _ => fun
  | [d1, d2] => { results := [.lit (.bool false)], args := [d1, d2] }
  | _ => none }
def PhoneticDoublesWrongFalsely : Prop := phoneticDoublesRow.holds Try.pinned (OpenSpec.ofChange phoneticDoublesWrong)

/-- 'recordlinklaw06.PhoneticSilent': WHATEVER THE INPUT: true; the input reads as it did. -/
def phoneticSilentSpec : ChangeSpec := { name := "phoneticSilent", fn := fun _ => fun
  | [d1, d2] => { results := [.lit (.bool true)], args := [d1, d2] }
  | _ => none }
def phoneticSilentRow : OpenClaim := { program := "ytlachocloaeejaa", sum := "c497184d4e4565a04b4a6098bd9f38418482d007f2086c21b2c085a8594e126b", func := "recordlink/recordlinklaw06.PhoneticSilent", spec := "phoneticSilent", unfollowed := true, recurses := true, apart := false }
def PhoneticSilentSaid : Prop := phoneticSilentRow.holds Try.pinned (OpenSpec.ofChange phoneticSilentSpec)

/-- ITS FALSE NEIGHBOUR: 'it returns false'. Refute it at one input. -/
def phoneticSilentWrong : ChangeSpec := { name := "phoneticSilent", fn := fun _ => fun
  | [d1, d2] => { results := [.lit (.bool false)], args := [d1, d2] }
  | _ => none }
def PhoneticSilentWrongFalsely : Prop := phoneticSilentRow.holds Try.pinned (OpenSpec.ofChange phoneticSilentWrong)

/-- 'recordlinklaw06.PhoneticShape': WHATEVER THE INPUT: true; the input reads as it did. -/
def phoneticShapeSpec : ChangeSpec := { name := "phoneticShape", fn := fun _ => fun
  | [d] => { results := [.lit (.bool true)], args := [d] }
  | _ => none }
def phoneticShapeRow : OpenClaim := { program := "ytlachocloaeejaa", sum := "c497184d4e4565a04b4a6098bd9f38418482d007f2086c21b2c085a8594e126b", func := "recordlink/recordlinklaw06.PhoneticShape", spec := "phoneticShape", unfollowed := true, recurses := true, apart := false }
def PhoneticShapeSaid : Prop := phoneticShapeRow.holds Try.pinned (OpenSpec.ofChange phoneticShapeSpec)

/-- ITS FALSE NEIGHBOUR: 'it returns false'. Refute it at one input. -/
def phoneticShapeWrong : ChangeSpec := { name := "phoneticShape", fn := fun _ => fun
  | [d] => { results := [.lit (.bool false)], args := [d] }
  | _ => none }
def PhoneticShapeWrongFalsely : Prop := phoneticShapeRow.holds Try.pinned (OpenSpec.ofChange phoneticShapeWrong)

/-- 'recordlinklaw06.PhoneticKeys': WHATEVER THE INPUT: true; the input reads as it did. -/
def phoneticKeysSpec : ChangeSpec := { name := "phoneticKeys", fn := fun _ => fun
  | [d] => { results := [.lit (.bool true)], args := [d] }
  | _ => none }
def phoneticKeysRow : OpenClaim := { program := "ytlachocloaeejaa", sum := "c497184d4e4565a04b4a6098bd9f38418482d007f2086c21b2c085a8594e126b", func := "recordlink/recordlinklaw06.PhoneticKeys", spec := "phoneticKeys", unfollowed := true, recurses := true, apart := false }
def PhoneticKeysSaid : Prop := phoneticKeysRow.holds Try.pinned (OpenSpec.ofChange phoneticKeysSpec)

/-- ITS FALSE NEIGHBOUR: 'it returns false'. Refute it at one input. -/
def phoneticKeysWrong : ChangeSpec := { name := "phoneticKeys", fn := fun _ => fun
  | [d] => { results := [.lit (.bool false)], args := [d] }
  | _ => none }
def PhoneticKeysWrongFalsely : Prop := phoneticKeysRow.holds Try.pinned (OpenSpec.ofChange phoneticKeysWrong)

/- THE SECOND FORM. 'bulk': how many values and letters a reading holds, each counted each time it is reached (what is shared counts as often as it is met; a slice's spare places count too). A statement '..UptoSaid' is the law's where the arguments, and the package variables that the reading takes, are together of bulk at most 1048576: NARROWER than '..Said'. Prove '..Said' where nothing that the law and all that it calls make is longer than what came in: it says more and counts as full. Else prove '..UptoSaid'. A law counts once. -/
mutual
def uptoBulk {H : Type} : DataW H → Nat
  | .lit (.string bytes) => bytes.length + 1
  | .lit _ => 1
  | .nil => 1
  | .ptr d => uptoBulk d + 1
  | .slice elems spare => uptoBulkAll elems + uptoBulkAll spare + 1
  | .agg parts => uptoBulkAll parts + 1
  | .iface _ d => uptoBulk d + 1
  | .map entries => uptoBulkEntries entries + 1
  | .held _ => 1
def uptoBulkAll {H : Type} : List (DataW H) → Nat
  | [] => 0
  | d :: r => uptoBulk d + uptoBulkAll r
def uptoBulkEntries {H : Type} : List (Lit × DataW H) → Nat
  | [] => 0
  | x :: r => uptoBulkEntry x + uptoBulkEntries r
def uptoBulkEntry {H : Type} : Lit × DataW H → Nat
  | (.string bytes, d) => bytes.length + uptoBulk d + 1
  | (_, d) => uptoBulk d + 1
 end
def uptoSmall : (H : Type) → List (DataW H) → Bool := fun _ ds => decide (uptoBulkAll ds ≤ 1048576)
def OpenSpec.upto (s : _root_.Go.ChangeSpec) : _root_.Go.OpenSpec := { _root_.Go.OpenSpec.ofChange s with cond := some uptoSmall }

/-- 'recordlinklaw06.PhoneticExact', WHERE WHAT IT READS IS OF BULK AT MOST 1048576: true; the input reads as it did. -/
def phoneticExactUptoRow : OpenClaim := { program := "ytlachocloaeejaa", sum := "c497184d4e4565a04b4a6098bd9f38418482d007f2086c21b2c085a8594e126b", func := "recordlink/recordlinklaw06.PhoneticExact", spec := "phoneticExact", unfollowed := true, recurses := true, apart := false, narrowed := true }
def PhoneticExactUptoSaid : Prop := phoneticExactUptoRow.holds Try.pinned (OpenSpec.upto phoneticExactSpec)

/-- 'recordlinklaw06.PhoneticDoubles', WHERE WHAT IT READS IS OF BULK AT MOST 1048576: true; the input reads as it did. -/
def phoneticDoublesUptoRow : OpenClaim := { program := "ytlachocloaeejaa", sum := "c497184d4e4565a04b4a6098bd9f38418482d007f2086c21b2c085a8594e126b", func := "recordlink/recordlinklaw06.PhoneticDoubles", spec := "phoneticDoubles", unfollowed := true, recurses := true, apart := false, narrowed := true }
def PhoneticDoublesUptoSaid : Prop := phoneticDoublesUptoRow.holds Try.pinned (OpenSpec.upto phoneticDoublesSpec)

/-- 'recordlinklaw06.PhoneticSilent', WHERE WHAT IT READS IS OF BULK AT MOST 1048576: true; the input reads as it did. -/
def phoneticSilentUptoRow : OpenClaim := { program := "ytlachocloaeejaa", sum := "c497184d4e4565a04b4a6098bd9f38418482d007f2086c21b2c085a8594e126b", func := "recordlink/recordlinklaw06.PhoneticSilent", spec := "phoneticSilent", unfollowed := true, recurses := true, apart := false, narrowed := true }
def PhoneticSilentUptoSaid : Prop := phoneticSilentUptoRow.holds Try.pinned (OpenSpec.upto phoneticSilentSpec)

/-- 'recordlinklaw06.PhoneticShape', WHERE WHAT IT READS IS OF BULK AT MOST 1048576: true; the input reads as it did. -/
def phoneticShapeUptoRow : OpenClaim := { program := "ytlachocloaeejaa", sum := "c497184d4e4565a04b4a6098bd9f38418482d007f2086c21b2c085a8594e126b", func := "recordlink/recordlinklaw06.PhoneticShape", spec := "phoneticShape", unfollowed := true, recurses := true, apart := false, narrowed := true }
def PhoneticShapeUptoSaid : Prop := phoneticShapeUptoRow.holds Try.pinned (OpenSpec.upto phoneticShapeSpec)

/-- 'recordlinklaw06.PhoneticKeys', WHERE WHAT IT READS IS OF BULK AT MOST 1048576: true; the input reads as it did. -/
def phoneticKeysUptoRow : OpenClaim := { program := "ytlachocloaeejaa", sum := "c497184d4e4565a04b4a6098bd9f38418482d007f2086c21b2c085a8594e126b", func := "recordlink/recordlinklaw06.PhoneticKeys", spec := "phoneticKeys", unfollowed := true, recurses := true, apart := false, narrowed := true }
def PhoneticKeysUptoSaid : Prop := phoneticKeysUptoRow.holds Try.pinned (OpenSpec.upto phoneticKeysSpec)

end Rows
end Go.Proofs.Ytlachocloaeejaa
