/-
  DERIVED. GIVEN WITH THE SEED: THE CARDS: each row of YtmngcdfpanhmoaaGreatDoorRows.lean that lists a variable, with what it lists TIED to the program's text (the seventh form; the later family's looks); each row that meets fmt, with fmt's text TOLD by the authors' own Lean function (tested against real Go, not proved from fmt's source: count such statements apart). THE CARD IS WHAT COUNTS. Prove the row's statement (the work); the ties are given (YtmngcdfpanhmoaaGreatDoorTie.lean); close each card by the builder's one call (the guide's Derived/Test/ToyasCard.lean, 'card_holds'). Laid BY PROGRAM, IN A SANDBOX (cutbox-door.mjs). By AI agents, Wed Nov 11 2026. No macro, syntax, notation, axiom, sorry.
-/
import Derived.Test.YtmngcdfpanhmoaaGreatDoorRows
import GoSem.ClaimSeven
namespace Go.Proofs.YtmngcdfpanhmoaaGreatDoor
namespace Rows

/-- THE TIED CARD OF 'recordlinktop.TopFiles'. -/
def topFilesCard : Claim7 := { stood := { row := topFilesRow, standIns := [], harness := (true, "deadcf526e25f438e19c000645dc9fa394669f84213ac26a355a0fa7622e3a7e"), looks := true }, kinds := [], alts := [], laidByText := true, laidKinds := [.data, .data, .data, .data, .sentinel, .sentinel, .pinned], laidTests := true, laidLooks := .later }
def TopFilesCardSaid : Prop := Claim7.holds Tryz.pinned (.plain (OpenSpec.ofChange topFilesSpec)) topFilesCard

/-- THE SECOND FORM's CARD OF 'recordlinktop.TopFiles'. -/
def topFilesUptoCard : Claim7 := { stood := { row := topFilesUptoRow, standIns := [], harness := (true, "deadcf526e25f438e19c000645dc9fa394669f84213ac26a355a0fa7622e3a7e"), looks := true }, kinds := [], alts := [], laidByText := true, laidKinds := [.data, .data, .data, .data, .sentinel, .sentinel, .pinned], laidTests := true, laidLooks := .later }
def TopFilesUptoCardSaid : Prop := Claim7.holds Tryz.pinned (.plain (OpenSpec.upto topFilesSpec)) topFilesUptoCard
end Rows
end Go.Proofs.YtmngcdfpanhmoaaGreatDoor
