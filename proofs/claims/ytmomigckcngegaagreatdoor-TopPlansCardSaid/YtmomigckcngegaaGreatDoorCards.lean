/-
  DERIVED. GIVEN WITH THE SEED: THE CARDS: each row of YtmomigckcngegaaGreatDoorRows.lean that lists a variable, with what it lists TIED to the program's text (the seventh form; the later family's looks); each row that meets fmt, with fmt's text TOLD by the authors' own Lean function (tested against real Go, not proved from fmt's source: count such statements apart). THE CARD IS WHAT COUNTS. Prove the row's statement (the work); the ties are given (YtmomigckcngegaaGreatDoorTie.lean); close each card by the builder's one call (the guide's Derived/Test/ToyasCard.lean, 'card_holds'). Laid BY PROGRAM, IN A SANDBOX (cutbox-door.mjs). By AI agents, Wed Nov 11 2026. No macro, syntax, notation, axiom, sorry.
-/
import Derived.Test.YtmomigckcngegaaGreatDoorRows
import GoSem.ClaimSeven
namespace Go.Proofs.YtmomigckcngegaaGreatDoor
namespace Rows

/-- THE TIED CARD OF 'recordlinktop.TopPlans'. -/
def topPlansCard : Claim7 := { stood := { row := topPlansRow, standIns := [], harness := (true, "d474836df27847b8b37561b367b58cd382cea169cfc87d50ba314e7c1b76d99c"), looks := false }, kinds := [], alts := [], laidByText := true, laidKinds := [.data, .data, .data, .data, .pinned], laidTests := true, laidLooks := .later }
def TopPlansCardSaid : Prop := Claim7.holds Tryz.pinned (.plain (OpenSpec.ofChange topPlansSpec)) topPlansCard

/-- THE SECOND FORM's CARD OF 'recordlinktop.TopPlans'. -/
def topPlansUptoCard : Claim7 := { stood := { row := topPlansUptoRow, standIns := [], harness := (true, "d474836df27847b8b37561b367b58cd382cea169cfc87d50ba314e7c1b76d99c"), looks := false }, kinds := [], alts := [], laidByText := true, laidKinds := [.data, .data, .data, .data, .pinned], laidTests := true, laidLooks := .later }
def TopPlansUptoCardSaid : Prop := Claim7.holds Tryz.pinned (.plain (OpenSpec.upto topPlansSpec)) topPlansUptoCard
end Rows
end Go.Proofs.YtmomigckcngegaaGreatDoor
