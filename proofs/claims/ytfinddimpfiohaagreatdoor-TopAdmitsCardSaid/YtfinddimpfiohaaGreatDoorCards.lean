/-
  DERIVED. GIVEN WITH THE SEED: THE CARDS: each row of YtfinddimpfiohaaGreatDoorRows.lean that lists a variable, with what it lists TIED to the program's text (the seventh form; the later family's looks); each row that meets fmt, with fmt's text TOLD by the authors' own Lean function (tested against real Go, not proved from fmt's source: count such statements apart). THE CARD IS WHAT COUNTS. Prove the row's statement (the work); the ties are given (YtfinddimpfiohaaGreatDoorTie.lean); close each card by the builder's one call (the guide's Derived/Test/ToyasCard.lean, 'card_holds'). Laid BY PROGRAM, IN A SANDBOX (cutbox-door.mjs). By AI agents, Wed Nov 11 2026. No macro, syntax, notation, axiom, sorry.
-/
import Derived.Test.YtfinddimpfiohaaGreatDoorRows
import GoSem.ClaimSeven
namespace Go.Proofs.YtfinddimpfiohaaGreatDoor
namespace Rows

/-- THE TIED CARD OF 'recordlinktop.TopAdmits'. -/
def topAdmitsCard : Claim7 := { stood := { row := topAdmitsRow, standIns := [], harness := (true, "8979202aecc1fb84a17251d381766d28eed0b934a032a767109d1be13ad0c51f"), looks := false }, kinds := [], alts := [], laidByText := true, laidKinds := [.data, .data, .data, .data, .pinned], laidTests := true, laidLooks := .later }
def TopAdmitsCardSaid : Prop := Claim7.holds Tryz.pinned (.plain (OpenSpec.ofChange topAdmitsSpec)) topAdmitsCard

/-- THE SECOND FORM's CARD OF 'recordlinktop.TopAdmits'. -/
def topAdmitsUptoCard : Claim7 := { stood := { row := topAdmitsUptoRow, standIns := [], harness := (true, "8979202aecc1fb84a17251d381766d28eed0b934a032a767109d1be13ad0c51f"), looks := false }, kinds := [], alts := [], laidByText := true, laidKinds := [.data, .data, .data, .data, .pinned], laidTests := true, laidLooks := .later }
def TopAdmitsUptoCardSaid : Prop := Claim7.holds Tryz.pinned (.plain (OpenSpec.upto topAdmitsSpec)) topAdmitsUptoCard
end Rows
end Go.Proofs.YtfinddimpfiohaaGreatDoor
