/-
  DERIVED. GIVEN WITH THE SEED: THE CARDS: each row of YthokblligmllfaaDoorRows.lean that lists a variable, with what it lists TIED to the program's text (the seventh form; the later family's looks); each row that meets fmt, with fmt's text TOLD by the authors' own Lean function (tested against real Go, not proved from fmt's source: count such statements apart). THE CARD IS WHAT COUNTS. Prove the row's statement (the work); the ties are given (YthokblligmllfaaDoorTie.lean); close each card by the builder's one call (the guide's Derived/Test/ToyasCard.lean, 'card_holds'). Laid BY PROGRAM, IN A SANDBOX (cutbox-door.mjs). By AI agents, Wed Nov 11 2026. No macro, syntax, notation, axiom, sorry.
-/
import Derived.Test.YthokblligmllfaaDoorRows
import GoSem.ClaimSeven
namespace Go.Proofs.YthokblligmllfaaDoor
namespace Rows

/-- THE TIED CARD OF 'recordlinklaw04.AddressMoves'. -/
def addressMovesCard : Claim7 := { stood := { row := addressMovesRow, standIns := [], harness := (true, "74ae3edfffa2a7a4d1171b250b5f25225711dcec777cbcd6e4f1e5d0ee2e7a36"), looks := false }, kinds := [], alts := [], laidByText := true, laidKinds := [.data, .pinned], laidTests := true, laidLooks := .later }
def AddressMovesCardSaid : Prop := Claim7.holds Tryd.pinned (.plain (OpenSpec.ofChange addressMovesSpec)) addressMovesCard

/-- THE TIED CARD OF 'recordlinklaw04.AddressZeros'. -/
def addressZerosCard : Claim7 := { stood := { row := addressZerosRow, standIns := [], harness := (true, "74ae3edfffa2a7a4d1171b250b5f25225711dcec777cbcd6e4f1e5d0ee2e7a36"), looks := false }, kinds := [], alts := [], laidByText := true, laidKinds := [.data, .pinned], laidTests := true, laidLooks := .later }
def AddressZerosCardSaid : Prop := Claim7.holds Tryd.pinned (.plain (OpenSpec.ofChange addressZerosSpec)) addressZerosCard

/-- THE TIED CARD OF 'recordlinklaw04.AddressCodes'. -/
def addressCodesCard : Claim7 := { stood := { row := addressCodesRow, standIns := [], harness := (true, "74ae3edfffa2a7a4d1171b250b5f25225711dcec777cbcd6e4f1e5d0ee2e7a36"), looks := false }, kinds := [], alts := [], laidByText := true, laidKinds := [.data, .pinned], laidTests := true, laidLooks := .later }
def AddressCodesCardSaid : Prop := Claim7.holds Tryd.pinned (.plain (OpenSpec.ofChange addressCodesSpec)) addressCodesCard

/-- THE TIED CARD OF 'recordlinklaw04.AddressExact'. -/
def addressExactCard : Claim7 := { stood := { row := addressExactRow, standIns := [], harness := (true, "74ae3edfffa2a7a4d1171b250b5f25225711dcec777cbcd6e4f1e5d0ee2e7a36"), looks := false }, kinds := [], alts := [], laidByText := true, laidKinds := [.data, .pinned], laidTests := true, laidLooks := .later }
def AddressExactCardSaid : Prop := Claim7.holds Tryd.pinned (.plain (OpenSpec.ofChange addressExactSpec)) addressExactCard

/-- THE TIED CARD OF 'recordlinklaw04.AddressIdempotent'. -/
def addressIdempotentCard : Claim7 := { stood := { row := addressIdempotentRow, standIns := [], harness := (true, "74ae3edfffa2a7a4d1171b250b5f25225711dcec777cbcd6e4f1e5d0ee2e7a36"), looks := false }, kinds := [], alts := [], laidByText := true, laidKinds := [.data, .pinned], laidTests := true, laidLooks := .later }
def AddressIdempotentCardSaid : Prop := Claim7.holds Tryd.pinned (.plain (OpenSpec.ofChange addressIdempotentSpec)) addressIdempotentCard

/-- THE SECOND FORM's CARD OF 'recordlinklaw04.AddressMoves'. -/
def addressMovesUptoCard : Claim7 := { stood := { row := addressMovesUptoRow, standIns := [], harness := (true, "74ae3edfffa2a7a4d1171b250b5f25225711dcec777cbcd6e4f1e5d0ee2e7a36"), looks := false }, kinds := [], alts := [], laidByText := true, laidKinds := [.data, .pinned], laidTests := true, laidLooks := .later }
def AddressMovesUptoCardSaid : Prop := Claim7.holds Tryd.pinned (.plain (OpenSpec.upto addressMovesSpec)) addressMovesUptoCard

/-- THE SECOND FORM's CARD OF 'recordlinklaw04.AddressZeros'. -/
def addressZerosUptoCard : Claim7 := { stood := { row := addressZerosUptoRow, standIns := [], harness := (true, "74ae3edfffa2a7a4d1171b250b5f25225711dcec777cbcd6e4f1e5d0ee2e7a36"), looks := false }, kinds := [], alts := [], laidByText := true, laidKinds := [.data, .pinned], laidTests := true, laidLooks := .later }
def AddressZerosUptoCardSaid : Prop := Claim7.holds Tryd.pinned (.plain (OpenSpec.upto addressZerosSpec)) addressZerosUptoCard

/-- THE SECOND FORM's CARD OF 'recordlinklaw04.AddressCodes'. -/
def addressCodesUptoCard : Claim7 := { stood := { row := addressCodesUptoRow, standIns := [], harness := (true, "74ae3edfffa2a7a4d1171b250b5f25225711dcec777cbcd6e4f1e5d0ee2e7a36"), looks := false }, kinds := [], alts := [], laidByText := true, laidKinds := [.data, .pinned], laidTests := true, laidLooks := .later }
def AddressCodesUptoCardSaid : Prop := Claim7.holds Tryd.pinned (.plain (OpenSpec.upto addressCodesSpec)) addressCodesUptoCard

/-- THE SECOND FORM's CARD OF 'recordlinklaw04.AddressExact'. -/
def addressExactUptoCard : Claim7 := { stood := { row := addressExactUptoRow, standIns := [], harness := (true, "74ae3edfffa2a7a4d1171b250b5f25225711dcec777cbcd6e4f1e5d0ee2e7a36"), looks := false }, kinds := [], alts := [], laidByText := true, laidKinds := [.data, .pinned], laidTests := true, laidLooks := .later }
def AddressExactUptoCardSaid : Prop := Claim7.holds Tryd.pinned (.plain (OpenSpec.upto addressExactSpec)) addressExactUptoCard

/-- THE SECOND FORM's CARD OF 'recordlinklaw04.AddressIdempotent'. -/
def addressIdempotentUptoCard : Claim7 := { stood := { row := addressIdempotentUptoRow, standIns := [], harness := (true, "74ae3edfffa2a7a4d1171b250b5f25225711dcec777cbcd6e4f1e5d0ee2e7a36"), looks := false }, kinds := [], alts := [], laidByText := true, laidKinds := [.data, .pinned], laidTests := true, laidLooks := .later }
def AddressIdempotentUptoCardSaid : Prop := Claim7.holds Tryd.pinned (.plain (OpenSpec.upto addressIdempotentSpec)) addressIdempotentUptoCard
end Rows
end Go.Proofs.YthokblligmllfaaDoor
