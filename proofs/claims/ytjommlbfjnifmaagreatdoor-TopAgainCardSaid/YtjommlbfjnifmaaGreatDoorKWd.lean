/- Closed facts of the row. -/
import Derived.Test.YtjommlbfjnifmaaGreatDoorKWa
namespace Go.Proofs.YtjommlbfjnifmaaGreatDoor.topAgain
theorem g1:mapsRowed Tryz.pinned.checked.prog=true:=by kernel_rfl
theorem g2:Tryz.pinned.checked.prog.stopsHeard=true:=by kernel_rfl
theorem g3:Tryz.pinned.checked.prog.mayEnter=true:=by kernel_rfl
theorem g4:(Rows.topAgainRow.lifted==Tryz.pinned.checked.prog.liftsFinal)=true:=by kernel_rfl
theorem g5:(Tryz.pinned.checked.prog.make==some Rows.topAgainRow.make)=true:=by kernel_rfl
theorem g6:(Rows.topAgainRow.plainKeys==Tryz.pinned.checked.prog.plainKeys)=true:=by kernel_rfl
end Go.Proofs.YtjommlbfjnifmaaGreatDoor.topAgain
