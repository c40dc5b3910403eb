/- Closed facts of the row. -/
import Derived.Test.YtfinddimpfiohaaGreatDoorKWa
namespace Go.Proofs.YtfinddimpfiohaaGreatDoor.topAdmits
theorem g1:mapsRowed Tryz.pinned.checked.prog=true:=by kernel_rfl
theorem g2:Tryz.pinned.checked.prog.stopsHeard=true:=by kernel_rfl
theorem g3:Tryz.pinned.checked.prog.mayEnter=true:=by kernel_rfl
theorem g4:(Rows.topAdmitsRow.lifted==Tryz.pinned.checked.prog.liftsFinal)=true:=by kernel_rfl
theorem g5:(Tryz.pinned.checked.prog.make==some Rows.topAdmitsRow.make)=true:=by kernel_rfl
theorem g6:(Rows.topAdmitsRow.plainKeys==Tryz.pinned.checked.prog.plainKeys)=true:=by kernel_rfl
end Go.Proofs.YtfinddimpfiohaaGreatDoor.topAdmits
