/- Closed facts of the row. -/
import Derived.Test.YtfinddimpfiohaaGreatDoorKWa
namespace Go.Proofs.YtfinddimpfiohaaGreatDoor.topAdmits
theorem h1:false=Tryz.pinned.checked.prog.looks []:=by kernel_rfl
theorem h2:Rows.topAdmitsRow.wfByText (OpenSpec.ofChange Rows.topAdmitsSpec)=true:=by kernel_rfl
end Go.Proofs.YtfinddimpfiohaaGreatDoor.topAdmits
