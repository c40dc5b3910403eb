/- Closed facts of the row. -/
import Derived.Test.YtjommlbfjnifmaaGreatDoorKWa
namespace Go.Proofs.YtjommlbfjnifmaaGreatDoor.topAgain
theorem h1:false=Tryz.pinned.checked.prog.looks []:=by kernel_rfl
theorem h2:Rows.topAgainRow.wfByText (OpenSpec.ofChange Rows.topAgainSpec)=true:=by kernel_rfl
end Go.Proofs.YtjommlbfjnifmaaGreatDoor.topAgain
