/- Closed facts of the row. -/
import Derived.Test.YtjommlbfjnifmaaGreatDoorKWa
namespace Go.Proofs.YtjommlbfjnifmaaGreatDoor.topAgain
theorem f1:(Rows.topAgainRow.inPlace==Tryz.pinned.checked.prog.inPlace 3)=true:=by kernel_rfl
theorem f2:(Rows.topAgainRow.unfollowed==Tryz.pinned.checked.prog.unfollowed 3)=true:=by kernel_rfl
theorem f3:(Rows.topAgainRow.recurses==Tryz.pinned.checked.prog.recurses 3)=true:=by kernel_rfl
theorem f4:(Rows.topAgainRow.named==Tryz.pinned.checked.prog.varsNamed 3)=true:=by kernel_rfl
end Go.Proofs.YtjommlbfjnifmaaGreatDoor.topAgain
