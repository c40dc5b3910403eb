/- Closed facts of the row. -/
import Derived.Test.YtfinddimpfiohaaGreatDoorKWa
namespace Go.Proofs.YtfinddimpfiohaaGreatDoor.topAdmits
theorem f1:(Rows.topAdmitsRow.inPlace==Tryz.pinned.checked.prog.inPlace 3)=true:=by kernel_rfl
theorem f2:(Rows.topAdmitsRow.unfollowed==Tryz.pinned.checked.prog.unfollowed 3)=true:=by kernel_rfl
theorem f3:(Rows.topAdmitsRow.recurses==Tryz.pinned.checked.prog.recurses 3)=true:=by kernel_rfl
theorem f4:(Rows.topAdmitsRow.named==Tryz.pinned.checked.prog.varsNamed 3)=true:=by kernel_rfl
end Go.Proofs.YtfinddimpfiohaaGreatDoor.topAdmits
