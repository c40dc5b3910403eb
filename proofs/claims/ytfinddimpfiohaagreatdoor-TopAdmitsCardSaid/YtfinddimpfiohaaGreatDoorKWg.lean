/- Closed facts of the row. -/
import Derived.Test.YtfinddimpfiohaaGreatDoorKWa
namespace Go.Proofs.YtfinddimpfiohaaGreatDoor.topAdmits
theorem h3:false=Rows.topAdmitsRow.goesBy Tryz.pinned.checked.prog:=by kernel_rfl
theorem h4:Tryz.pinned.checked.prog.mainIs=some (true,"8979202aecc1fb84a17251d381766d28eed0b934a032a767109d1be13ad0c51f".toList):=by kernel_rfl
end Go.Proofs.YtfinddimpfiohaaGreatDoor.topAdmits
