/- Closed facts of the row. -/
import Derived.Test.YtjommlbfjnifmaaGreatDoorKWa
namespace Go.Proofs.YtjommlbfjnifmaaGreatDoor.topAgain
theorem h3:false=Rows.topAgainRow.goesBy Tryz.pinned.checked.prog:=by kernel_rfl
theorem h4:Tryz.pinned.checked.prog.mainIs=some (true,"54e3f1d1e820d13594ace2a7ae14bbffea6dc783fdad2e79cb8dc3e8f70cff3c".toList):=by kernel_rfl
end Go.Proofs.YtjommlbfjnifmaaGreatDoor.topAgain
