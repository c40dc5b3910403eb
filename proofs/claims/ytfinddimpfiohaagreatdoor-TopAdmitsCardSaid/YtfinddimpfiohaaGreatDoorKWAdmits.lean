/-
  TopAdmits returns true for every input, and leaves its arguments as they were.
  No condition.
-/
import Derived.Test.YtfinddimpfiohaaGreatDoorKWe
import Derived.Test.YtfinddimpfiohaaGreatDoorKWf
import Derived.Test.YtfinddimpfiohaaGreatDoorKWg
namespace Go.Proofs.YtfinddimpfiohaaGreatDoor.topAdmits
open Go.ChangeShapes Go.WideShapes Go.ChangeAt Go.RowKit
theorem proved : Rows.TopAdmitsCardSaid :=
  Claim7.holds_tied_plain_at .later [] [.data, .data, .data, .data, .pinned] true (true, "8979202aecc1fb84a17251d381766d28eed0b934a032a767109d1be13ad0c51f") false over (fun _ h => by cases h) h2 (fun _ h => by cases h) topAdmits_row_tie rfl ⟨rfl, rfl⟩ h4 rfl
    (fun f fn hf hfn => by
      obtain rfl : f = 3 := Option.some.inj ((show Tryz.prog.funcNamed "recordlink/recordlinktop.TopAdmits" = some 3 by kernel_rfl).symm.trans hf) |>.symm
      obtain rfl : fn = Tryz.f3 := (Option.some.inj (Tryz.func3.symm.trans hfn)).symm
      exact ⟨h1, fun j t ht => by
        rw [Tryz.params3] at ht
        have hm : t ∈ [22] := by simpa using Array.mem_of_getElem? ht
        have hall : ([22].all fun u => !Tryz.prog.wantsStandIn u) = true := by kernel_rfl
        exact (show Tryz.prog.wantsStandIn t = false by simpa using List.all_eq_true.1 hall t hm)⟩)
    h3
end Go.Proofs.YtfinddimpfiohaaGreatDoor.topAdmits
