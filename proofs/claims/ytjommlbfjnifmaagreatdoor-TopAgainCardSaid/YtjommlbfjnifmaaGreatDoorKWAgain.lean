/-
  TopAgain returns true for every input, and leaves its arguments as they were.
  No condition.
-/
import Derived.Test.YtjommlbfjnifmaaGreatDoorKWe
import Derived.Test.YtjommlbfjnifmaaGreatDoorKWf
import Derived.Test.YtjommlbfjnifmaaGreatDoorKWg
namespace Go.Proofs.YtjommlbfjnifmaaGreatDoor.topAgain
open Go.ChangeShapes Go.WideShapes Go.ChangeAt Go.RowKit
theorem proved : Rows.TopAgainCardSaid :=
  Claim7.holds_tied_plain_at .later [] [.data, .data, .data, .data, .pinned] true (true, "54e3f1d1e820d13594ace2a7ae14bbffea6dc783fdad2e79cb8dc3e8f70cff3c") false over (fun _ h => by cases h) h2 (fun _ h => by cases h) topAgain_row_tie rfl ⟨rfl, rfl⟩ h4 rfl
    (fun f fn hf hfn => by
      obtain rfl : f = 3 := Option.some.inj ((show Tryz.prog.funcNamed "recordlink/recordlinktop.TopAgain" = some 3 by kernel_rfl).symm.trans hf) |>.symm
      obtain rfl : fn = Tryz.f3 := (Option.some.inj (Tryz.func3.symm.trans hfn)).symm
      exact ⟨h1, fun j t ht => by
        rw [Tryz.params3] at ht
        have hm : t ∈ [22] := by simpa using Array.mem_of_getElem? ht
        have hall : ([22].all fun u => !Tryz.prog.wantsStandIn u) = true := by kernel_rfl
        exact (show Tryz.prog.wantsStandIn t = false by simpa using List.all_eq_true.1 hall t hm)⟩)
    h3
end Go.Proofs.YtjommlbfjnifmaaGreatDoor.topAgain
