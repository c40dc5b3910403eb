/- The row holds. -/
import Derived.Test.YtjommlbfjnifmaaGreatDoorKWb
import Derived.Test.YtjommlbfjnifmaaGreatDoorKWd
namespace Go.Proofs.YtjommlbfjnifmaaGreatDoor.topAgain
open Go.ChangeShapes Go.WideShapes Go.ChangeAt Go.RowKit
theorem closed:joinedFacts Tryz.pinned.checked.prog 3 Tryz.f3 Rows.topAgainSpec Rows.topAgainRow=true:=by
 unfold joinedFacts
 rw [f1,f2,f3,f4,g1,g2,g3,g4,g5,g6]
 kernel_rfl
theorem over : Rows.topAgainRow.holds Tryz.pinned (OpenSpec.ofChange Rows.topAgainSpec) :=
  OpenClaim.holds_of_wide 3 Tryz.f3 rfl rfl rfl rfl rfl rfl rfl ⟨rfl, rfl, rfl, rfl, rfl⟩ rfl rfl rfl rfl rfl (by kernel_rfl) Tryz.func3 closed
    (of_decide_eq_true (by kernel_rfl)) (by unfold Func.isWrapper; first | (rw [if_pos (by decide +kernel)]; kernel_rfl) | (rw [if_neg (by decide +kernel)]; exact ⟨rfl, rfl⟩))
    (fun os started H enc _ => lifted os started H enc)
end Go.Proofs.YtjommlbfjnifmaaGreatDoor.topAgain
