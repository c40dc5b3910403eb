/-
  The sanity check of chapter 39.
  No condition beyond those written in each theorem.
-/
import Derived.Test.YtnjjjmknmoenmaaKEj
open Go Sx Go.Proofs
set_option linter.unusedSimpArgs false
set_option linter.unusedVariables false
namespace Kx
@[reducible] def w1 : Ch := ⟨1, 1, [[97]], [], [], []⟩
@[reducible] def w2 : Ch := ⟨1, 1, [[97], [98]], [], [], []⟩
@[reducible] def w3 : Ch := ⟨1, 1, [[97], [98]], [(1, [97])], [], []⟩
@[reducible] def w4 : Ch := ⟨1, 1, [[97], [98]], [(1, [97]), (2, [98])], [], []⟩
@[reducible] def w5 : Ch := ⟨1, 1, [[97], [98]], [(1, [97])], [(2, [98])], [1]⟩
@[reducible] def w6 : Ch := ⟨1, 3, [[97], [98]], [], [], [1, 3]⟩
@[reducible] def w7 : Ch := ⟨3, 3, [], [], [], [1]⟩
theorem e1 : Ch.new.offer [97] = (w1, 0) := by kernel_rfl
theorem e2 : w1.offer [98] = (w2, 0) := by kernel_rfl
theorem e3 : w2.send 0 = (w3, 0) := by kernel_rfl
theorem e4 : w3.send 1 = (w4, 0) := by kernel_rfl
theorem e5 : w4.deliver 1 = (w5, [], 0) := by kernel_rfl
theorem e6 : w5.deliver 0 = (w6, [[97], [98]], 0) := by kernel_rfl
theorem e7 : w6.backM 1 = (w7, 0) := by kernel_rfl
theorem e8 : w7.chk = 0 := by kernel_rfl
theorem ok_w {c : Ch} (h : c.chk = 0) : c.ok := (Ch.good_of h).ok
theorem awake_ct : Ct Try.prog 9 [] fun r outs => r = .bool true ∧ outs = [] := by
  have c1 := offer_ct Ch.new new_good.ok [97]
  have c2 := offer_ct w1 (ok_w (by kernel_rfl)) [98]
  have c3 := send_ct w2 (ok_w (by kernel_rfl)) 0
  have c4 := send_ct w3 (ok_w (by kernel_rfl)) 1
  have c5 := deliver_ct w4 (ok_w (by kernel_rfl)) 1
  have c6 := deliver_ct w5 (ok_w (by kernel_rfl)) 0
  have c7 := back_ct w6 (ok_w (by kernel_rfl)) 1
  have c8 := idle_ct w7 (ok_w e8)
  have c9 := check_ct w7 (ok_w e8)
  rw [e1] at c1
  rw [e2] at c2
  rw [e3] at c3
  rw [e4] at c4
  rw [e5] at c5
  rw [e6] at c6
  rw [e7] at c7
  rw [show w7.idle = true by kernel_rfl] at c8
  rw [e8] at c9
  refine .det (.of_W (fn := Try.f9) hΓ hm Try.func9 [] [] (by kernel_rfl) (Step.out ?_))
  repeat' first
    | (refine Step.mk ?_; conv => whnf)
    | (refine Vc.om ?_ ?_; first | omega | with_reducible rfl | with_reducible exact same_rfl)
    | with_reducible trivial
    | (refine Br.dT ?_ ?_; omega)
    | (refine Met.by c1 ?_; rintro q outs ⟨rfl, rfl⟩)
    | (refine Met.by c2 ?_; rintro q outs ⟨rfl, rfl⟩)
    | (refine Met.by c3 ?_; rintro q outs ⟨rfl, rfl⟩)
    | (refine Met.by c4 ?_; rintro q outs ⟨rfl, rfl⟩)
    | (refine Met.by c5 ?_; rintro q outs ⟨rfl, rfl⟩)
    | (refine Met.by c6 ?_; rintro q outs ⟨rfl, rfl⟩)
    | (refine Met.by c7 ?_; rintro q outs ⟨rfl, rfl⟩)
    | (refine Met.by c8 ?_; rintro q outs ⟨rfl, rfl⟩)
    | (refine Met.by c9 ?_; rintro q outs ⟨rfl, rfl⟩)
    | (refine Br.d (fun h => ?_) (fun h => ?_))
    | (refine Br.mk (fun h => Step.out ?_) (fun h => Step.out ?_))
    | (refine Two.mk (Step.out ?_) (Step.out ?_))
    | (refine CallOK.ctF (g := 13) (Step.out ?_))
    | (refine CallOK.ctF (g := 14) (Step.out ?_))
    | (refine CallOK.ctF (g := 15) (Step.out ?_))
    | (refine CallOK.ctF (g := 16) (Step.out ?_))
    | (refine CallOK.ctF (g := 20) (Step.out ?_))
    | (refine CallOK.of_ct (Step.out ?_))
    | (refine Met.by (g := 17) (cnew_ct) ?_; rintro q outs ⟨rfl, rfl⟩)
end Kx
