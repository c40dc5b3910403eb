/-
  The sanity check of chapter 39.
  No condition beyond those written in each theorem.
-/
import Derived.Test.YtnjjjmknmoenmaaKEj
open Go Sx Go.Proofs
set_option linter.unusedSimpArgs false
set_option linter.unusedVariables false
namespace Kx
@[reducible] def w1 : Ch := ⟨1, 1, [[97]], [], [], []⟩
@[reducible] def w2 : Ch := ⟨1, 1, [[97], [98]], [], [], []⟩
@[reducible] def w3 : Ch := ⟨1, 1, [[97], [98]], [(1, [97])], [], []⟩
@[reducible] def w4 : Ch := ⟨1, 1, [[97], [98]], [(1, [97]), (2, [98])], [], []⟩
@[reducible] def w5 : Ch := ⟨1, 1, [[97], [98]], [(1, [97])], [(2, [98])], [1]⟩
@[reducible] def w6 : Ch := ⟨1, 3, [[97], [98]], [], [], [1, 3]⟩
@[reducible] def w7 : Ch := ⟨3, 3, [], [], [], [1]⟩
theorem e1 : Ch.new.offer [97] = (w1, 0) := by kernel_rfl
theorem e2 : w1.offer [98] = (w2, 0) := by kernel_rfl
theorem e3 : w2.send 0 = (w3, 0) := by kernel_rfl
theorem e4 : w3.send 1 = (w4, 0) := by kernel_rfl
theorem e5 : w4.deliver 1 = (w5, [], 0) := by kernel_rfl
theorem e6 : w5.deliver 0 = (w6, [[97], [98]], 0) := by kernel_rfl
theorem e7 : w6.backM 1 = (w7, 0) := by kernel_rfl
theorem e8 : w7.chk = 0 := by kernel_rfl
theorem ok_w {c : Ch} (h : c.chk = 0) : c.ok := (Ch.good_of h).ok
theorem awake_ct : Ct Try.prog 9 [] fun r outs => r = .bool true ∧ outs = [] := by
  have c1 := offer_ct Ch.new new_good.ok [97]
  have c2 := offer_ct w1 (ok_w (by kernel_rfl)) [98]
  have c3 := send_ct w2 (ok_w (by kernel_rfl)) 0
  have c4 := send_ct w3 (ok_w (by kernel_rfl)) 1
  have c5 := deliver_ct w4 (ok_w (by kernel_rfl)) 1
  have c6 := deliver_ct w5 (ok_w (by kernel_rfl)) 0
  have c7 := back_ct w6 (ok_w (by kernel_rfl)) 1
  have c8 := idle_ct w7 (ok_w e8)
  have c9 := check_ct w7 (ok_w e8)
  rw [e1] at c1
  rw [e2] at c2
  rw [e3] at c3
  rw [e4] at c4
  rw [e5] at c5
  rw [e6] at c6
  rw [e7] at c7
  rw [show w7.idle = true by kernel_rfl] at c8
  rw [e8] at c9
  refine .det (.of_W (fn := Try.f9) hΓ hm Try.func9 [] [] (by kernel_rfl) (Step.out ?_))
  repeat' first
    | (refine Step.mk ?_; conv => whnf)
    | (refine Vc.om ?_ ?_; first | omega | with_reducible rfl | with_reducible exact same_rfl | (simp only [bytes_2, bytes_3, bytes_4, bytes_5, bytes_9, bytes_12, bytes_21, bytes_22, bytes_25, bytes_27, bytes_28, bytes_29, bytes_30, bytes_33, bytes_42, bytes_43, bytes_47, bytes_51, bytes_52, bytes_53, bytes_57, bytes_58, bytes_59, bytes_73, bytes_91, bytes_104, bytes_108, bytes_111, true_and, and_true] <;> omega))
    | (refine NilB.mk fun b hb => Step.out ?_)
    | with_reducible trivial
    | exact noSh_bool _
    | exact noSh_lit _
    | exact noSh_int _ _
    | exact noSh_str _
    | with_reducible rfl
    | with_reducible exact same_rfl
    | (refine Wr.i64 ?_ ?_; omega)
    | (refine Wr.u8 ?_ ?_; omega)
    | (refine Wr.i32 ?_ ?_; omega)
    | (with_reducible refine Br.tt ?_)
    | (with_reducible refine Br.ff ?_)
    | (refine Br.dT ?_ ?_; omega)
    | (refine Br.dF ?_ ?_; omega)
    | (refine Met.by c1 ?_; rintro q outs ⟨rfl, rfl⟩)
    | (refine Met.by c2 ?_; rintro q outs ⟨rfl, rfl⟩)
    | (refine Met.by c3 ?_; rintro q outs ⟨rfl, rfl⟩)
    | (refine Met.by c4 ?_; rintro q outs ⟨rfl, rfl⟩)
    | (refine Met.by c5 ?_; rintro q outs ⟨rfl, rfl⟩)
    | (refine Met.by c6 ?_; rintro q outs ⟨rfl, rfl⟩)
    | (refine Met.by c7 ?_; rintro q outs ⟨rfl, rfl⟩)
    | (refine Met.by c8 ?_; rintro q outs ⟨rfl, rfl⟩)
    | (refine Met.by c9 ?_; rintro q outs ⟨rfl, rfl⟩)
    | (refine Br.d (fun h => ?_) (fun h => ?_))
    | (refine Br.swap ?_)
    | (refine Br.bnot ?_)
    | (refine Br.mk (fun h => Step.out ?_) (fun h => Step.out ?_))
    | (refine Two.mk (Step.out ?_) (Step.out ?_))
    | (refine Cp.mk fun q hq => Step.out ?_)
    | (refine Ovl.mk (by assumption) (Step.out ?_))
    | (refine CallOK.ctF (g := 13) (Step.out ?_))
    | (refine CallOK.ctF (g := 14) (Step.out ?_))
    | (refine CallOK.ctF (g := 15) (Step.out ?_))
    | (refine CallOK.ctF (g := 16) (Step.out ?_))
    | (refine CallOK.ctF (g := 20) (Step.out ?_))
    | (refine CallOK.of_ct (Step.out ?_))
    | (refine CallQ.of_ct (Step.out ?_))
    | (refine Met.by (g := 13) (idle_ct _ (by assumption)) ?_; rintro q outs ⟨rfl, rfl⟩)
    | (refine Met.by (g := 14) (deliver_ct _ (by assumption) _) ?_; rintro q outs ⟨rfl, rfl⟩)
    | (refine Met.by (g := 15) (back_ct _ (by assumption) _) ?_; rintro q outs ⟨rfl, rfl⟩)
    | (refine Met.by (g := 16) (send_ct _ (by assumption) _) ?_; rintro q outs ⟨rfl, rfl⟩)
    | (refine Met.by (g := 17) (cnew_ct) ?_; rintro q outs ⟨rfl, rfl⟩)
    | (refine Met.by (g := 19) (check_ct _ (by assumption)) ?_; rintro q outs ⟨rfl, rfl⟩)
    | (refine Met.by (g := 20) (offer_ct _ (by assumption) _) ?_; rintro q outs ⟨rfl, rfl⟩)
    | (refine Vc.mk ?_ (Step.out ?_))
end Kx
