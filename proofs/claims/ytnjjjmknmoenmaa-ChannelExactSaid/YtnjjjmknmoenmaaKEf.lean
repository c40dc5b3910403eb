/-
  recordlinkref39: Offer, Send, Lose, Repeat, LoseBack, Back.
  No condition beyond those written in each theorem.
-/
import Derived.Test.YtnjjjmknmoenmaaKEe
open Go Sx Go.Proofs
set_option linter.unusedSimpArgs false
set_option linter.unusedVariables false
namespace Kx
theorem del_app {α : Type} (F : α → List D) (z : α) (hF : ∀ x y, sameL (F x) (F y) = true) (l : List α) {k : Nat} (h : k < l.length) :
    (k : Int).toNat - Int.toNat 0 + ((l.length : Int).toNat - ((k : Int) + 1).toNat) = (l.take k ++ l.drop (k + 1)).length ∧
    ∀ q, q < (l.take k ++ l.drop (k + 1)).length → iteL (q < (k : Int).toNat - Int.toNat 0) (F (l.getD (Int.toNat 0 + q) z)) (F (l.getD (((k : Int) + 1).toNat + (q - ((k : Int).toNat - Int.toNat 0))) z)) = F ((l.take k ++ l.drop (k + 1)).getD q z) := by
  have := del_all F z hF l (i := k) (j := k + 1) (by omega) (by omega)
  refine ⟨this.1, fun q hq => ?_⟩
  have h1 := this.2 q hq
  rw [Nat.zero_add] at h1
  rw [show Int.toNat 0 + q = q from Nat.zero_add q]
  exact h1
theorem rat_ct (c : Ch) (hc : c.ok) (i : Int) : Ct Try.prog 54 [c.d, i64 i] fun r outs => r = i64 (c.err i c.there.length) ∧ outs = [] := by
  have hc' := hc
  obtain ⟨h1, h2, h3, h4, h5, h6⟩ := hc
  refine .det (.of_W (fn := Try.f54) hΓ hm Try.func54 [] [] (by kernel_rfl) (Step.out ?_))
  repeat' first
    | (refine Step.mk ?_; conv => whnf)
    | with_reducible trivial
    | (refine Br.d (fun h => ?_) (fun h => ?_))
    | (refine Br.swap ?_)
    | (refine Br.bnot ?_)
    | (refine Two.mk (Step.out ?_) (Step.out ?_))
    | (refine CallOK.of_ct (Step.out ?_))
    | (refine Met.by (g := 24) (rcheck_ct _ (by assumption)) ?_; rintro q outs ⟨rfl, rfl⟩)
  all_goals rw [Ch.err]
  all_goals first
    | (rw [if_pos (by omega)] <;> rfl)
    | (rw [if_neg (by omega), if_pos (by omega)] <;> rfl)
    | (rw [if_neg (by omega), if_neg (by omega)] <;> rfl)
theorem roffer_ct (c : Ch) (hc : c.ok) (p : Str) : Ct Try.prog 26 [c.d, .str p] fun r outs => r = .tup [(c.offer p).1.o, i64 (c.offer p).2] ∧ outs = [] := by
  have hc' := hc
  obtain ⟨h1, h2, h3, h4, h5, h6⟩ := hc
  unfold Ch.offer
  split
  · refine .det (.of_W (fn := Try.f26) hΓ hm Try.func26 [] [] (by kernel_rfl) (Step.out ?_))
    repeat' first
      | (refine Step.mk ?_; conv => whnf)
      | with_reducible trivial
      | (refine Br.dF ?_ ?_; omega)
      | (refine Br.bnot ?_)
      | (refine Two.mk (Step.out ?_) (Step.out ?_))
      | (refine CallOK.of_ct (Step.out ?_))
      | (refine Met.by (g := 24) (rcheck_ct _ (by assumption)) ?_; rintro q outs ⟨rfl, rfl⟩)
    all_goals rfl
  · rename_i hz
    have g := Ch.good_of (Classical.not_not.1 hz)
    have := g.w
    refine .det (.of_W (fn := Try.f26) hΓ hm Try.func26 [] [] (by kernel_rfl) (Step.out ?_))
    repeat' first
      | (refine Step.mk ?_; conv => whnf)
      | (refine Vc.om ?_ ?_; (simp only [bytes_2, bytes_3, bytes_4, bytes_5, bytes_9, bytes_12, bytes_21, bytes_22, bytes_25, bytes_27, bytes_28, bytes_29, bytes_30, bytes_33, bytes_42, bytes_43, bytes_47, bytes_51, bytes_52, bytes_53, bytes_57, bytes_58, bytes_59, bytes_73, bytes_91, bytes_104, bytes_108, true_and, and_true] <;> omega))
      | with_reducible trivial
      | (refine Wr.i64 ?_ ?_; omega)
      | (refine Br.dT ?_ ?_; omega)
      | (refine Br.d (fun h => ?_) (fun h => ?_))
      | (refine Br.swap ?_)
      | (refine Br.bnot ?_)
      | (refine Two.mk (Step.out ?_) (Step.out ?_))
      | (refine CallOK.of_ct (Step.out ?_))
      | (refine Met.by (g := 24) (rcheck_ct _ (by assumption)) ?_; rintro q outs ⟨rfl, rfl⟩)
      | (refine Met.by (g := 52) (copied_ct _ (by assumption)) ?_; rintro q outs ⟨rfl, rfl⟩)
    all_goals first
      | (rw [if_pos (by omega)] <;> rfl)
      | (rw [if_neg (by omega)] <;> rfl)
      | (rw [if_neg (by omega)]; exact ⟨rfl, fun _ _ => rfl⟩)
      | (rw [if_neg (by omega)]; exact app1 stF [] stF_same _ _)
theorem rsend_ct (c : Ch) (hc : c.ok) (i : Int) : Ct Try.prog 28 [c.d, i64 i] fun r outs => r = .tup [(c.send i).1.o, i64 (c.send i).2] ∧ outs = [] := by
  have hc' := hc
  obtain ⟨h1, h2, h3, h4, h5, h6⟩ := hc
  unfold Ch.send
  split
  · refine .det (.of_W (fn := Try.f28) hΓ hm Try.func28 ord28 [] (by kernel_rfl) (Step.out ?_))
    repeat' first
      | (refine Step.mk ?_; conv => whnf)
      | with_reducible trivial
      | (refine Br.dF ?_ ?_; omega)
      | (refine Br.bnot ?_)
      | (refine Two.mk (Step.out ?_) (Step.out ?_))
      | (refine CallOK.of_ct (Step.out ?_))
      | (refine Met.by (g := 24) (rcheck_ct _ (by assumption)) ?_; rintro q outs ⟨rfl, rfl⟩)
    all_goals rfl
  · rename_i hz
    have g := Ch.good_of (Classical.not_not.1 hz)
    have := g.t
    refine .det (.of_W (fn := Try.f28) hΓ hm Try.func28 ord28 [] (by kernel_rfl) (Step.out ?_))
    repeat' first
      | (refine Step.mk ?_; conv => whnf)
      | (refine Vc.om ?_ ?_; first | omega | with_reducible rfl | with_reducible exact same_rfl)
      | (refine Vc.om ?_ ?_; (simp only [bytes_2, bytes_3, bytes_4, bytes_5, bytes_9, bytes_12, bytes_21, bytes_22, bytes_25, bytes_27, bytes_28, bytes_29, bytes_30, bytes_33, bytes_42, bytes_43, bytes_47, bytes_51, bytes_52, bytes_53, bytes_57, bytes_58, bytes_59, bytes_73, bytes_91, bytes_104, bytes_108, true_and, and_true] <;> omega))
      | with_reducible trivial
      | (refine Wr.i64 ?_ ?_; omega)
      | (refine Br.dT ?_ ?_; omega)
      | (refine Br.d (fun h => ?_) (fun h => ?_))
      | (refine Br.swap ?_)
      | (refine Br.bnot ?_)
      | (refine Two.mk (Step.out ?_) (Step.out ?_))
      | (refine CallOK.of_ct (Step.out ?_))
      | (refine Met.by (g := 24) (rcheck_ct _ (by assumption)) ?_; rintro q outs ⟨rfl, rfl⟩)
      | (refine Met.by (g := 52) (copied_ct _ (by assumption)) ?_; rintro q outs ⟨rfl, rfl⟩)
    all_goals first
      | (rw [if_pos (by omega)] <;> rfl)
      | (rw [if_neg (by omega), if_pos (by omega)] <;> rfl)
      | (rw [if_neg (by omega), if_neg (by omega)] <;> rfl)
      | (rw [if_neg (by omega), if_neg (by omega)]; exact ⟨rfl, fun _ _ => rfl⟩)
      | (rw [if_neg (by omega), if_neg (by omega)]; exact app1 pkF (0, []) pkF_same _ _)
theorem rlose_ct (c : Ch) (hc : c.ok) (i : Int) : Ct Try.prog 30 [c.d, i64 i] fun r outs => r = .tup [(c.lose i).1.o, i64 (c.lose i).2] ∧ outs = [] := by
  have hc' := hc
  obtain ⟨h1, h2, h3, h4, h5, h6⟩ := hc
  unfold Ch.lose
  split
  · rename_i he
    refine .det (.of_W (fn := Try.f30) hΓ hm Try.func30 ord30 [] (by kernel_rfl) (Step.out ?_))
    repeat' first
      | (refine Step.mk ?_; conv => whnf)
      | with_reducible trivial
      | (refine Br.dF ?_ ?_; omega)
      | (refine Br.bnot ?_)
      | (refine Two.mk (Step.out ?_) (Step.out ?_))
      | (refine CallOK.of_ct (Step.out ?_))
      | (refine Met.by (g := 54) (rat_ct _ (by assumption) _) ?_; rintro q outs ⟨rfl, rfl⟩)
    all_goals rfl
  · rename_i he
    have he := Classical.not_not.1 he
    obtain ⟨e0, e1, e2⟩ := Ch.err0 he
    obtain ⟨k, rfl⟩ := Int.eq_ofNat_of_zero_le e1
    refine .det (.of_W (fn := Try.f30) hΓ hm Try.func30 ord30 [] (by kernel_rfl) (Step.out ?_))
    repeat' first
      | (refine Step.mk ?_; conv => whnf)
      | (refine Vc.om ?_ ?_; first | omega | with_reducible rfl | with_reducible exact same_rfl)
      | (refine Vc.om ?_ ?_; (simp only [bytes_2, bytes_3, bytes_4, bytes_5, bytes_9, bytes_12, bytes_21, bytes_22, bytes_25, bytes_27, bytes_28, bytes_29, bytes_30, bytes_33, bytes_42, bytes_43, bytes_47, bytes_51, bytes_52, bytes_53, bytes_57, bytes_58, bytes_59, bytes_73, bytes_91, bytes_104, bytes_108, true_and, and_true] <;> omega))
      | with_reducible trivial
      | with_reducible exact same_rfl
      | (refine Wr.i64 ?_ ?_; omega)
      | (refine Br.dT ?_ ?_; omega)
      | (rw [he])
      | (refine Br.bnot ?_)
      | (refine Two.mk (Step.out ?_) (Step.out ?_))
      | (refine CallOK.of_ct (Step.out ?_))
      | (refine Met.by (g := 52) (copied_ct _ (by assumption)) ?_; rintro q outs ⟨rfl, rfl⟩)
      | (refine Met.by (g := 54) (rat_ct _ (by assumption) _) ?_; rintro q outs ⟨rfl, rfl⟩)
    all_goals exact del_app pkF (0, []) pkF_same _ (by omega)
theorem rrepeat_ct (c : Ch) (hc : c.ok) (i : Int) : Ct Try.prog 32 [c.d, i64 i] fun r outs => r = .tup [(c.repeat i).1.o, i64 (c.repeat i).2] ∧ outs = [] := by
  have hc' := hc
  obtain ⟨h1, h2, h3, h4, h5, h6⟩ := hc
  unfold Ch.repeat
  split
  · rename_i he
    refine .det (.of_W (fn := Try.f32) hΓ hm Try.func32 ord32 [] (by kernel_rfl) (Step.out ?_))
    repeat' first
      | (refine Step.mk ?_; conv => whnf)
      | with_reducible trivial
      | (refine Br.dF ?_ ?_; omega)
      | (refine Br.bnot ?_)
      | (refine Two.mk (Step.out ?_) (Step.out ?_))
      | (refine CallOK.of_ct (Step.out ?_))
      | (refine Met.by (g := 54) (rat_ct _ (by assumption) _) ?_; rintro q outs ⟨rfl, rfl⟩)
    all_goals rfl
  · rename_i he
    have he := Classical.not_not.1 he
    obtain ⟨e0, e1, e2⟩ := Ch.err0 he
    have g := (Ch.good_of e0).t
    refine .det (.of_W (fn := Try.f32) hΓ hm Try.func32 ord32 [] (by kernel_rfl) (Step.out ?_))
    repeat' first
      | (refine Step.mk ?_; conv => whnf)
      | (refine Vc.om ?_ ?_; first | omega | with_reducible rfl | with_reducible exact same_rfl)
      | (refine Vc.om ?_ ?_; (simp only [bytes_2, bytes_3, bytes_4, bytes_5, bytes_9, bytes_12, bytes_21, bytes_22, bytes_25, bytes_27, bytes_28, bytes_29, bytes_30, bytes_33, bytes_42, bytes_43, bytes_47, bytes_51, bytes_52, bytes_53, bytes_57, bytes_58, bytes_59, bytes_73, bytes_91, bytes_104, bytes_108, true_and, and_true] <;> omega))
      | with_reducible trivial
      | (refine Br.dT ?_ ?_; omega)
      | (refine Br.d (fun h => ?_) (fun h => ?_))
      | (refine Br.bnot ?_)
      | (refine Two.mk (Step.out ?_) (Step.out ?_))
      | (refine CallOK.of_ct (Step.out ?_))
      | (refine Met.by (g := 52) (copied_ct _ (by assumption)) ?_; rintro q outs ⟨rfl, rfl⟩)
      | (refine Met.by (g := 54) (rat_ct _ (by assumption) _) ?_; rintro q outs ⟨rfl, rfl⟩)
    all_goals first
      | (rw [if_pos (by omega)] <;> rfl)
      | (rw [if_neg (by omega)] <;> rfl)
      | (rw [if_neg (by omega)]; exact ⟨rfl, fun _ _ => rfl⟩)
      | (rw [if_neg (by omega)]; exact app1 pkF (0, []) pkF_same _ _)
theorem rloseB_ct (c : Ch) (hc : c.ok) (i : Int) : Ct Try.prog 35 [c.d, i64 i] fun r outs => r = .tup [(c.loseB i).1.o, i64 (c.loseB i).2] ∧ outs = [] := by
  have hc' := hc
  obtain ⟨h1, h2, h3, h4, h5, h6⟩ := hc
  unfold Ch.loseB
  split
  · rename_i he
    rcases Ch.err1 he with ⟨e1, e2⟩ | ⟨e1, e2, e3⟩
    · rw [e2]
      refine .det (.of_W (fn := Try.f35) hΓ hm Try.func35 ord35 [] (by kernel_rfl) (Step.out ?_))
      repeat' first
        | (refine Step.mk ?_; conv => whnf)
        | with_reducible trivial
        | (refine Br.dF ?_ ?_; omega)
        | (refine Br.bnot ?_)
        | (refine Two.mk (Step.out ?_) (Step.out ?_))
        | (refine CallOK.of_ct (Step.out ?_))
        | (refine Met.by (g := 24) (rcheck_ct _ (by assumption)) ?_; rintro q outs ⟨rfl, rfl⟩)
      all_goals rfl
    · rw [e2]
      refine .det (.of_W (fn := Try.f35) hΓ hm Try.func35 ord35 [] (by kernel_rfl) (Step.out ?_))
      repeat' first
        | (refine Step.mk ?_; conv => whnf)
        | with_reducible trivial
        | (refine Br.dT ?_ ?_; omega)
        | (refine Br.d (fun h => ?_) (fun h => ?_))
        | (refine Br.swap ?_)
        | (refine Br.bnot ?_)
        | (refine Two.mk (Step.out ?_) (Step.out ?_))
        | (refine CallOK.of_ct (Step.out ?_))
        | (refine Met.by (g := 24) (rcheck_ct _ (by assumption)) ?_; rintro q outs ⟨rfl, rfl⟩)
      all_goals rfl
  · rename_i he
    have he := Classical.not_not.1 he
    obtain ⟨e0, e1, e2⟩ := Ch.err0 he
    obtain ⟨k, rfl⟩ := Int.eq_ofNat_of_zero_le e1
    refine .det (.of_W (fn := Try.f35) hΓ hm Try.func35 ord35 [] (by kernel_rfl) (Step.out ?_))
    repeat' first
      | (refine Step.mk ?_; conv => whnf)
      | (refine Vc.om ?_ ?_; first | omega | with_reducible rfl | with_reducible exact same_rfl)
      | (refine Vc.om ?_ ?_; (simp only [bytes_2, bytes_3, bytes_4, bytes_5, bytes_9, bytes_12, bytes_21, bytes_22, bytes_25, bytes_27, bytes_28, bytes_29, bytes_30, bytes_33, bytes_42, bytes_43, bytes_47, bytes_51, bytes_52, bytes_53, bytes_57, bytes_58, bytes_59, bytes_73, bytes_91, bytes_104, bytes_108, true_and, and_true] <;> omega))
      | with_reducible trivial
      | with_reducible exact same_rfl
      | (refine Wr.i64 ?_ ?_; omega)
      | (refine Br.dT ?_ ?_; omega)
      | (refine Br.dF ?_ ?_; omega)
      | (refine Br.swap ?_)
      | (refine Br.bnot ?_)
      | (refine Two.mk (Step.out ?_) (Step.out ?_))
      | (refine CallOK.of_ct (Step.out ?_))
      | (refine Met.by (g := 24) (rcheck_ct _ (by assumption)) ?_; rintro q outs ⟨rfl, rfl⟩)
      | (refine Met.by (g := 52) (copied_ct _ (by assumption)) ?_; rintro q outs ⟨rfl, rfl⟩)
    all_goals exact del_app inF 0 inF_same _ (by omega)
theorem cut_str (l : List Str) (n : Int) : (l.length : Int).toNat - n.toNat = (l.drop n.toNat).length ∧ ∀ i, i < (l.drop n.toNat).length → [D.str (l.getD (n.toNat + i) [])] = [D.str ((l.drop n.toNat).getD i [])] := by
  refine ⟨by simp, fun i _ => ?_⟩
  simp only [List.getD_eq_getElem?_getD, List.getElem?_drop]
theorem rback_ct (c : Ch) (hc : c.ok) (i : Int) : Ct Try.prog 33 [c.d, i64 i] fun r outs => r = .tup [(c.backM i).1.d, i64 (c.backM i).2] ∧ outs = [] := by
  have hc' := hc
  obtain ⟨h1, h2, h3, h4, h5, h6⟩ := hc
  have hl := rloseB_ct c hc' i
  unfold Ch.backM
  split
  · rename_i he
    rw [Ch.loseB, if_pos he] at hl
    refine .det (.of_W (fn := Try.f33) hΓ hm Try.func33 [] [] (by kernel_rfl) (Step.out ?_))
    repeat' first
      | (refine Step.mk ?_; conv => whnf)
      | with_reducible trivial
      | (refine Br.dF ?_ ?_; omega)
      | (refine Met.by hl ?_; rintro q outs ⟨rfl, rfl⟩)
      | (refine Br.bnot ?_)
      | (refine Two.mk (Step.out ?_) (Step.out ?_))
      | (refine CallOK.ctF (g := 35) (Step.out ?_))
    all_goals rfl
  · rename_i he
    rw [Ch.loseB, if_neg he] at hl
    have he := Classical.not_not.1 he
    obtain ⟨e0, e1, e2⟩ := Ch.err0 he
    have g := Ch.good_of e0
    obtain ⟨k, rfl⟩ := Int.eq_ofNat_of_zero_le e1
    have gk := g.kr (c.back.getD (k : Int).toNat 0) (getD_mem (by omega))
    have hr : c.reach = c.base + min (c.wait.length : Int) 4 := rfl
    have ge := g.e2
    rw [Ch.ack]
    split
    · rename_i hb
      have hb : c.base < c.back.getD (k : Int).toNat 0 := hb
      refine .det (.of_W (fn := Try.f33) hΓ hm Try.func33 [] [] (by kernel_rfl) (Step.out ?_))
      repeat' first
        | (refine Step.mk ?_; conv => whnf)
        | (refine Vc.om ?_ ?_; first | omega | with_reducible rfl | with_reducible exact same_rfl)
        | (refine Vc.om ?_ ?_; (simp only [bytes_2, bytes_3, bytes_4, bytes_5, bytes_9, bytes_12, bytes_21, bytes_22, bytes_25, bytes_27, bytes_28, bytes_29, bytes_30, bytes_33, bytes_42, bytes_43, bytes_47, bytes_51, bytes_52, bytes_53, bytes_57, bytes_58, bytes_59, bytes_73, bytes_91, bytes_104, bytes_108, true_and, and_true] <;> omega))
        | with_reducible trivial
        | with_reducible exact same_rfl
        | (refine Br.dT ?_ ?_; omega)
        | (refine Met.by hl ?_; rintro q outs ⟨rfl, rfl⟩)
        | (refine Wr.i64 ?_ ?_; focus (dsimp only; omega; done))
        | (refine Br.bnot ?_)
        | (refine Two.mk (Step.out ?_) (Step.out ?_))
        | (refine CallOK.ctF (g := 35) (Step.out ?_))
      all_goals exact cut_str _ _
    · rename_i hb
      have hb : ¬c.base < c.back.getD (k : Int).toNat 0 := hb
      refine .det (.of_W (fn := Try.f33) hΓ hm Try.func33 [] [] (by kernel_rfl) (Step.out ?_))
      repeat' first
        | (refine Step.mk ?_; conv => whnf)
        | (refine Vc.om ?_ ?_; first | omega | with_reducible rfl | with_reducible exact same_rfl)
        | with_reducible trivial
        | with_reducible exact same_rfl
        | (refine Br.dT ?_ ?_; omega)
        | (refine Br.dF ?_ ?_; omega)
        | (refine Met.by hl ?_; rintro q outs ⟨rfl, rfl⟩)
        | (refine Br.bnot ?_)
        | (refine Two.mk (Step.out ?_) (Step.out ?_))
        | (refine CallOK.ctF (g := 35) (Step.out ?_))
end Kx
