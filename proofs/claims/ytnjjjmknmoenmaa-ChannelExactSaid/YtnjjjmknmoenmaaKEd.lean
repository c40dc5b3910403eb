/-
  channel: Offer, Send, Lose, Repeat, Back, LoseBack.
  No condition beyond those written in each theorem.
-/
import Derived.Test.YtnjjjmknmoenmaaKEc
open Go Sx Go.Proofs
set_option linter.unusedSimpArgs false
set_option linter.unusedVariables false
namespace Kx
theorem app1 {α : Type} (F : α → List D) (z : α) (hF : ∀ x y, sameL (F x) (F y) = true) (l : List α) (x : α) :
    l.length + 1 = (l ++ [x]).length ∧ ∀ i, i < (l ++ [x]).length → iteL (i < l.length) (F (l.getD i z)) (selC [F x] (i - l.length)) = F ((l ++ [x]).getD i z) := by
  refine ⟨by simp, fun i hi => ?_⟩
  have hi : i < l.length + 1 := by simpa using hi
  by_cases h : i < l.length
  · rw [show selC [F x] (i - l.length) = F x by rw [show i - l.length = 0 by omega]; rfl, iteL_same (hF _ _), if_pos h, getD_app, if_pos h]
  · rw [show i = l.length by omega, Nat.sub_self, show selC [F x] 0 = F x from rfl, iteL_same (hF _ _), if_neg (by omega), getD_app, if_neg (by omega), Nat.sub_self]; rfl
theorem offer_ct (c : Ch) (hc : c.ok) (p : Str) : Ct Try.prog 20 [c.d, .str p] fun r outs => r = .tup [(c.offer p).1.o, i64 (c.offer p).2] ∧ outs = [] := by
  have hc' := hc
  obtain ⟨h1, h2, h3, h4, h5, h6⟩ := hc
  unfold Ch.offer
  split
  · refine .det (.of_W (fn := Try.f20) hΓ hm Try.func20 [] [] (by kernel_rfl) (Step.out ?_))
    repeat' first
      | (refine Step.mk ?_; conv => whnf)
      | with_reducible trivial
      | (refine Br.dF ?_ ?_; omega)
      | (refine Br.bnot ?_)
      | (refine Two.mk (Step.out ?_) (Step.out ?_))
      | (refine CallOK.of_ct (Step.out ?_))
      | (refine Met.by (g := 19) (check_ct _ (by assumption)) ?_; rintro q outs ⟨rfl, rfl⟩)
    all_goals rfl
  · rename_i hz
    have g := Ch.good_of (Classical.not_not.1 hz)
    have := g.w
    refine .det (.of_W (fn := Try.f20) hΓ hm Try.func20 [] [] (by kernel_rfl) (Step.out ?_))
    repeat' first
      | (refine Step.mk ?_; conv => whnf)
      | (refine Vc.om ?_ ?_; (simp only [bytes_2, bytes_3, bytes_4, bytes_5, bytes_9, bytes_12, bytes_21, bytes_22, bytes_25, bytes_27, bytes_28, bytes_29, bytes_30, bytes_33, bytes_42, bytes_43, bytes_47, bytes_51, bytes_52, bytes_53, bytes_57, bytes_58, bytes_59, bytes_73, bytes_91, bytes_104, bytes_108, true_and, and_true] <;> omega))
      | with_reducible trivial
      | (refine Wr.i64 ?_ ?_; omega)
      | (refine Br.dT ?_ ?_; omega)
      | (refine Br.d (fun h => ?_) (fun h => ?_))
      | (refine Br.swap ?_)
      | (refine Br.bnot ?_)
      | (refine Two.mk (Step.out ?_) (Step.out ?_))
      | (refine CallOK.of_ct (Step.out ?_))
      | (refine Met.by (g := 19) (check_ct _ (by assumption)) ?_; rintro q outs ⟨rfl, rfl⟩)
      | (refine Met.by (g := 46) (fresh_ct _ (by assumption)) ?_; rintro q outs ⟨rfl, rfl⟩)
    all_goals first
      | (rw [if_pos (by omega)] <;> rfl)
      | (rw [if_neg (by omega)] <;> rfl)
      | (rw [if_neg (by omega)]; exact ⟨rfl, fun _ _ => rfl⟩)
      | (rw [if_neg (by omega)]; exact app1 stF [] stF_same _ _)
      | (rw [if_neg (by omega)]; exact app1 pkF (0, []) pkF_same _ _)
      | (rw [if_neg (by omega), if_pos (by omega)] <;> rfl)
      | (rw [if_neg (by omega), if_neg (by omega)] <;> rfl)
      | (rw [if_neg (by omega), if_neg (by omega)]; exact ⟨rfl, fun _ _ => rfl⟩)
      | (rw [if_neg (by omega), if_neg (by omega)]; exact app1 pkF (0, []) pkF_same _ _)
theorem send_ct (c : Ch) (hc : c.ok) (i : Int) : Ct Try.prog 16 [c.d, i64 i] fun r outs => r = .tup [(c.send i).1.o, i64 (c.send i).2] ∧ outs = [] := by
  have hc' := hc
  obtain ⟨h1, h2, h3, h4, h5, h6⟩ := hc
  unfold Ch.send
  split
  · refine .det (.of_W (fn := Try.f16) hΓ hm Try.func16 ord16 [] (by kernel_rfl) (Step.out ?_))
    repeat' first
      | (refine Step.mk ?_; conv => whnf)
      | with_reducible trivial
      | (refine Br.dF ?_ ?_; omega)
      | (refine Br.bnot ?_)
      | (refine Two.mk (Step.out ?_) (Step.out ?_))
      | (refine CallOK.of_ct (Step.out ?_))
      | (refine Met.by (g := 19) (check_ct _ (by assumption)) ?_; rintro q outs ⟨rfl, rfl⟩)
    all_goals rfl
  · rename_i hz
    have g := Ch.good_of (Classical.not_not.1 hz)
    have := g.t
    refine .det (.of_W (fn := Try.f16) hΓ hm Try.func16 ord16 [] (by kernel_rfl) (Step.out ?_))
    repeat' first
      | (refine Step.mk ?_; conv => whnf)
      | (refine Vc.om ?_ ?_; first | omega | with_reducible rfl | with_reducible exact same_rfl)
      | (refine Vc.om ?_ ?_; (simp only [bytes_2, bytes_3, bytes_4, bytes_5, bytes_9, bytes_12, bytes_21, bytes_22, bytes_25, bytes_27, bytes_28, bytes_29, bytes_30, bytes_33, bytes_42, bytes_43, bytes_47, bytes_51, bytes_52, bytes_53, bytes_57, bytes_58, bytes_59, bytes_73, bytes_91, bytes_104, bytes_108, true_and, and_true] <;> omega))
      | with_reducible trivial
      | (refine Wr.i64 ?_ ?_; omega)
      | (refine Br.dT ?_ ?_; omega)
      | (refine Br.d (fun h => ?_) (fun h => ?_))
      | (refine Br.swap ?_)
      | (refine Br.bnot ?_)
      | (refine Two.mk (Step.out ?_) (Step.out ?_))
      | (refine CallOK.of_ct (Step.out ?_))
      | (refine Met.by (g := 19) (check_ct _ (by assumption)) ?_; rintro q outs ⟨rfl, rfl⟩)
      | (refine Met.by (g := 46) (fresh_ct _ (by assumption)) ?_; rintro q outs ⟨rfl, rfl⟩)
    all_goals first
      | (rw [if_pos (by omega)] <;> rfl)
      | (rw [if_neg (by omega)] <;> rfl)
      | (rw [if_neg (by omega)]; exact ⟨rfl, fun _ _ => rfl⟩)
      | (rw [if_neg (by omega)]; exact app1 stF [] stF_same _ _)
      | (rw [if_neg (by omega)]; exact app1 pkF (0, []) pkF_same _ _)
      | (rw [if_neg (by omega), if_pos (by omega)] <;> rfl)
      | (rw [if_neg (by omega), if_neg (by omega)] <;> rfl)
      | (rw [if_neg (by omega), if_neg (by omega)]; exact ⟨rfl, fun _ _ => rfl⟩)
      | (rw [if_neg (by omega), if_neg (by omega)]; exact app1 pkF (0, []) pkF_same _ _)
theorem lose_ct (c : Ch) (hc : c.ok) (i : Int) : Ct Try.prog 29 [c.d, i64 i] fun r outs => r = .tup [(c.lose i).1.o, i64 (c.lose i).2] ∧ outs = [] := by
  have hc' := hc
  obtain ⟨h1, h2, h3, h4, h5, h6⟩ := hc
  unfold Ch.lose
  split
  · rename_i he
    refine .det (.of_W (fn := Try.f29) hΓ hm Try.func29 [] [] (by kernel_rfl) (Step.out ?_))
    repeat' first
      | (refine Step.mk ?_; conv => whnf)
      | with_reducible trivial
      | (refine Br.dF ?_ ?_; omega)
      | (refine Met.by (takenF_ct _ (by assumption) _ _ he) ?_; rintro q outs ⟨rfl, rfl⟩)
      | (refine Br.bnot ?_)
      | (refine Two.mk (Step.out ?_) (Step.out ?_))
      | (refine CallOK.of_ct (Step.out ?_))
    all_goals rfl
  · rename_i he
    have he := Classical.not_not.1 he
    obtain ⟨e0, e1, e2⟩ := Ch.err0 he
    obtain ⟨k, rfl⟩ := Int.eq_ofNat_of_zero_le e1
    refine .det (.of_W (fn := Try.f29) hΓ hm Try.func29 [] [] (by kernel_rfl) (Step.out ?_))
    repeat' first
      | (refine Step.mk ?_; conv => whnf)
      | with_reducible trivial
      | with_reducible exact same_rfl
      | (refine Wr.i64 ?_ ?_; omega)
      | (refine Br.dT ?_ ?_; omega)
      | (refine Met.by (takenT_ct _ (by assumption) _ _ he) ?_; rintro q outs ⟨rfl, rfl⟩)
      | (refine Br.bnot ?_)
      | (refine Two.mk (Step.out ?_) (Step.out ?_))
      | (refine CallOK.gv (g := 41) (Step.out ?_))
      | (refine CallOK.of_ct (Step.out ?_))
      | (refine Met.by (g := 41) (delp1_ct _ _ (by omega) (by omega)) ?_; rintro q outs ⟨rfl, rfl⟩)
    all_goals exact ⟨rfl, fun _ _ => rfl⟩
theorem loseB_ct (c : Ch) (hc : c.ok) (i : Int) : Ct Try.prog 34 [c.d, i64 i] fun r outs => r = .tup [(c.loseB i).1.o, i64 (c.loseB i).2] ∧ outs = [] := by
  have hc' := hc
  obtain ⟨h1, h2, h3, h4, h5, h6⟩ := hc
  unfold Ch.loseB
  split
  · rename_i he
    refine .det (.of_W (fn := Try.f34) hΓ hm Try.func34 [] [] (by kernel_rfl) (Step.out ?_))
    repeat' first
      | (refine Step.mk ?_; conv => whnf)
      | with_reducible trivial
      | (refine Br.dF ?_ ?_; omega)
      | (refine Met.by (takenF_ct _ (by assumption) _ _ he) ?_; rintro q outs ⟨rfl, rfl⟩)
      | (refine Br.bnot ?_)
      | (refine Two.mk (Step.out ?_) (Step.out ?_))
      | (refine CallOK.of_ct (Step.out ?_))
    all_goals rfl
  · rename_i he
    have he := Classical.not_not.1 he
    obtain ⟨e0, e1, e2⟩ := Ch.err0 he
    obtain ⟨k, rfl⟩ := Int.eq_ofNat_of_zero_le e1
    refine .det (.of_W (fn := Try.f34) hΓ hm Try.func34 [] [] (by kernel_rfl) (Step.out ?_))
    repeat' first
      | (refine Step.mk ?_; conv => whnf)
      | with_reducible trivial
      | with_reducible exact same_rfl
      | (refine Wr.i64 ?_ ?_; omega)
      | (refine Br.dT ?_ ?_; omega)
      | (refine Met.by (takenT_ct _ (by assumption) _ _ he) ?_; rintro q outs ⟨rfl, rfl⟩)
      | (refine Br.bnot ?_)
      | (refine Two.mk (Step.out ?_) (Step.out ?_))
      | (refine CallOK.gv (g := 44) (Step.out ?_))
      | (refine CallOK.of_ct (Step.out ?_))
      | (refine Met.by (g := 44) (deli1_ct _ _ (by omega) (by omega)) ?_; rintro q outs ⟨rfl, rfl⟩)
    all_goals exact ⟨rfl, fun _ _ => rfl⟩
theorem repeat_ct (c : Ch) (hc : c.ok) (i : Int) : Ct Try.prog 31 [c.d, i64 i] fun r outs => r = .tup [(c.repeat i).1.o, i64 (c.repeat i).2] ∧ outs = [] := by
  have hc' := hc
  obtain ⟨h1, h2, h3, h4, h5, h6⟩ := hc
  unfold Ch.repeat
  split
  · rename_i he
    refine .det (.of_W (fn := Try.f31) hΓ hm Try.func31 ord31 [] (by kernel_rfl) (Step.out ?_))
    repeat' first
      | (refine Step.mk ?_; conv => whnf)
      | with_reducible trivial
      | (refine Br.dF ?_ ?_; omega)
      | (refine Met.by (takenF_ct _ (by assumption) _ _ he) ?_; rintro q outs ⟨rfl, rfl⟩)
      | (refine Br.bnot ?_)
      | (refine Two.mk (Step.out ?_) (Step.out ?_))
      | (refine CallOK.of_ct (Step.out ?_))
    all_goals rfl
  · rename_i he
    have he := Classical.not_not.1 he
    obtain ⟨e0, e1, e2⟩ := Ch.err0 he
    have g := (Ch.good_of e0).t
    refine .det (.of_W (fn := Try.f31) hΓ hm Try.func31 ord31 [] (by kernel_rfl) (Step.out ?_))
    repeat' first
      | (refine Step.mk ?_; conv => whnf)
      | (refine Vc.om ?_ ?_; first | omega | with_reducible rfl | with_reducible exact same_rfl)
      | (refine Vc.om ?_ ?_; (simp only [bytes_2, bytes_3, bytes_4, bytes_5, bytes_9, bytes_12, bytes_21, bytes_22, bytes_25, bytes_27, bytes_28, bytes_29, bytes_30, bytes_33, bytes_42, bytes_43, bytes_47, bytes_51, bytes_52, bytes_53, bytes_57, bytes_58, bytes_59, bytes_73, bytes_91, bytes_104, bytes_108, true_and, and_true] <;> omega))
      | with_reducible trivial
      | (refine Br.dT ?_ ?_; omega)
      | (refine Met.by (takenT_ct _ (by assumption) _ _ he) ?_; rintro q outs ⟨rfl, rfl⟩)
      | (refine Br.d (fun h => ?_) (fun h => ?_))
      | (refine Br.bnot ?_)
      | (refine Two.mk (Step.out ?_) (Step.out ?_))
      | (refine CallOK.of_ct (Step.out ?_))
    all_goals first
      | (rw [if_pos (by omega)] <;> rfl)
      | (rw [if_neg (by omega)] <;> rfl)
      | (rw [if_neg (by omega)]; exact ⟨rfl, fun _ _ => rfl⟩)
      | (rw [if_neg (by omega)]; exact app1 stF [] stF_same _ _)
      | (rw [if_neg (by omega)]; exact app1 pkF (0, []) pkF_same _ _)
      | (rw [if_neg (by omega), if_pos (by omega)] <;> rfl)
      | (rw [if_neg (by omega), if_neg (by omega)] <;> rfl)
      | (rw [if_neg (by omega), if_neg (by omega)]; exact ⟨rfl, fun _ _ => rfl⟩)
      | (rw [if_neg (by omega), if_neg (by omega)]; exact app1 pkF (0, []) pkF_same _ _)
theorem back_ct (c : Ch) (hc : c.ok) (i : Int) : Ct Try.prog 15 [c.d, i64 i] fun r outs => r = .tup [(c.backM i).1.o, i64 (c.backM i).2] ∧ outs = [] := by
  have hc' := hc
  obtain ⟨h1, h2, h3, h4, h5, h6⟩ := hc
  unfold Ch.backM
  split
  · rename_i he
    refine .det (.of_W (fn := Try.f15) hΓ hm Try.func15 [] [] (by kernel_rfl) (Step.out ?_))
    repeat' first
      | (refine Step.mk ?_; conv => whnf)
      | with_reducible trivial
      | (refine Br.dF ?_ ?_; omega)
      | (refine Met.by (takenF_ct _ (by assumption) _ _ he) ?_; rintro q outs ⟨rfl, rfl⟩)
      | (refine Br.bnot ?_)
      | (refine Two.mk (Step.out ?_) (Step.out ?_))
      | (refine CallOK.of_ct (Step.out ?_))
    all_goals rfl
  · rename_i he
    have he := Classical.not_not.1 he
    obtain ⟨e0, e1, e2⟩ := Ch.err0 he
    have g := Ch.good_of e0
    obtain ⟨k, rfl⟩ := Int.eq_ofNat_of_zero_le e1
    have gk := g.kr (c.back.getD (k : Int).toNat 0) (getD_mem (by omega))
    have hr : c.reach = c.base + min (c.wait.length : Int) 4 := rfl
    have ge := g.e2
    rw [Ch.ack]
    split
    · rename_i hb
      have hb : c.base < c.back.getD (k : Int).toNat 0 := hb
      refine .det (.of_W (fn := Try.f15) hΓ hm Try.func15 [] [] (by kernel_rfl) (Step.out ?_))
      repeat' first
        | (refine Step.mk ?_; conv => whnf)
        | (refine Vc.om ?_ ?_; first | omega | with_reducible rfl | with_reducible exact same_rfl)
        | with_reducible trivial
        | with_reducible exact same_rfl
        | (refine Wr.i64 ?_ ?_; omega)
        | (refine Br.dT ?_ ?_; omega)
        | (refine Met.by (takenT_ct _ (by assumption) _ _ he) ?_; rintro q outs ⟨rfl, rfl⟩)
        | (refine Met.by (dels0_ct _ _ (by omega) (by omega) (by omega)) ?_; rintro q outs ⟨rfl, rfl⟩)
        | (refine CallOK.gv (g := 45) (Step.out ?_))
        | (refine Br.bnot ?_)
        | (refine Two.mk (Step.out ?_) (Step.out ?_))
        | (refine CallOK.gv (g := 44) (Step.out ?_))
        | (refine CallOK.of_ct (Step.out ?_))
        | (refine Met.by (g := 44) (deli1_ct _ _ (by omega) (by omega)) ?_; rintro q outs ⟨rfl, rfl⟩)
      all_goals first
        | exact ⟨rfl, fun _ _ => rfl⟩
        | omega
        | rfl
    · refine .det (.of_W (fn := Try.f15) hΓ hm Try.func15 [] [] (by kernel_rfl) (Step.out ?_))
      repeat' first
        | (refine Step.mk ?_; conv => whnf)
        | (refine Vc.om ?_ ?_; first | omega | with_reducible rfl | with_reducible exact same_rfl)
        | with_reducible trivial
        | with_reducible exact same_rfl
        | (refine Wr.i64 ?_ ?_; omega)
        | (refine Br.dT ?_ ?_; omega)
        | (refine Br.dF ?_ ?_; omega)
        | (refine Met.by (takenT_ct _ (by assumption) _ _ he) ?_; rintro q outs ⟨rfl, rfl⟩)
        | (refine Br.bnot ?_)
        | (refine Two.mk (Step.out ?_) (Step.out ?_))
        | (refine CallOK.gv (g := 44) (Step.out ?_))
        | (refine CallOK.of_ct (Step.out ?_))
        | (refine Met.by (g := 44) (deli1_ct _ _ (by omega) (by omega)) ?_; rintro q outs ⟨rfl, rfl⟩)
      all_goals first
        | exact ⟨rfl, fun _ _ => rfl⟩
        | omega
        | rfl
end Kx
