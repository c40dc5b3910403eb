/-
  The laws.
  No condition beyond those written in each theorem.
-/
import Derived.Test.YtogpmimmlcheaaaKKf
open Go Sx Go.Proofs
set_option linter.unusedSimpArgs false
set_option linter.unusedVariables false
namespace Kx
theorem awake_ct : Ct Try.prog 8 [] fun r outs => r = .lit true ∧ outs = [] := by
  refine .det (.of_W (fn := Try.f8) hΓ hm (by rfl) [] [] (by kernel_rfl) (Step.out ?_))
  repeat' first
    | (refine Step.mk ?_; conv => whnf)
    | (refine Vc.om ?_ ?_; first | omega | with_reducible rfl | with_reducible exact ⟨rfl, fun _ _ => rfl⟩ | (simp only [bytes_2, bytes_3, bytes_4, bytes_5, bytes_9, bytes_12, bytes_21, bytes_22, bytes_25, bytes_27, bytes_28, bytes_31, bytes_41, bytes_43, bytes_44, bytes_45, bytes_49, bytes_51, bytes_62, bytes_71, bytes_75, bytes_78]; omega))
    | (refine NilB.mk fun b hb => Step.out ?_)
    | trivial
    | with_reducible rfl
    | with_reducible exact ⟨rfl, fun _ _ => rfl⟩
    | (refine Wr.i64 ?_ ?_; omega)
    | (refine Wr.u8 ?_ ?_; omega)
    | (refine Wr.i32 ?_ ?_; omega)
    | (refine Br.tt ?_)
    | (refine Br.ff ?_)
    | (refine Br.dT ?_ ?_; omega)
    | (refine Br.dF ?_ ?_; omega)
    | (exact noSh_res _ _)
    | (refine Vc.om ?_ ?_; focus (decide; done))
    | (refine Wr.i64 ?_ ?_; focus (decide; done))
    | (refine Wr.u8 ?_ ?_; focus (decide; done))
    | (refine Br.dT ?_ ?_; focus (decide; done))
    | (refine Br.dF ?_ ?_; focus (decide; done))
    | (refine Br.d (fun h => ?_) (fun h => ?_))
    | (refine Br.swap ?_)
    | (refine Br.bnot ?_)
    | (refine Br.mk (fun h => Step.out ?_) (fun h => Step.out ?_))
    | (refine Two.mk (Step.out ?_) (Step.out ?_))
    | (refine CallOK.of_ct (Step.out ?_))
    | (refine Met.by (g := 14) (hand_ct _ (by repeat first | assumption | exact start_ok | exact Cu.val.ok ‹_› | refine erase_ok ?_ | refine hand_ok ?_ | refine send_ok ?_ | refine begin_ok ?_ | refine finish_ok ?_) _) ?_; rintro q outs ⟨rfl, rfl⟩)
    | (refine Met.by (g := 17) (ready_ct _ (by repeat first | assumption | exact start_ok | exact Cu.val.ok ‹_› | refine erase_ok ?_ | refine hand_ok ?_ | refine send_ok ?_ | refine begin_ok ?_ | refine finish_ok ?_)) ?_; rintro q outs ⟨rfl, rfl⟩)
    | (refine Met.by (g := 18) (start_ct _) ?_; rintro q outs ⟨rfl, rfl⟩)
    | (refine Met.by (g := 20) (send_ct _ (by repeat first | assumption | exact start_ok | exact Cu.val.ok ‹_› | refine erase_ok ?_ | refine hand_ok ?_ | refine send_ok ?_ | refine begin_ok ?_ | refine finish_ok ?_) _) ?_; rintro q outs ⟨rfl, rfl⟩)
    | (refine Met.by (g := 22) (check_ct _ (by repeat first | assumption | exact start_ok | exact Cu.val.ok ‹_› | refine erase_ok ?_ | refine hand_ok ?_ | refine send_ok ?_ | refine begin_ok ?_ | refine finish_ok ?_)) ?_; rintro q outs ⟨rfl, rfl⟩)
    | (refine Vc.mk ?_ (Step.out ?_))
theorem lost_ct (l : List Int) : Ct Try.prog 3 [ints l] fun r _ => r = .bool true ∨ r = .lit true := by
  refine .of_W (fn := Try.f3) hΓ hm (by rfl) [] [] (by kernel_rfl) (Step.out ?_)
  repeat' first
    | (refine Step.mk ?_; conv => whnf)
    | (refine Vc.om ?_ ?_; first | omega | with_reducible rfl | with_reducible exact ⟨rfl, fun _ _ => rfl⟩ | (simp only [bytes_2, bytes_3, bytes_4, bytes_5, bytes_9, bytes_12, bytes_21, bytes_22, bytes_25, bytes_27, bytes_28, bytes_31, bytes_41, bytes_43, bytes_44, bytes_45, bytes_49, bytes_51, bytes_62, bytes_71, bytes_75, bytes_78]; omega))
    | (refine NilB.mk fun b hb => Step.out ?_)
    | trivial
    | with_reducible rfl
    | with_reducible exact ⟨rfl, fun _ _ => rfl⟩
    | (refine Wr.i64 ?_ ?_; omega)
    | (refine Wr.u8 ?_ ?_; omega)
    | (refine Wr.i32 ?_ ?_; omega)
    | (refine Br.tt ?_)
    | (refine Br.ff ?_)
    | (refine Br.dT ?_ ?_; omega)
    | (refine Br.dF ?_ ?_; omega)
    | (refine Vc.om ?_ ?_; focus (have := chk_len ‹Cu.val _›; omega; done))
    | (refine Wr.i64 ?_ ?_; focus (have := chk_len ‹Cu.val _›; omega; done))
    | (refine Wr.u8 ?_ ?_; focus (have := chk_len ‹Cu.val _›; omega; done))
    | (refine Br.dT ?_ ?_; focus (have := chk_len ‹Cu.val _›; omega; done))
    | (refine Br.dF ?_ ?_; focus (have := chk_len ‹Cu.val _›; omega; done))
    | (exact noSh_res _ _)
    | (refine Vc.om ?_ ?_; focus (have hl := chk_len hv; exact congrArg Prod.snd (erase_go hv (by omega) (by omega) (by assumption)); done))
    | (refine Wr.i64 ?_ ?_; focus (have hl := chk_len hv; exact congrArg Prod.snd (erase_go hv (by omega) (by omega) (by assumption)); done))
    | (refine Wr.u8 ?_ ?_; focus (have hl := chk_len hv; exact congrArg Prod.snd (erase_go hv (by omega) (by omega) (by assumption)); done))
    | (refine Br.dT ?_ ?_; focus (have hl := chk_len hv; exact congrArg Prod.snd (erase_go hv (by omega) (by omega) (by assumption)); done))
    | (refine Br.dF ?_ ?_; focus (have hl := chk_len hv; exact congrArg Prod.snd (erase_go hv (by omega) (by omega) (by assumption)); done))
    | (rw [lost_hand (c := c) (r := x) hv (by have := chk_len hv; omega) (by have := chk_len hv; omega) (by assumption)]; dsimp only)
    | (refine Vc.om ?_ ?_; focus (have hl := chk_len hv; simp only [List.length_set]; omega; done))
    | (refine Wr.i64 ?_ ?_; focus (have hl := chk_len hv; simp only [List.length_set]; omega; done))
    | (refine Wr.u8 ?_ ?_; focus (have hl := chk_len hv; simp only [List.length_set]; omega; done))
    | (refine Br.dT ?_ ?_; focus (have hl := chk_len hv; simp only [List.length_set]; omega; done))
    | (refine Br.dF ?_ ?_; focus (have hl := chk_len hv; simp only [List.length_set]; omega; done))
    | (refine Vc.om ?_ ?_; focus (have hl := chk_len hv; show (c.holds.set x.toNat c.key).getD x.toNat 0 = _; rw [getD_setI _ _ _ _ _ (by omega), if_pos rfl]; simp [Cu.key, *]; done))
    | (refine Wr.i64 ?_ ?_; focus (have hl := chk_len hv; show (c.holds.set x.toNat c.key).getD x.toNat 0 = _; rw [getD_setI _ _ _ _ _ (by omega), if_pos rfl]; simp [Cu.key, *]; done))
    | (refine Wr.u8 ?_ ?_; focus (have hl := chk_len hv; show (c.holds.set x.toNat c.key).getD x.toNat 0 = _; rw [getD_setI _ _ _ _ _ (by omega), if_pos rfl]; simp [Cu.key, *]; done))
    | (refine Br.dT ?_ ?_; focus (have hl := chk_len hv; show (c.holds.set x.toNat c.key).getD x.toNat 0 = _; rw [getD_setI _ _ _ _ _ (by omega), if_pos rfl]; simp [Cu.key, *]; done))
    | (refine Br.dF ?_ ?_; focus (have hl := chk_len hv; show (c.holds.set x.toNat c.key).getD x.toNat 0 = _; rw [getD_setI _ _ _ _ _ (by omega), if_pos rfl]; simp [Cu.key, *]; done))
    | (exact .inr rfl)
    | (exact .inl rfl)
    | (refine Br.d (fun h => ?_) (fun h => ?_))
    | (refine Br.swap ?_)
    | (refine Br.bnot ?_)
    | (refine Br.mk (fun h => Step.out ?_) (fun h => Step.out ?_))
    | (refine Two.mk (Step.out ?_) (Step.out ?_))
    | (refine CallOK.io1 (g := 11) (Step.out ?_))
    | (refine CallOK.io1 (g := 12) (Step.out ?_))
    | (refine CallOK.of_ct (Step.out ?_))
    | (refine Met.by (g := 8) (awake_ct) ?_; rintro q outs ⟨rfl, rfl⟩)
    | (refine Met.by (g := 9) (few_ct _) ?_; rintro q outs ⟨rfl, rfl⟩)
    | (refine Met.by (g := 10) (new_ct _ (by assumption)) ?_; rintro q outs ⟨d, hd, rfl, rfl⟩)
    | (refine Met.by (g := 11) (custody_ct _) ?_; rintro q outs ⟨c, d, hv, rfl, rfl⟩)
    | (refine Met.by (g := 12) (next_ct _ _) ?_; rintro q outs ⟨x, d, hx, rfl, rfl⟩)
    | (refine Met.by (g := 13) (erase_ct _ (by repeat first | assumption | exact start_ok | exact Cu.val.ok ‹_› | refine erase_ok ?_ | refine hand_ok ?_ | refine send_ok ?_ | refine begin_ok ?_ | refine finish_ok ?_) _) ?_; rintro q outs ⟨rfl, rfl⟩)
    | (refine Met.by (g := 14) (hand_ct _ (by repeat first | assumption | exact start_ok | exact Cu.val.ok ‹_› | refine erase_ok ?_ | refine hand_ok ?_ | refine send_ok ?_ | refine begin_ok ?_ | refine finish_ok ?_) _) ?_; rintro q outs ⟨rfl, rfl⟩)
    | (refine Met.by (g := 15) (ints_ct _ _ (by have := chk_len ‹Cu.val _›; first | omega | (dsimp only; omega)) (by have := chk_len ‹Cu.val _›; first | omega | (dsimp only; omega))) ?_; rintro q outs ⟨rfl, rfl⟩)
    | (refine Vc.mk ?_ (Step.out ?_))
  · exact .inl (by rw [erase_no hv (by omega) (by have := chk_len hv; omega) h]; rfl)
  · exact .inl (by simp)
  · exact .inl (by simp)
end Kx
