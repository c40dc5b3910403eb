/-
  KeychangeOne.
  No condition beyond those written in each theorem.
-/
import Derived.Test.YtogpmimmlcheaaaKKg
import Derived.Test.YtogpmimmlcheaaaKKp
open Go Sx Go.Proofs
set_option linter.unusedSimpArgs false
set_option linter.unusedVariables false
namespace Kx
set_option maxHeartbeats 2000000 in
theorem one_ct (l : List Int) : Ct Try.prog 5 [ints l] fun r _ => r = .bool true ∨ r = .lit true := by
  refine .of_W (fn := Try.f5) hΓ hm (by rfl) ord5 [] (by kernel_rfl) (Step.out ?_)
  repeat' first
    | (refine Step.mk ?_; conv => whnf)
    | (refine Vc.om ?_ ?_; first | omega | with_reducible rfl | with_reducible exact ⟨rfl, fun _ _ => rfl⟩ | (simp only [bytes_2, bytes_3, bytes_4, bytes_5, bytes_9, bytes_12, bytes_21, bytes_22, bytes_25, bytes_27, bytes_28, bytes_31, bytes_41, bytes_43, bytes_44, bytes_45, bytes_49, bytes_51, bytes_62, bytes_71, bytes_75, bytes_78]; omega))
    | (refine NilB.mk fun b hb => Step.out ?_)
    | trivial
    | with_reducible rfl
    | with_reducible exact ⟨rfl, fun _ _ => rfl⟩
    | (refine Wr.i64 ?_ ?_; omega)
    | (refine Wr.u8 ?_ ?_; omega)
    | (refine Wr.i32 ?_ ?_; omega)
    | (refine Br.dT ?_ ?_; omega)
    | (refine Br.dF ?_ ?_; omega)
    | (refine Vc.om ?_ ?_; focus (have := chk_len ‹Cu.val _›; omega; done))
    | (refine Wr.i64 ?_ ?_; focus (have := chk_len ‹Cu.val _›; omega; done))
    | (refine Wr.u8 ?_ ?_; focus (have := chk_len ‹Cu.val _›; omega; done))
    | (refine Br.dT ?_ ?_; focus (have := chk_len ‹Cu.val _›; omega; done))
    | (refine Br.dF ?_ ?_; focus (have := chk_len ‹Cu.val _›; omega; done))
    | (exact noSh_res _ _)
    | (exact .inr rfl)
    | (exact .inl rfl)
    | (refine Br.d (fun h => ?_) (fun h => ?_))
    | (refine Br.swap ?_)
    | (refine Br.bnot ?_)
    | (refine Br.mk (fun h => Step.out ?_) (fun h => Step.out ?_))
    | (refine Two.mk (Step.out ?_) (Step.out ?_))
    | (refine CallOK.io1 (g := 12) (Step.out ?_))
    | (refine CallOK.of_ct (Step.out ?_))
    | (refine Met.by (g := 8) (awake_ct) ?_; rintro q outs ⟨rfl, rfl⟩)
    | (refine Met.by (g := 9) (few_ct _) ?_; rintro q outs ⟨rfl, rfl⟩)
    | (refine Met.by (g := 10) (new_ct _ (by assumption)) ?_; rintro q outs ⟨d, hd, rfl, rfl⟩)
    | (refine Met.by (g := 12) (next_ct _ _) ?_; rintro q outs ⟨x, d, hx, rfl, rfl⟩)
    | (refine Met.by (g := 13) (erase_ct _ (by repeat first | assumption | exact start_ok | exact Cu.val.ok ‹_› | refine erase_ok ?_ | refine hand_ok ?_ | refine send_ok ?_ | refine begin_ok ?_ | refine finish_ok ?_) _) ?_; rintro q outs ⟨rfl, rfl⟩)
    | (refine Met.by (g := 14) (hand_ct _ (by repeat first | assumption | exact start_ok | exact Cu.val.ok ‹_› | refine erase_ok ?_ | refine hand_ok ?_ | refine send_ok ?_ | refine begin_ok ?_ | refine finish_ok ?_) _) ?_; rintro q outs ⟨rfl, rfl⟩)
    | (refine Met.by (g := 18) (start_ct _) ?_; rintro q outs ⟨rfl, rfl⟩)
    | (refine Met.by (g := 19) (begin_ct _ (by repeat first | assumption | exact start_ok | exact Cu.val.ok ‹_› | refine erase_ok ?_ | refine hand_ok ?_ | refine send_ok ?_ | refine begin_ok ?_ | refine finish_ok ?_)) ?_; rintro q outs ⟨rfl, rfl⟩)
    | (refine Met.by (g := 20) (send_ct _ (by repeat first | assumption | exact start_ok | exact Cu.val.ok ‹_› | refine erase_ok ?_ | refine hand_ok ?_ | refine send_ok ?_ | refine begin_ok ?_ | refine finish_ok ?_) _) ?_; rintro q outs ⟨rfl, rfl⟩)
    | (refine Met.by (g := 21) (finish_ct _ (by repeat first | assumption | exact start_ok | exact Cu.val.ok ‹_› | refine erase_ok ?_ | refine hand_ok ?_ | refine send_ok ?_ | refine begin_ok ?_ | refine finish_ok ?_)) ?_; rintro q outs ⟨rfl, rfl⟩)
    | (refine Met.by (g := 22) (check_ct _ (by repeat first | assumption | exact start_ok | exact Cu.val.ok ‹_› | refine erase_ok ?_ | refine hand_ok ?_ | refine send_ok ?_ | refine begin_ok ?_ | refine finish_ok ?_)) ?_; rintro q outs ⟨rfl, rfl⟩)
    | (refine Vc.mk ?_ (Step.out ?_))
  · have hs := start_val h
    refine CodeOK.loopW hΓ hm ord5 [12] (by kernel_rfl) (α := Cu × Dk × Int) (fun z => [(3, .loc 0 0), (4, .loc 1 0), (6, i64 z.2.2)]) (fun z => [(0, .var z.2.1.ls), (1, .var z.1.l)]) 2 (fun z => z.1.val ∧ 0 ≤ z.2.2 ∧ z.2.2 ≤ 40) (fun z => (40 - z.2.2).toNat) ?_ ?_
    · refine Again.by ((startS (1 + x)).1, d, 0) ⟨hs.1, by dsimp only; omega⟩ ?_
      dsimp only
      repeat' first
        | (refine Step.mk ?_; conv => whnf)
        | (refine Vc.om ?_ ?_; first | omega | with_reducible rfl | with_reducible exact ⟨rfl, fun _ _ => rfl⟩ | (simp only [bytes_2, bytes_3, bytes_4, bytes_5, bytes_9, bytes_12, bytes_21, bytes_22, bytes_25, bytes_27, bytes_28, bytes_31, bytes_41, bytes_43, bytes_44, bytes_45, bytes_49, bytes_51, bytes_62, bytes_71, bytes_75, bytes_78]; omega))
        | (refine NilB.mk fun b hb => Step.out ?_)
        | trivial
        | with_reducible rfl
        | with_reducible exact ⟨rfl, fun _ _ => rfl⟩
        | (refine Wr.i64 ?_ ?_; omega)
        | (refine Wr.u8 ?_ ?_; omega)
        | (refine Wr.i32 ?_ ?_; omega)
        | (refine Br.dT ?_ ?_; omega)
        | (refine Br.dF ?_ ?_; omega)
        | (refine Br.d (fun h => ?_) (fun h => ?_))
        | (refine Br.swap ?_)
        | (refine Br.bnot ?_)
        | (refine Br.mk (fun h => Step.out ?_) (fun h => Step.out ?_))
        | (refine Two.mk (Step.out ?_) (Step.out ?_))
        | (refine CallOK.io1 (g := 12) (Step.out ?_))
        | (refine CallOK.of_ct (Step.out ?_))
        | (refine Met.by (g := 8) (awake_ct) ?_; rintro q outs ⟨rfl, rfl⟩)
        | (refine Met.by (g := 9) (few_ct _) ?_; rintro q outs ⟨rfl, rfl⟩)
        | (refine Met.by (g := 10) (new_ct _ (by assumption)) ?_; rintro q outs ⟨d, hd, rfl, rfl⟩)
        | (refine Met.by (g := 12) (next_ct _ _) ?_; rintro q outs ⟨x, d, hx, rfl, rfl⟩)
        | (refine Met.by (g := 13) (erase_ct _ (by repeat first | assumption | exact start_ok | exact Cu.val.ok ‹_› | refine erase_ok ?_ | refine hand_ok ?_ | refine send_ok ?_ | refine begin_ok ?_ | refine finish_ok ?_) _) ?_; rintro q outs ⟨rfl, rfl⟩)
        | (refine Met.by (g := 14) (hand_ct _ (by repeat first | assumption | exact start_ok | exact Cu.val.ok ‹_› | refine erase_ok ?_ | refine hand_ok ?_ | refine send_ok ?_ | refine begin_ok ?_ | refine finish_ok ?_) _) ?_; rintro q outs ⟨rfl, rfl⟩)
        | (refine Met.by (g := 18) (start_ct _) ?_; rintro q outs ⟨rfl, rfl⟩)
        | (refine Met.by (g := 19) (begin_ct _ (by repeat first | assumption | exact start_ok | exact Cu.val.ok ‹_› | refine erase_ok ?_ | refine hand_ok ?_ | refine send_ok ?_ | refine begin_ok ?_ | refine finish_ok ?_)) ?_; rintro q outs ⟨rfl, rfl⟩)
        | (refine Met.by (g := 20) (send_ct _ (by repeat first | assumption | exact start_ok | exact Cu.val.ok ‹_› | refine erase_ok ?_ | refine hand_ok ?_ | refine send_ok ?_ | refine begin_ok ?_ | refine finish_ok ?_) _) ?_; rintro q outs ⟨rfl, rfl⟩)
        | (refine Met.by (g := 21) (finish_ct _ (by repeat first | assumption | exact start_ok | exact Cu.val.ok ‹_› | refine erase_ok ?_ | refine hand_ok ?_ | refine send_ok ?_ | refine begin_ok ?_ | refine finish_ok ?_)) ?_; rintro q outs ⟨rfl, rfl⟩)
        | (refine Met.by (g := 22) (check_ct _ (by repeat first | assumption | exact start_ok | exact Cu.val.ok ‹_› | refine erase_ok ?_ | refine hand_ok ?_ | refine send_ok ?_ | refine begin_ok ?_ | refine finish_ok ?_)) ?_; rintro q outs ⟨rfl, rfl⟩)
        | (refine Vc.mk ?_ (Step.out ?_))
    · clear hs h hx d x
      intro ⟨c, d, k⟩ ⟨hv, hk⟩
      dsimp only at hv hk ⊢
      have hl := chk_len hv
      repeat' first
        | (refine Step.mk ?_; conv => whnf)
        | (refine Vc.om ?_ ?_; first | omega | with_reducible rfl | with_reducible exact ⟨rfl, fun _ _ => rfl⟩ | (simp only [bytes_2, bytes_3, bytes_4, bytes_5, bytes_9, bytes_12, bytes_21, bytes_22, bytes_25, bytes_27, bytes_28, bytes_31, bytes_41, bytes_43, bytes_44, bytes_45, bytes_49, bytes_51, bytes_62, bytes_71, bytes_75, bytes_78]; omega))
        | (refine NilB.mk fun b hb => Step.out ?_)
        | trivial
        | with_reducible rfl
        | with_reducible exact ⟨rfl, fun _ _ => rfl⟩
        | (refine Wr.i64 ?_ ?_; omega)
        | (refine Wr.u8 ?_ ?_; omega)
        | (refine Wr.i32 ?_ ?_; omega)
        | (refine Br.dT ?_ ?_; omega)
        | (refine Br.dF ?_ ?_; omega)
        | (exact .inr rfl)
        | (exact .inl rfl)
        | (refine Br.d (fun h => ?_) (fun h => ?_))
        | (refine Br.swap ?_)
        | (refine Br.bnot ?_)
        | (refine Br.mk (fun h => Step.out ?_) (fun h => Step.out ?_))
        | (refine Two.mk (Step.out ?_) (Step.out ?_))
        | (refine CallOK.io1 (g := 12) (Step.out ?_))
        | (refine CallOK.of_ct (Step.out ?_))
        | (refine Met.by (g := 8) (awake_ct) ?_; rintro q outs ⟨rfl, rfl⟩)
        | (refine Met.by (g := 9) (few_ct _) ?_; rintro q outs ⟨rfl, rfl⟩)
        | (refine Met.by (g := 10) (new_ct _ (by assumption)) ?_; rintro q outs ⟨d, hd, rfl, rfl⟩)
        | (refine Met.by (g := 12) (next_ct _ _) ?_; rintro q outs ⟨x, d, hx, rfl, rfl⟩)
        | (refine Met.by (g := 13) (erase_ct _ (by repeat first | assumption | exact start_ok | exact Cu.val.ok ‹_› | refine erase_ok ?_ | refine hand_ok ?_ | refine send_ok ?_ | refine begin_ok ?_ | refine finish_ok ?_) _) ?_; rintro q outs ⟨rfl, rfl⟩)
        | (refine Met.by (g := 14) (hand_ct _ (by repeat first | assumption | exact start_ok | exact Cu.val.ok ‹_› | refine erase_ok ?_ | refine hand_ok ?_ | refine send_ok ?_ | refine begin_ok ?_ | refine finish_ok ?_) _) ?_; rintro q outs ⟨rfl, rfl⟩)
        | (refine Met.by (g := 18) (start_ct _) ?_; rintro q outs ⟨rfl, rfl⟩)
        | (refine Met.by (g := 19) (begin_ct _ (by repeat first | assumption | exact start_ok | exact Cu.val.ok ‹_› | refine erase_ok ?_ | refine hand_ok ?_ | refine send_ok ?_ | refine begin_ok ?_ | refine finish_ok ?_)) ?_; rintro q outs ⟨rfl, rfl⟩)
        | (refine Met.by (g := 20) (send_ct _ (by repeat first | assumption | exact start_ok | exact Cu.val.ok ‹_› | refine erase_ok ?_ | refine hand_ok ?_ | refine send_ok ?_ | refine begin_ok ?_ | refine finish_ok ?_) _) ?_; rintro q outs ⟨rfl, rfl⟩)
        | (refine Met.by (g := 21) (finish_ct _ (by repeat first | assumption | exact start_ok | exact Cu.val.ok ‹_› | refine erase_ok ?_ | refine hand_ok ?_ | refine send_ok ?_ | refine begin_ok ?_ | refine finish_ok ?_)) ?_; rintro q outs ⟨rfl, rfl⟩)
        | (refine Met.by (g := 22) (check_ct _ (by repeat first | assumption | exact start_ok | exact Cu.val.ok ‹_› | refine erase_ok ?_ | refine hand_ok ?_ | refine send_ok ?_ | refine begin_ok ?_ | refine finish_ok ?_)) ?_; rintro q outs ⟨rfl, rfl⟩)
        | (refine Vc.mk ?_ (Step.out ?_))
      · obtain ⟨r, er⟩ : ∃ r, r = x := ⟨x, rfl⟩
        subst er
        refine CodeOK.cutW hΓ hm ord5 [] (by kernel_rfl) (α := Dk × Cu × Int) (fun z => [(3, .loc 0 0), (4, .loc 1 0), (6, i64 k), (8, .loc 2 0), (9, i64 z.2.2)]) (fun z => [(0, .var z.1.ls), (1, .var c.l), (2, .var z.2.1.l)]) 3 (fun z => z.2.1.ok ∧ (z.2.2 = 0 → Nxt c z.2.1)) ?_ ?_
        · repeat' first
            | (refine Step.mk ?_; conv => whnf)
            | (refine Vc.om ?_ ?_; first | omega | with_reducible rfl | with_reducible exact ⟨rfl, fun _ _ => rfl⟩ | (simp only [bytes_2, bytes_3, bytes_4, bytes_5, bytes_9, bytes_12, bytes_21, bytes_22, bytes_25, bytes_27, bytes_28, bytes_31, bytes_41, bytes_43, bytes_44, bytes_45, bytes_49, bytes_51, bytes_62, bytes_71, bytes_75, bytes_78]; omega))
            | (refine NilB.mk fun b hb => Step.out ?_)
            | trivial
            | with_reducible rfl
            | with_reducible exact ⟨rfl, fun _ _ => rfl⟩
            | (refine Wr.i64 ?_ ?_; omega)
            | (refine Wr.u8 ?_ ?_; omega)
            | (refine Wr.i32 ?_ ?_; omega)
            | (refine Br.dT ?_ ?_; omega)
            | (refine Br.dF ?_ ?_; omega)
            | (exact noSh_res _ _)
            | (refine Br.d (fun h => ?_) (fun h => ?_))
            | (refine Br.swap ?_)
            | (refine Br.bnot ?_)
            | (refine Br.mk (fun h => Step.out ?_) (fun h => Step.out ?_))
            | (refine Two.mk (Step.out ?_) (Step.out ?_))
            | (refine CallOK.io1 (g := 12) (Step.out ?_))
            | (refine CallOK.of_ct (Step.out ?_))
            | (refine Met.by (g := 8) (awake_ct) ?_; rintro q outs ⟨rfl, rfl⟩)
            | (refine Met.by (g := 9) (few_ct _) ?_; rintro q outs ⟨rfl, rfl⟩)
            | (refine Met.by (g := 10) (new_ct _ (by assumption)) ?_; rintro q outs ⟨d, hd, rfl, rfl⟩)
            | (refine Met.by (g := 12) (next_ct _ _) ?_; rintro q outs ⟨x, d, hx, rfl, rfl⟩)
            | (refine Met.by (g := 13) (erase_ct _ (by repeat first | assumption | exact start_ok | exact Cu.val.ok ‹_› | refine erase_ok ?_ | refine hand_ok ?_ | refine send_ok ?_ | refine begin_ok ?_ | refine finish_ok ?_) _) ?_; rintro q outs ⟨rfl, rfl⟩)
            | (refine Met.by (g := 14) (hand_ct _ (by repeat first | assumption | exact start_ok | exact Cu.val.ok ‹_› | refine erase_ok ?_ | refine hand_ok ?_ | refine send_ok ?_ | refine begin_ok ?_ | refine finish_ok ?_) _) ?_; rintro q outs ⟨rfl, rfl⟩)
            | (refine Met.by (g := 18) (start_ct _) ?_; rintro q outs ⟨rfl, rfl⟩)
            | (refine Met.by (g := 19) (begin_ct _ (by repeat first | assumption | exact start_ok | exact Cu.val.ok ‹_› | refine erase_ok ?_ | refine hand_ok ?_ | refine send_ok ?_ | refine begin_ok ?_ | refine finish_ok ?_)) ?_; rintro q outs ⟨rfl, rfl⟩)
            | (refine Met.by (g := 20) (send_ct _ (by repeat first | assumption | exact start_ok | exact Cu.val.ok ‹_› | refine erase_ok ?_ | refine hand_ok ?_ | refine send_ok ?_ | refine begin_ok ?_ | refine finish_ok ?_) _) ?_; rintro q outs ⟨rfl, rfl⟩)
            | (refine Met.by (g := 21) (finish_ct _ (by repeat first | assumption | exact start_ok | exact Cu.val.ok ‹_› | refine erase_ok ?_ | refine hand_ok ?_ | refine send_ok ?_ | refine begin_ok ?_ | refine finish_ok ?_)) ?_; rintro q outs ⟨rfl, rfl⟩)
            | (refine Met.by (g := 22) (check_ct _ (by repeat first | assumption | exact start_ok | exact Cu.val.ok ‹_› | refine erase_ok ?_ | refine hand_ok ?_ | refine send_ok ?_ | refine begin_ok ?_ | refine finish_ok ?_)) ?_; rintro q outs ⟨rfl, rfl⟩)
            | (refine Vc.mk ?_ (Step.out ?_))
          · refine Again.by (d, c.begin_.1, c.begin_.2) ⟨begin_ok hv.ok, fun h => (begin_nxt h).1⟩ ?_
            dsimp only
            repeat' first
              | (refine Step.mk ?_; conv => whnf)
              | (refine Vc.om ?_ ?_; first | omega | with_reducible rfl | with_reducible exact ⟨rfl, fun _ _ => rfl⟩ | (simp only [bytes_2, bytes_3, bytes_4, bytes_5, bytes_9, bytes_12, bytes_21, bytes_22, bytes_25, bytes_27, bytes_28, bytes_31, bytes_41, bytes_43, bytes_44, bytes_45, bytes_49, bytes_51, bytes_62, bytes_71, bytes_75, bytes_78]; omega))
              | (refine NilB.mk fun b hb => Step.out ?_)
              | trivial
              | with_reducible rfl
              | with_reducible exact ⟨rfl, fun _ _ => rfl⟩
              | (refine Wr.i64 ?_ ?_; omega)
              | (refine Wr.u8 ?_ ?_; omega)
              | (refine Wr.i32 ?_ ?_; omega)
              | (refine Br.dT ?_ ?_; omega)
              | (refine Br.dF ?_ ?_; omega)
              | (refine Br.d (fun h => ?_) (fun h => ?_))
              | (refine Br.swap ?_)
              | (refine Br.bnot ?_)
              | (refine Br.mk (fun h => Step.out ?_) (fun h => Step.out ?_))
              | (refine Two.mk (Step.out ?_) (Step.out ?_))
              | (refine CallOK.io1 (g := 12) (Step.out ?_))
              | (refine CallOK.of_ct (Step.out ?_))
              | (refine Met.by (g := 8) (awake_ct) ?_; rintro q outs ⟨rfl, rfl⟩)
              | (refine Met.by (g := 9) (few_ct _) ?_; rintro q outs ⟨rfl, rfl⟩)
              | (refine Met.by (g := 10) (new_ct _ (by assumption)) ?_; rintro q outs ⟨d, hd, rfl, rfl⟩)
              | (refine Met.by (g := 12) (next_ct _ _) ?_; rintro q outs ⟨x, d, hx, rfl, rfl⟩)
              | (refine Met.by (g := 13) (erase_ct _ (by repeat first | assumption | exact start_ok | exact Cu.val.ok ‹_› | refine erase_ok ?_ | refine hand_ok ?_ | refine send_ok ?_ | refine begin_ok ?_ | refine finish_ok ?_) _) ?_; rintro q outs ⟨rfl, rfl⟩)
              | (refine Met.by (g := 14) (hand_ct _ (by repeat first | assumption | exact start_ok | exact Cu.val.ok ‹_› | refine erase_ok ?_ | refine hand_ok ?_ | refine send_ok ?_ | refine begin_ok ?_ | refine finish_ok ?_) _) ?_; rintro q outs ⟨rfl, rfl⟩)
              | (refine Met.by (g := 18) (start_ct _) ?_; rintro q outs ⟨rfl, rfl⟩)
              | (refine Met.by (g := 19) (begin_ct _ (by repeat first | assumption | exact start_ok | exact Cu.val.ok ‹_› | refine erase_ok ?_ | refine hand_ok ?_ | refine send_ok ?_ | refine begin_ok ?_ | refine finish_ok ?_)) ?_; rintro q outs ⟨rfl, rfl⟩)
              | (refine Met.by (g := 20) (send_ct _ (by repeat first | assumption | exact start_ok | exact Cu.val.ok ‹_› | refine erase_ok ?_ | refine hand_ok ?_ | refine send_ok ?_ | refine begin_ok ?_ | refine finish_ok ?_) _) ?_; rintro q outs ⟨rfl, rfl⟩)
              | (refine Met.by (g := 21) (finish_ct _ (by repeat first | assumption | exact start_ok | exact Cu.val.ok ‹_› | refine erase_ok ?_ | refine hand_ok ?_ | refine send_ok ?_ | refine begin_ok ?_ | refine finish_ok ?_)) ?_; rintro q outs ⟨rfl, rfl⟩)
              | (refine Met.by (g := 22) (check_ct _ (by repeat first | assumption | exact start_ok | exact Cu.val.ok ‹_› | refine erase_ok ?_ | refine hand_ok ?_ | refine send_ok ?_ | refine begin_ok ?_ | refine finish_ok ?_)) ?_; rintro q outs ⟨rfl, rfl⟩)
              | (refine Vc.mk ?_ (Step.out ?_))
          · refine Again.by (d, (c.erase r).1, (c.erase r).2) ⟨erase_ok hv.ok, fun h => (erase_nxt h).1⟩ ?_
            dsimp only
            repeat' first
              | (refine Step.mk ?_; conv => whnf)
              | (refine Vc.om ?_ ?_; first | omega | with_reducible rfl | with_reducible exact ⟨rfl, fun _ _ => rfl⟩ | (simp only [bytes_2, bytes_3, bytes_4, bytes_5, bytes_9, bytes_12, bytes_21, bytes_22, bytes_25, bytes_27, bytes_28, bytes_31, bytes_41, bytes_43, bytes_44, bytes_45, bytes_49, bytes_51, bytes_62, bytes_71, bytes_75, bytes_78]; omega))
              | (refine NilB.mk fun b hb => Step.out ?_)
              | trivial
              | with_reducible rfl
              | with_reducible exact ⟨rfl, fun _ _ => rfl⟩
              | (refine Wr.i64 ?_ ?_; omega)
              | (refine Wr.u8 ?_ ?_; omega)
              | (refine Wr.i32 ?_ ?_; omega)
              | (refine Br.dT ?_ ?_; omega)
              | (refine Br.dF ?_ ?_; omega)
              | (refine Br.d (fun h => ?_) (fun h => ?_))
              | (refine Br.swap ?_)
              | (refine Br.bnot ?_)
              | (refine Br.mk (fun h => Step.out ?_) (fun h => Step.out ?_))
              | (refine Two.mk (Step.out ?_) (Step.out ?_))
              | (refine CallOK.io1 (g := 12) (Step.out ?_))
              | (refine CallOK.of_ct (Step.out ?_))
              | (refine Met.by (g := 8) (awake_ct) ?_; rintro q outs ⟨rfl, rfl⟩)
              | (refine Met.by (g := 9) (few_ct _) ?_; rintro q outs ⟨rfl, rfl⟩)
              | (refine Met.by (g := 10) (new_ct _ (by assumption)) ?_; rintro q outs ⟨d, hd, rfl, rfl⟩)
              | (refine Met.by (g := 12) (next_ct _ _) ?_; rintro q outs ⟨x, d, hx, rfl, rfl⟩)
              | (refine Met.by (g := 13) (erase_ct _ (by repeat first | assumption | exact start_ok | exact Cu.val.ok ‹_› | refine erase_ok ?_ | refine hand_ok ?_ | refine send_ok ?_ | refine begin_ok ?_ | refine finish_ok ?_) _) ?_; rintro q outs ⟨rfl, rfl⟩)
              | (refine Met.by (g := 14) (hand_ct _ (by repeat first | assumption | exact start_ok | exact Cu.val.ok ‹_› | refine erase_ok ?_ | refine hand_ok ?_ | refine send_ok ?_ | refine begin_ok ?_ | refine finish_ok ?_) _) ?_; rintro q outs ⟨rfl, rfl⟩)
              | (refine Met.by (g := 18) (start_ct _) ?_; rintro q outs ⟨rfl, rfl⟩)
              | (refine Met.by (g := 19) (begin_ct _ (by repeat first | assumption | exact start_ok | exact Cu.val.ok ‹_› | refine erase_ok ?_ | refine hand_ok ?_ | refine send_ok ?_ | refine begin_ok ?_ | refine finish_ok ?_)) ?_; rintro q outs ⟨rfl, rfl⟩)
              | (refine Met.by (g := 20) (send_ct _ (by repeat first | assumption | exact start_ok | exact Cu.val.ok ‹_› | refine erase_ok ?_ | refine hand_ok ?_ | refine send_ok ?_ | refine begin_ok ?_ | refine finish_ok ?_) _) ?_; rintro q outs ⟨rfl, rfl⟩)
              | (refine Met.by (g := 21) (finish_ct _ (by repeat first | assumption | exact start_ok | exact Cu.val.ok ‹_› | refine erase_ok ?_ | refine hand_ok ?_ | refine send_ok ?_ | refine begin_ok ?_ | refine finish_ok ?_)) ?_; rintro q outs ⟨rfl, rfl⟩)
              | (refine Met.by (g := 22) (check_ct _ (by repeat first | assumption | exact start_ok | exact Cu.val.ok ‹_› | refine erase_ok ?_ | refine hand_ok ?_ | refine send_ok ?_ | refine begin_ok ?_ | refine finish_ok ?_)) ?_; rintro q outs ⟨rfl, rfl⟩)
              | (refine Vc.mk ?_ (Step.out ?_))
          · refine Again.by (d, (c.hand r).1, (c.hand r).2) ⟨hand_ok hv.ok, fun h => (hand_nxt h).1⟩ ?_
            dsimp only
            repeat' first
              | (refine Step.mk ?_; conv => whnf)
              | (refine Vc.om ?_ ?_; first | omega | with_reducible rfl | with_reducible exact ⟨rfl, fun _ _ => rfl⟩ | (simp only [bytes_2, bytes_3, bytes_4, bytes_5, bytes_9, bytes_12, bytes_21, bytes_22, bytes_25, bytes_27, bytes_28, bytes_31, bytes_41, bytes_43, bytes_44, bytes_45, bytes_49, bytes_51, bytes_62, bytes_71, bytes_75, bytes_78]; omega))
              | (refine NilB.mk fun b hb => Step.out ?_)
              | trivial
              | with_reducible rfl
              | with_reducible exact ⟨rfl, fun _ _ => rfl⟩
              | (refine Wr.i64 ?_ ?_; omega)
              | (refine Wr.u8 ?_ ?_; omega)
              | (refine Wr.i32 ?_ ?_; omega)
              | (refine Br.dT ?_ ?_; omega)
              | (refine Br.dF ?_ ?_; omega)
              | (refine Br.d (fun h => ?_) (fun h => ?_))
              | (refine Br.swap ?_)
              | (refine Br.bnot ?_)
              | (refine Br.mk (fun h => Step.out ?_) (fun h => Step.out ?_))
              | (refine Two.mk (Step.out ?_) (Step.out ?_))
              | (refine CallOK.io1 (g := 12) (Step.out ?_))
              | (refine CallOK.of_ct (Step.out ?_))
              | (refine Met.by (g := 8) (awake_ct) ?_; rintro q outs ⟨rfl, rfl⟩)
              | (refine Met.by (g := 9) (few_ct _) ?_; rintro q outs ⟨rfl, rfl⟩)
              | (refine Met.by (g := 10) (new_ct _ (by assumption)) ?_; rintro q outs ⟨d, hd, rfl, rfl⟩)
              | (refine Met.by (g := 12) (next_ct _ _) ?_; rintro q outs ⟨x, d, hx, rfl, rfl⟩)
              | (refine Met.by (g := 13) (erase_ct _ (by repeat first | assumption | exact start_ok | exact Cu.val.ok ‹_› | refine erase_ok ?_ | refine hand_ok ?_ | refine send_ok ?_ | refine begin_ok ?_ | refine finish_ok ?_) _) ?_; rintro q outs ⟨rfl, rfl⟩)
              | (refine Met.by (g := 14) (hand_ct _ (by repeat first | assumption | exact start_ok | exact Cu.val.ok ‹_› | refine erase_ok ?_ | refine hand_ok ?_ | refine send_ok ?_ | refine begin_ok ?_ | refine finish_ok ?_) _) ?_; rintro q outs ⟨rfl, rfl⟩)
              | (refine Met.by (g := 18) (start_ct _) ?_; rintro q outs ⟨rfl, rfl⟩)
              | (refine Met.by (g := 19) (begin_ct _ (by repeat first | assumption | exact start_ok | exact Cu.val.ok ‹_› | refine erase_ok ?_ | refine hand_ok ?_ | refine send_ok ?_ | refine begin_ok ?_ | refine finish_ok ?_)) ?_; rintro q outs ⟨rfl, rfl⟩)
              | (refine Met.by (g := 20) (send_ct _ (by repeat first | assumption | exact start_ok | exact Cu.val.ok ‹_› | refine erase_ok ?_ | refine hand_ok ?_ | refine send_ok ?_ | refine begin_ok ?_ | refine finish_ok ?_) _) ?_; rintro q outs ⟨rfl, rfl⟩)
              | (refine Met.by (g := 21) (finish_ct _ (by repeat first | assumption | exact start_ok | exact Cu.val.ok ‹_› | refine erase_ok ?_ | refine hand_ok ?_ | refine send_ok ?_ | refine begin_ok ?_ | refine finish_ok ?_)) ?_; rintro q outs ⟨rfl, rfl⟩)
              | (refine Met.by (g := 22) (check_ct _ (by repeat first | assumption | exact start_ok | exact Cu.val.ok ‹_› | refine erase_ok ?_ | refine hand_ok ?_ | refine send_ok ?_ | refine begin_ok ?_ | refine finish_ok ?_)) ?_; rintro q outs ⟨rfl, rfl⟩)
              | (refine Vc.mk ?_ (Step.out ?_))
          · refine Again.by (d, (c.hand r).1, (c.hand r).2) ⟨hand_ok hv.ok, fun h => (hand_nxt h).1⟩ ?_
            dsimp only
            repeat' first
              | (refine Step.mk ?_; conv => whnf)
              | (refine Vc.om ?_ ?_; first | omega | with_reducible rfl | with_reducible exact ⟨rfl, fun _ _ => rfl⟩ | (simp only [bytes_2, bytes_3, bytes_4, bytes_5, bytes_9, bytes_12, bytes_21, bytes_22, bytes_25, bytes_27, bytes_28, bytes_31, bytes_41, bytes_43, bytes_44, bytes_45, bytes_49, bytes_51, bytes_62, bytes_71, bytes_75, bytes_78]; omega))
              | (refine NilB.mk fun b hb => Step.out ?_)
              | trivial
              | with_reducible rfl
              | with_reducible exact ⟨rfl, fun _ _ => rfl⟩
              | (refine Wr.i64 ?_ ?_; omega)
              | (refine Wr.u8 ?_ ?_; omega)
              | (refine Wr.i32 ?_ ?_; omega)
              | (refine Br.dT ?_ ?_; omega)
              | (refine Br.dF ?_ ?_; omega)
              | (refine Br.d (fun h => ?_) (fun h => ?_))
              | (refine Br.swap ?_)
              | (refine Br.bnot ?_)
              | (refine Br.mk (fun h => Step.out ?_) (fun h => Step.out ?_))
              | (refine Two.mk (Step.out ?_) (Step.out ?_))
              | (refine CallOK.io1 (g := 12) (Step.out ?_))
              | (refine CallOK.of_ct (Step.out ?_))
              | (refine Met.by (g := 8) (awake_ct) ?_; rintro q outs ⟨rfl, rfl⟩)
              | (refine Met.by (g := 9) (few_ct _) ?_; rintro q outs ⟨rfl, rfl⟩)
              | (refine Met.by (g := 10) (new_ct _ (by assumption)) ?_; rintro q outs ⟨d, hd, rfl, rfl⟩)
              | (refine Met.by (g := 12) (next_ct _ _) ?_; rintro q outs ⟨x, d, hx, rfl, rfl⟩)
              | (refine Met.by (g := 13) (erase_ct _ (by repeat first | assumption | exact start_ok | exact Cu.val.ok ‹_› | refine erase_ok ?_ | refine hand_ok ?_ | refine send_ok ?_ | refine begin_ok ?_ | refine finish_ok ?_) _) ?_; rintro q outs ⟨rfl, rfl⟩)
              | (refine Met.by (g := 14) (hand_ct _ (by repeat first | assumption | exact start_ok | exact Cu.val.ok ‹_› | refine erase_ok ?_ | refine hand_ok ?_ | refine send_ok ?_ | refine begin_ok ?_ | refine finish_ok ?_) _) ?_; rintro q outs ⟨rfl, rfl⟩)
              | (refine Met.by (g := 18) (start_ct _) ?_; rintro q outs ⟨rfl, rfl⟩)
              | (refine Met.by (g := 19) (begin_ct _ (by repeat first | assumption | exact start_ok | exact Cu.val.ok ‹_› | refine erase_ok ?_ | refine hand_ok ?_ | refine send_ok ?_ | refine begin_ok ?_ | refine finish_ok ?_)) ?_; rintro q outs ⟨rfl, rfl⟩)
              | (refine Met.by (g := 20) (send_ct _ (by repeat first | assumption | exact start_ok | exact Cu.val.ok ‹_› | refine erase_ok ?_ | refine hand_ok ?_ | refine send_ok ?_ | refine begin_ok ?_ | refine finish_ok ?_) _) ?_; rintro q outs ⟨rfl, rfl⟩)
              | (refine Met.by (g := 21) (finish_ct _ (by repeat first | assumption | exact start_ok | exact Cu.val.ok ‹_› | refine erase_ok ?_ | refine hand_ok ?_ | refine send_ok ?_ | refine begin_ok ?_ | refine finish_ok ?_)) ?_; rintro q outs ⟨rfl, rfl⟩)
              | (refine Met.by (g := 22) (check_ct _ (by repeat first | assumption | exact start_ok | exact Cu.val.ok ‹_› | refine erase_ok ?_ | refine hand_ok ?_ | refine send_ok ?_ | refine begin_ok ?_ | refine finish_ok ?_)) ?_; rintro q outs ⟨rfl, rfl⟩)
              | (refine Vc.mk ?_ (Step.out ?_))
          · refine Again.by (d, (c.send r).1, (c.send r).2) ⟨send_ok hv.ok, fun h => (send_nxt h).1⟩ ?_
            dsimp only
            repeat' first
              | (refine Step.mk ?_; conv => whnf)
              | (refine Vc.om ?_ ?_; first | omega | with_reducible rfl | with_reducible exact ⟨rfl, fun _ _ => rfl⟩ | (simp only [bytes_2, bytes_3, bytes_4, bytes_5, bytes_9, bytes_12, bytes_21, bytes_22, bytes_25, bytes_27, bytes_28, bytes_31, bytes_41, bytes_43, bytes_44, bytes_45, bytes_49, bytes_51, bytes_62, bytes_71, bytes_75, bytes_78]; omega))
              | (refine NilB.mk fun b hb => Step.out ?_)
              | trivial
              | with_reducible rfl
              | with_reducible exact ⟨rfl, fun _ _ => rfl⟩
              | (refine Wr.i64 ?_ ?_; omega)
              | (refine Wr.u8 ?_ ?_; omega)
              | (refine Wr.i32 ?_ ?_; omega)
              | (refine Br.dT ?_ ?_; omega)
              | (refine Br.dF ?_ ?_; omega)
              | (refine Br.d (fun h => ?_) (fun h => ?_))
              | (refine Br.swap ?_)
              | (refine Br.bnot ?_)
              | (refine Br.mk (fun h => Step.out ?_) (fun h => Step.out ?_))
              | (refine Two.mk (Step.out ?_) (Step.out ?_))
              | (refine CallOK.io1 (g := 12) (Step.out ?_))
              | (refine CallOK.of_ct (Step.out ?_))
              | (refine Met.by (g := 8) (awake_ct) ?_; rintro q outs ⟨rfl, rfl⟩)
              | (refine Met.by (g := 9) (few_ct _) ?_; rintro q outs ⟨rfl, rfl⟩)
              | (refine Met.by (g := 10) (new_ct _ (by assumption)) ?_; rintro q outs ⟨d, hd, rfl, rfl⟩)
              | (refine Met.by (g := 12) (next_ct _ _) ?_; rintro q outs ⟨x, d, hx, rfl, rfl⟩)
              | (refine Met.by (g := 13) (erase_ct _ (by repeat first | assumption | exact start_ok | exact Cu.val.ok ‹_› | refine erase_ok ?_ | refine hand_ok ?_ | refine send_ok ?_ | refine begin_ok ?_ | refine finish_ok ?_) _) ?_; rintro q outs ⟨rfl, rfl⟩)
              | (refine Met.by (g := 14) (hand_ct _ (by repeat first | assumption | exact start_ok | exact Cu.val.ok ‹_› | refine erase_ok ?_ | refine hand_ok ?_ | refine send_ok ?_ | refine begin_ok ?_ | refine finish_ok ?_) _) ?_; rintro q outs ⟨rfl, rfl⟩)
              | (refine Met.by (g := 18) (start_ct _) ?_; rintro q outs ⟨rfl, rfl⟩)
              | (refine Met.by (g := 19) (begin_ct _ (by repeat first | assumption | exact start_ok | exact Cu.val.ok ‹_› | refine erase_ok ?_ | refine hand_ok ?_ | refine send_ok ?_ | refine begin_ok ?_ | refine finish_ok ?_)) ?_; rintro q outs ⟨rfl, rfl⟩)
              | (refine Met.by (g := 20) (send_ct _ (by repeat first | assumption | exact start_ok | exact Cu.val.ok ‹_› | refine erase_ok ?_ | refine hand_ok ?_ | refine send_ok ?_ | refine begin_ok ?_ | refine finish_ok ?_) _) ?_; rintro q outs ⟨rfl, rfl⟩)
              | (refine Met.by (g := 21) (finish_ct _ (by repeat first | assumption | exact start_ok | exact Cu.val.ok ‹_› | refine erase_ok ?_ | refine hand_ok ?_ | refine send_ok ?_ | refine begin_ok ?_ | refine finish_ok ?_)) ?_; rintro q outs ⟨rfl, rfl⟩)
              | (refine Met.by (g := 22) (check_ct _ (by repeat first | assumption | exact start_ok | exact Cu.val.ok ‹_› | refine erase_ok ?_ | refine hand_ok ?_ | refine send_ok ?_ | refine begin_ok ?_ | refine finish_ok ?_)) ?_; rintro q outs ⟨rfl, rfl⟩)
              | (refine Vc.mk ?_ (Step.out ?_))
          · refine Again.by (d, c.finish.1, c.finish.2) ⟨finish_ok hv.ok, fun h => (finish_nxt h).1⟩ ?_
            dsimp only
            repeat' first
              | (refine Step.mk ?_; conv => whnf)
              | (refine Vc.om ?_ ?_; first | omega | with_reducible rfl | with_reducible exact ⟨rfl, fun _ _ => rfl⟩ | (simp only [bytes_2, bytes_3, bytes_4, bytes_5, bytes_9, bytes_12, bytes_21, bytes_22, bytes_25, bytes_27, bytes_28, bytes_31, bytes_41, bytes_43, bytes_44, bytes_45, bytes_49, bytes_51, bytes_62, bytes_71, bytes_75, bytes_78]; omega))
              | (refine NilB.mk fun b hb => Step.out ?_)
              | trivial
              | with_reducible rfl
              | with_reducible exact ⟨rfl, fun _ _ => rfl⟩
              | (refine Wr.i64 ?_ ?_; omega)
              | (refine Wr.u8 ?_ ?_; omega)
              | (refine Wr.i32 ?_ ?_; omega)
              | (refine Br.dT ?_ ?_; omega)
              | (refine Br.dF ?_ ?_; omega)
              | (refine Br.d (fun h => ?_) (fun h => ?_))
              | (refine Br.swap ?_)
              | (refine Br.bnot ?_)
              | (refine Br.mk (fun h => Step.out ?_) (fun h => Step.out ?_))
              | (refine Two.mk (Step.out ?_) (Step.out ?_))
              | (refine CallOK.io1 (g := 12) (Step.out ?_))
              | (refine CallOK.of_ct (Step.out ?_))
              | (refine Met.by (g := 8) (awake_ct) ?_; rintro q outs ⟨rfl, rfl⟩)
              | (refine Met.by (g := 9) (few_ct _) ?_; rintro q outs ⟨rfl, rfl⟩)
              | (refine Met.by (g := 10) (new_ct _ (by assumption)) ?_; rintro q outs ⟨d, hd, rfl, rfl⟩)
              | (refine Met.by (g := 12) (next_ct _ _) ?_; rintro q outs ⟨x, d, hx, rfl, rfl⟩)
              | (refine Met.by (g := 13) (erase_ct _ (by repeat first | assumption | exact start_ok | exact Cu.val.ok ‹_› | refine erase_ok ?_ | refine hand_ok ?_ | refine send_ok ?_ | refine begin_ok ?_ | refine finish_ok ?_) _) ?_; rintro q outs ⟨rfl, rfl⟩)
              | (refine Met.by (g := 14) (hand_ct _ (by repeat first | assumption | exact start_ok | exact Cu.val.ok ‹_› | refine erase_ok ?_ | refine hand_ok ?_ | refine send_ok ?_ | refine begin_ok ?_ | refine finish_ok ?_) _) ?_; rintro q outs ⟨rfl, rfl⟩)
              | (refine Met.by (g := 18) (start_ct _) ?_; rintro q outs ⟨rfl, rfl⟩)
              | (refine Met.by (g := 19) (begin_ct _ (by repeat first | assumption | exact start_ok | exact Cu.val.ok ‹_› | refine erase_ok ?_ | refine hand_ok ?_ | refine send_ok ?_ | refine begin_ok ?_ | refine finish_ok ?_)) ?_; rintro q outs ⟨rfl, rfl⟩)
              | (refine Met.by (g := 20) (send_ct _ (by repeat first | assumption | exact start_ok | exact Cu.val.ok ‹_› | refine erase_ok ?_ | refine hand_ok ?_ | refine send_ok ?_ | refine begin_ok ?_ | refine finish_ok ?_) _) ?_; rintro q outs ⟨rfl, rfl⟩)
              | (refine Met.by (g := 21) (finish_ct _ (by repeat first | assumption | exact start_ok | exact Cu.val.ok ‹_› | refine erase_ok ?_ | refine hand_ok ?_ | refine send_ok ?_ | refine begin_ok ?_ | refine finish_ok ?_)) ?_; rintro q outs ⟨rfl, rfl⟩)
              | (refine Met.by (g := 22) (check_ct _ (by repeat first | assumption | exact start_ok | exact Cu.val.ok ‹_› | refine erase_ok ?_ | refine hand_ok ?_ | refine send_ok ?_ | refine begin_ok ?_ | refine finish_ok ?_)) ?_; rintro q outs ⟨rfl, rfl⟩)
              | (refine Vc.mk ?_ (Step.out ?_))
        · clear hx r d
          intro ⟨d, x, e⟩ ⟨hx, he⟩
          dsimp only at hx he ⊢
          by_cases h0 : e = 0
          · have N := he h0
            have n1 := N.now
            have n2 := N.len
            have n3 := chk_len N.val
            have n4 : x.chk = 0 := N.val
            repeat' first
              | (refine Step.mk ?_; conv => whnf)
              | (refine Vc.om ?_ ?_; first | omega | with_reducible rfl | with_reducible exact ⟨rfl, fun _ _ => rfl⟩ | (simp only [bytes_2, bytes_3, bytes_4, bytes_5, bytes_9, bytes_12, bytes_21, bytes_22, bytes_25, bytes_27, bytes_28, bytes_31, bytes_41, bytes_43, bytes_44, bytes_45, bytes_49, bytes_51, bytes_62, bytes_71, bytes_75, bytes_78]; omega))
              | (refine NilB.mk fun b hb => Step.out ?_)
              | trivial
              | with_reducible rfl
              | with_reducible exact ⟨rfl, fun _ _ => rfl⟩
              | (refine Wr.i64 ?_ ?_; omega)
              | (refine Wr.u8 ?_ ?_; omega)
              | (refine Wr.i32 ?_ ?_; omega)
              | (refine Br.dT ?_ ?_; omega)
              | (refine Br.dF ?_ ?_; omega)
              | (exact .inr rfl)
              | (exact .inl rfl)
              | (refine Br.d (fun h => ?_) (fun h => ?_))
              | (refine Br.swap ?_)
              | (refine Br.bnot ?_)
              | (refine Br.mk (fun h => Step.out ?_) (fun h => Step.out ?_))
              | (refine Two.mk (Step.out ?_) (Step.out ?_))
              | (refine CallOK.io1 (g := 12) (Step.out ?_))
              | (refine CallOK.of_ct (Step.out ?_))
              | (refine Met.by (g := 8) (awake_ct) ?_; rintro q outs ⟨rfl, rfl⟩)
              | (refine Met.by (g := 9) (few_ct _) ?_; rintro q outs ⟨rfl, rfl⟩)
              | (refine Met.by (g := 10) (new_ct _ (by assumption)) ?_; rintro q outs ⟨d, hd, rfl, rfl⟩)
              | (refine Met.by (g := 12) (next_ct _ _) ?_; rintro q outs ⟨x, d, hx, rfl, rfl⟩)
              | (refine Met.by (g := 13) (erase_ct _ (by repeat first | assumption | exact start_ok | exact Cu.val.ok ‹_› | refine erase_ok ?_ | refine hand_ok ?_ | refine send_ok ?_ | refine begin_ok ?_ | refine finish_ok ?_) _) ?_; rintro q outs ⟨rfl, rfl⟩)
              | (refine Met.by (g := 14) (hand_ct _ (by repeat first | assumption | exact start_ok | exact Cu.val.ok ‹_› | refine erase_ok ?_ | refine hand_ok ?_ | refine send_ok ?_ | refine begin_ok ?_ | refine finish_ok ?_) _) ?_; rintro q outs ⟨rfl, rfl⟩)
              | (refine Met.by (g := 18) (start_ct _) ?_; rintro q outs ⟨rfl, rfl⟩)
              | (refine Met.by (g := 19) (begin_ct _ (by repeat first | assumption | exact start_ok | exact Cu.val.ok ‹_› | refine erase_ok ?_ | refine hand_ok ?_ | refine send_ok ?_ | refine begin_ok ?_ | refine finish_ok ?_)) ?_; rintro q outs ⟨rfl, rfl⟩)
              | (refine Met.by (g := 20) (send_ct _ (by repeat first | assumption | exact start_ok | exact Cu.val.ok ‹_› | refine erase_ok ?_ | refine hand_ok ?_ | refine send_ok ?_ | refine begin_ok ?_ | refine finish_ok ?_) _) ?_; rintro q outs ⟨rfl, rfl⟩)
              | (refine Met.by (g := 21) (finish_ct _ (by repeat first | assumption | exact start_ok | exact Cu.val.ok ‹_› | refine erase_ok ?_ | refine hand_ok ?_ | refine send_ok ?_ | refine begin_ok ?_ | refine finish_ok ?_)) ?_; rintro q outs ⟨rfl, rfl⟩)
              | (refine Met.by (g := 22) (check_ct _ (by repeat first | assumption | exact start_ok | exact Cu.val.ok ‹_› | refine erase_ok ?_ | refine hand_ok ?_ | refine send_ok ?_ | refine begin_ok ?_ | refine finish_ok ?_)) ?_; rintro q outs ⟨rfl, rfl⟩)
              | (refine Vc.mk ?_ (Step.out ?_))
            refine CodeOK.loopW hΓ hm ord5 [] (by kernel_rfl) (α := Nat) (fun i => [(3, .loc 0 0), (4, .loc 1 0), (6, i64 k), (8, .loc 2 0), (93, i64 c.holds.length), (94, i64 i)]) (fun i => [(0, .var d.ls), (1, .var c.l), (2, .var x.l)]) 3 (fun i => i ≤ c.holds.length) (fun i => c.holds.length - i) ?_ ?_
            · refine Again.by 0 (Nat.zero_le _) ?_
              repeat' first
                | (refine Step.mk ?_; conv => whnf)
                | (refine Vc.om ?_ ?_; first | omega | with_reducible rfl | with_reducible exact ⟨rfl, fun _ _ => rfl⟩ | (simp only [bytes_2, bytes_3, bytes_4, bytes_5, bytes_9, bytes_12, bytes_21, bytes_22, bytes_25, bytes_27, bytes_28, bytes_31, bytes_41, bytes_43, bytes_44, bytes_45, bytes_49, bytes_51, bytes_62, bytes_71, bytes_75, bytes_78]; omega))
                | (refine NilB.mk fun b hb => Step.out ?_)
                | trivial
                | with_reducible rfl
                | with_reducible exact ⟨rfl, fun _ _ => rfl⟩
                | (refine Wr.i64 ?_ ?_; omega)
                | (refine Wr.u8 ?_ ?_; omega)
                | (refine Wr.i32 ?_ ?_; omega)
                | (refine Br.dT ?_ ?_; omega)
                | (refine Br.dF ?_ ?_; omega)
                | (refine Br.d (fun h => ?_) (fun h => ?_))
                | (refine Br.swap ?_)
                | (refine Br.bnot ?_)
                | (refine Br.mk (fun h => Step.out ?_) (fun h => Step.out ?_))
                | (refine Two.mk (Step.out ?_) (Step.out ?_))
                | (refine CallOK.io1 (g := 12) (Step.out ?_))
                | (refine CallOK.of_ct (Step.out ?_))
                | (refine Met.by (g := 8) (awake_ct) ?_; rintro q outs ⟨rfl, rfl⟩)
                | (refine Met.by (g := 9) (few_ct _) ?_; rintro q outs ⟨rfl, rfl⟩)
                | (refine Met.by (g := 10) (new_ct _ (by assumption)) ?_; rintro q outs ⟨d, hd, rfl, rfl⟩)
                | (refine Met.by (g := 12) (next_ct _ _) ?_; rintro q outs ⟨x, d, hx, rfl, rfl⟩)
                | (refine Met.by (g := 13) (erase_ct _ (by repeat first | assumption | exact start_ok | exact Cu.val.ok ‹_› | refine erase_ok ?_ | refine hand_ok ?_ | refine send_ok ?_ | refine begin_ok ?_ | refine finish_ok ?_) _) ?_; rintro q outs ⟨rfl, rfl⟩)
                | (refine Met.by (g := 14) (hand_ct _ (by repeat first | assumption | exact start_ok | exact Cu.val.ok ‹_› | refine erase_ok ?_ | refine hand_ok ?_ | refine send_ok ?_ | refine begin_ok ?_ | refine finish_ok ?_) _) ?_; rintro q outs ⟨rfl, rfl⟩)
                | (refine Met.by (g := 18) (start_ct _) ?_; rintro q outs ⟨rfl, rfl⟩)
                | (refine Met.by (g := 19) (begin_ct _ (by repeat first | assumption | exact start_ok | exact Cu.val.ok ‹_› | refine erase_ok ?_ | refine hand_ok ?_ | refine send_ok ?_ | refine begin_ok ?_ | refine finish_ok ?_)) ?_; rintro q outs ⟨rfl, rfl⟩)
                | (refine Met.by (g := 20) (send_ct _ (by repeat first | assumption | exact start_ok | exact Cu.val.ok ‹_› | refine erase_ok ?_ | refine hand_ok ?_ | refine send_ok ?_ | refine begin_ok ?_ | refine finish_ok ?_) _) ?_; rintro q outs ⟨rfl, rfl⟩)
                | (refine Met.by (g := 21) (finish_ct _ (by repeat first | assumption | exact start_ok | exact Cu.val.ok ‹_› | refine erase_ok ?_ | refine hand_ok ?_ | refine send_ok ?_ | refine begin_ok ?_ | refine finish_ok ?_)) ?_; rintro q outs ⟨rfl, rfl⟩)
                | (refine Met.by (g := 22) (check_ct _ (by repeat first | assumption | exact start_ok | exact Cu.val.ok ‹_› | refine erase_ok ?_ | refine hand_ok ?_ | refine send_ok ?_ | refine begin_ok ?_ | refine finish_ok ?_)) ?_; rintro q outs ⟨rfl, rfl⟩)
                | (refine Vc.mk ?_ (Step.out ?_))
            · intro i hi
              repeat' first
                | (refine Step.mk ?_; conv => whnf)
                | (refine Vc.om ?_ ?_; first | omega | with_reducible rfl | with_reducible exact ⟨rfl, fun _ _ => rfl⟩ | (simp only [bytes_2, bytes_3, bytes_4, bytes_5, bytes_9, bytes_12, bytes_21, bytes_22, bytes_25, bytes_27, bytes_28, bytes_31, bytes_41, bytes_43, bytes_44, bytes_45, bytes_49, bytes_51, bytes_62, bytes_71, bytes_75, bytes_78]; omega))
                | (refine NilB.mk fun b hb => Step.out ?_)
                | trivial
                | with_reducible rfl
                | with_reducible exact ⟨rfl, fun _ _ => rfl⟩
                | (refine Wr.i64 ?_ ?_; omega)
                | (refine Wr.u8 ?_ ?_; omega)
                | (refine Wr.i32 ?_ ?_; omega)
                | (refine Br.dT ?_ ?_; omega)
                | (refine Br.dF ?_ ?_; omega)
                | (exact .inr rfl)
                | (exact .inl rfl)
                | (refine Br.d (fun h => ?_) (fun h => ?_))
                | (refine Br.swap ?_)
                | (refine Br.bnot ?_)
                | (refine Br.mk (fun h => Step.out ?_) (fun h => Step.out ?_))
                | (refine Two.mk (Step.out ?_) (Step.out ?_))
                | (refine CallOK.io1 (g := 12) (Step.out ?_))
                | (refine CallOK.of_ct (Step.out ?_))
                | (refine Met.by (g := 8) (awake_ct) ?_; rintro q outs ⟨rfl, rfl⟩)
                | (refine Met.by (g := 9) (few_ct _) ?_; rintro q outs ⟨rfl, rfl⟩)
                | (refine Met.by (g := 10) (new_ct _ (by assumption)) ?_; rintro q outs ⟨d, hd, rfl, rfl⟩)
                | (refine Met.by (g := 12) (next_ct _ _) ?_; rintro q outs ⟨x, d, hx, rfl, rfl⟩)
                | (refine Met.by (g := 13) (erase_ct _ (by repeat first | assumption | exact start_ok | exact Cu.val.ok ‹_› | refine erase_ok ?_ | refine hand_ok ?_ | refine send_ok ?_ | refine begin_ok ?_ | refine finish_ok ?_) _) ?_; rintro q outs ⟨rfl, rfl⟩)
                | (refine Met.by (g := 14) (hand_ct _ (by repeat first | assumption | exact start_ok | exact Cu.val.ok ‹_› | refine erase_ok ?_ | refine hand_ok ?_ | refine send_ok ?_ | refine begin_ok ?_ | refine finish_ok ?_) _) ?_; rintro q outs ⟨rfl, rfl⟩)
                | (refine Met.by (g := 18) (start_ct _) ?_; rintro q outs ⟨rfl, rfl⟩)
                | (refine Met.by (g := 19) (begin_ct _ (by repeat first | assumption | exact start_ok | exact Cu.val.ok ‹_› | refine erase_ok ?_ | refine hand_ok ?_ | refine send_ok ?_ | refine begin_ok ?_ | refine finish_ok ?_)) ?_; rintro q outs ⟨rfl, rfl⟩)
                | (refine Met.by (g := 20) (send_ct _ (by repeat first | assumption | exact start_ok | exact Cu.val.ok ‹_› | refine erase_ok ?_ | refine hand_ok ?_ | refine send_ok ?_ | refine begin_ok ?_ | refine finish_ok ?_) _) ?_; rintro q outs ⟨rfl, rfl⟩)
                | (refine Met.by (g := 21) (finish_ct _ (by repeat first | assumption | exact start_ok | exact Cu.val.ok ‹_› | refine erase_ok ?_ | refine hand_ok ?_ | refine send_ok ?_ | refine begin_ok ?_ | refine finish_ok ?_)) ?_; rintro q outs ⟨rfl, rfl⟩)
                | (refine Met.by (g := 22) (check_ct _ (by repeat first | assumption | exact start_ok | exact Cu.val.ok ‹_› | refine erase_ok ?_ | refine hand_ok ?_ | refine send_ok ?_ | refine begin_ok ?_ | refine finish_ok ?_)) ?_; rintro q outs ⟨rfl, rfl⟩)
                | (refine Vc.mk ?_ (Step.out ?_))
              all_goals try simp only [Int.toNat_natCast] at *
              all_goals first
                | (refine Again.by (i + 1) ⟨by omega, by omega⟩ ?_)
                | (refine Again.by (x, d, k + 1) ⟨⟨N.val, by dsimp only; omega⟩, by dsimp only; omega⟩ ?_; dsimp only)
                | (exfalso; have K := N.keep i (by omega); omega)
                | (exfalso; have A := N.all (by omega) i (by omega); omega)
              all_goals
                repeat' first
                  | (refine Step.mk ?_; conv => whnf)
                  | (refine Vc.om ?_ ?_; first | omega | with_reducible rfl | with_reducible exact ⟨rfl, fun _ _ => rfl⟩ | (simp only [bytes_2, bytes_3, bytes_4, bytes_5, bytes_9, bytes_12, bytes_21, bytes_22, bytes_25, bytes_27, bytes_28, bytes_31, bytes_41, bytes_43, bytes_44, bytes_45, bytes_49, bytes_51, bytes_62, bytes_71, bytes_75, bytes_78]; omega))
                  | (refine NilB.mk fun b hb => Step.out ?_)
                  | trivial
                  | with_reducible rfl
                  | with_reducible exact ⟨rfl, fun _ _ => rfl⟩
                  | (refine Wr.i64 ?_ ?_; omega)
                  | (refine Wr.u8 ?_ ?_; omega)
                  | (refine Wr.i32 ?_ ?_; omega)
                  | (refine Br.dT ?_ ?_; omega)
                  | (refine Br.dF ?_ ?_; omega)
                  | (refine Br.d (fun h => ?_) (fun h => ?_))
                  | (refine Br.swap ?_)
                  | (refine Br.bnot ?_)
                  | (refine Br.mk (fun h => Step.out ?_) (fun h => Step.out ?_))
                  | (refine Two.mk (Step.out ?_) (Step.out ?_))
                  | (refine CallOK.io1 (g := 12) (Step.out ?_))
                  | (refine CallOK.of_ct (Step.out ?_))
                  | (refine Met.by (g := 8) (awake_ct) ?_; rintro q outs ⟨rfl, rfl⟩)
                  | (refine Met.by (g := 9) (few_ct _) ?_; rintro q outs ⟨rfl, rfl⟩)
                  | (refine Met.by (g := 10) (new_ct _ (by assumption)) ?_; rintro q outs ⟨d, hd, rfl, rfl⟩)
                  | (refine Met.by (g := 12) (next_ct _ _) ?_; rintro q outs ⟨x, d, hx, rfl, rfl⟩)
                  | (refine Met.by (g := 13) (erase_ct _ (by repeat first | assumption | exact start_ok | exact Cu.val.ok ‹_› | refine erase_ok ?_ | refine hand_ok ?_ | refine send_ok ?_ | refine begin_ok ?_ | refine finish_ok ?_) _) ?_; rintro q outs ⟨rfl, rfl⟩)
                  | (refine Met.by (g := 14) (hand_ct _ (by repeat first | assumption | exact start_ok | exact Cu.val.ok ‹_› | refine erase_ok ?_ | refine hand_ok ?_ | refine send_ok ?_ | refine begin_ok ?_ | refine finish_ok ?_) _) ?_; rintro q outs ⟨rfl, rfl⟩)
                  | (refine Met.by (g := 18) (start_ct _) ?_; rintro q outs ⟨rfl, rfl⟩)
                  | (refine Met.by (g := 19) (begin_ct _ (by repeat first | assumption | exact start_ok | exact Cu.val.ok ‹_› | refine erase_ok ?_ | refine hand_ok ?_ | refine send_ok ?_ | refine begin_ok ?_ | refine finish_ok ?_)) ?_; rintro q outs ⟨rfl, rfl⟩)
                  | (refine Met.by (g := 20) (send_ct _ (by repeat first | assumption | exact start_ok | exact Cu.val.ok ‹_› | refine erase_ok ?_ | refine hand_ok ?_ | refine send_ok ?_ | refine begin_ok ?_ | refine finish_ok ?_) _) ?_; rintro q outs ⟨rfl, rfl⟩)
                  | (refine Met.by (g := 21) (finish_ct _ (by repeat first | assumption | exact start_ok | exact Cu.val.ok ‹_› | refine erase_ok ?_ | refine hand_ok ?_ | refine send_ok ?_ | refine begin_ok ?_ | refine finish_ok ?_)) ?_; rintro q outs ⟨rfl, rfl⟩)
                  | (refine Met.by (g := 22) (check_ct _ (by repeat first | assumption | exact start_ok | exact Cu.val.ok ‹_› | refine erase_ok ?_ | refine hand_ok ?_ | refine send_ok ?_ | refine begin_ok ?_ | refine finish_ok ?_)) ?_; rintro q outs ⟨rfl, rfl⟩)
                  | (refine Vc.mk ?_ (Step.out ?_))
          · repeat' first
              | (refine Step.mk ?_; conv => whnf)
              | (refine Vc.om ?_ ?_; first | omega | with_reducible rfl | with_reducible exact ⟨rfl, fun _ _ => rfl⟩ | (simp only [bytes_2, bytes_3, bytes_4, bytes_5, bytes_9, bytes_12, bytes_21, bytes_22, bytes_25, bytes_27, bytes_28, bytes_31, bytes_41, bytes_43, bytes_44, bytes_45, bytes_49, bytes_51, bytes_62, bytes_71, bytes_75, bytes_78]; omega))
              | (refine NilB.mk fun b hb => Step.out ?_)
              | trivial
              | with_reducible rfl
              | with_reducible exact ⟨rfl, fun _ _ => rfl⟩
              | (refine Wr.i64 ?_ ?_; omega)
              | (refine Wr.u8 ?_ ?_; omega)
              | (refine Wr.i32 ?_ ?_; omega)
              | (refine Br.dT ?_ ?_; omega)
              | (refine Br.dF ?_ ?_; omega)
              | (exact .inr rfl)
              | (exact .inl rfl)
              | (refine Br.d (fun h => ?_) (fun h => ?_))
              | (refine Br.swap ?_)
              | (refine Br.bnot ?_)
              | (refine Br.mk (fun h => Step.out ?_) (fun h => Step.out ?_))
              | (refine Two.mk (Step.out ?_) (Step.out ?_))
              | (refine CallOK.io1 (g := 12) (Step.out ?_))
              | (refine CallOK.of_ct (Step.out ?_))
              | (refine Met.by (g := 8) (awake_ct) ?_; rintro q outs ⟨rfl, rfl⟩)
              | (refine Met.by (g := 9) (few_ct _) ?_; rintro q outs ⟨rfl, rfl⟩)
              | (refine Met.by (g := 10) (new_ct _ (by assumption)) ?_; rintro q outs ⟨d, hd, rfl, rfl⟩)
              | (refine Met.by (g := 12) (next_ct _ _) ?_; rintro q outs ⟨x, d, hx, rfl, rfl⟩)
              | (refine Met.by (g := 13) (erase_ct _ (by repeat first | assumption | exact start_ok | exact Cu.val.ok ‹_› | refine erase_ok ?_ | refine hand_ok ?_ | refine send_ok ?_ | refine begin_ok ?_ | refine finish_ok ?_) _) ?_; rintro q outs ⟨rfl, rfl⟩)
              | (refine Met.by (g := 14) (hand_ct _ (by repeat first | assumption | exact start_ok | exact Cu.val.ok ‹_› | refine erase_ok ?_ | refine hand_ok ?_ | refine send_ok ?_ | refine begin_ok ?_ | refine finish_ok ?_) _) ?_; rintro q outs ⟨rfl, rfl⟩)
              | (refine Met.by (g := 18) (start_ct _) ?_; rintro q outs ⟨rfl, rfl⟩)
              | (refine Met.by (g := 19) (begin_ct _ (by repeat first | assumption | exact start_ok | exact Cu.val.ok ‹_› | refine erase_ok ?_ | refine hand_ok ?_ | refine send_ok ?_ | refine begin_ok ?_ | refine finish_ok ?_)) ?_; rintro q outs ⟨rfl, rfl⟩)
              | (refine Met.by (g := 20) (send_ct _ (by repeat first | assumption | exact start_ok | exact Cu.val.ok ‹_› | refine erase_ok ?_ | refine hand_ok ?_ | refine send_ok ?_ | refine begin_ok ?_ | refine finish_ok ?_) _) ?_; rintro q outs ⟨rfl, rfl⟩)
              | (refine Met.by (g := 21) (finish_ct _ (by repeat first | assumption | exact start_ok | exact Cu.val.ok ‹_› | refine erase_ok ?_ | refine hand_ok ?_ | refine send_ok ?_ | refine begin_ok ?_ | refine finish_ok ?_)) ?_; rintro q outs ⟨rfl, rfl⟩)
              | (refine Met.by (g := 22) (check_ct _ (by repeat first | assumption | exact start_ok | exact Cu.val.ok ‹_› | refine erase_ok ?_ | refine hand_ok ?_ | refine send_ok ?_ | refine begin_ok ?_ | refine finish_ok ?_)) ?_; rintro q outs ⟨rfl, rfl⟩)
              | (refine Vc.mk ?_ (Step.out ?_))
            refine Again.by (c, d, k + 1) ⟨⟨hv, by dsimp only; omega⟩, by dsimp only; omega⟩ ?_
            dsimp only
            repeat' first
              | (refine Step.mk ?_; conv => whnf)
              | (refine Vc.om ?_ ?_; first | omega | with_reducible rfl | with_reducible exact ⟨rfl, fun _ _ => rfl⟩ | (simp only [bytes_2, bytes_3, bytes_4, bytes_5, bytes_9, bytes_12, bytes_21, bytes_22, bytes_25, bytes_27, bytes_28, bytes_31, bytes_41, bytes_43, bytes_44, bytes_45, bytes_49, bytes_51, bytes_62, bytes_71, bytes_75, bytes_78]; omega))
              | (refine NilB.mk fun b hb => Step.out ?_)
              | trivial
              | with_reducible rfl
              | with_reducible exact ⟨rfl, fun _ _ => rfl⟩
              | (refine Wr.i64 ?_ ?_; omega)
              | (refine Wr.u8 ?_ ?_; omega)
              | (refine Wr.i32 ?_ ?_; omega)
              | (refine Br.dT ?_ ?_; omega)
              | (refine Br.dF ?_ ?_; omega)
              | (refine Br.d (fun h => ?_) (fun h => ?_))
              | (refine Br.swap ?_)
              | (refine Br.bnot ?_)
              | (refine Br.mk (fun h => Step.out ?_) (fun h => Step.out ?_))
              | (refine Two.mk (Step.out ?_) (Step.out ?_))
              | (refine CallOK.io1 (g := 12) (Step.out ?_))
              | (refine CallOK.of_ct (Step.out ?_))
              | (refine Met.by (g := 8) (awake_ct) ?_; rintro q outs ⟨rfl, rfl⟩)
              | (refine Met.by (g := 9) (few_ct _) ?_; rintro q outs ⟨rfl, rfl⟩)
              | (refine Met.by (g := 10) (new_ct _ (by assumption)) ?_; rintro q outs ⟨d, hd, rfl, rfl⟩)
              | (refine Met.by (g := 12) (next_ct _ _) ?_; rintro q outs ⟨x, d, hx, rfl, rfl⟩)
              | (refine Met.by (g := 13) (erase_ct _ (by repeat first | assumption | exact start_ok | exact Cu.val.ok ‹_› | refine erase_ok ?_ | refine hand_ok ?_ | refine send_ok ?_ | refine begin_ok ?_ | refine finish_ok ?_) _) ?_; rintro q outs ⟨rfl, rfl⟩)
              | (refine Met.by (g := 14) (hand_ct _ (by repeat first | assumption | exact start_ok | exact Cu.val.ok ‹_› | refine erase_ok ?_ | refine hand_ok ?_ | refine send_ok ?_ | refine begin_ok ?_ | refine finish_ok ?_) _) ?_; rintro q outs ⟨rfl, rfl⟩)
              | (refine Met.by (g := 18) (start_ct _) ?_; rintro q outs ⟨rfl, rfl⟩)
              | (refine Met.by (g := 19) (begin_ct _ (by repeat first | assumption | exact start_ok | exact Cu.val.ok ‹_› | refine erase_ok ?_ | refine hand_ok ?_ | refine send_ok ?_ | refine begin_ok ?_ | refine finish_ok ?_)) ?_; rintro q outs ⟨rfl, rfl⟩)
              | (refine Met.by (g := 20) (send_ct _ (by repeat first | assumption | exact start_ok | exact Cu.val.ok ‹_› | refine erase_ok ?_ | refine hand_ok ?_ | refine send_ok ?_ | refine begin_ok ?_ | refine finish_ok ?_) _) ?_; rintro q outs ⟨rfl, rfl⟩)
              | (refine Met.by (g := 21) (finish_ct _ (by repeat first | assumption | exact start_ok | exact Cu.val.ok ‹_› | refine erase_ok ?_ | refine hand_ok ?_ | refine send_ok ?_ | refine begin_ok ?_ | refine finish_ok ?_)) ?_; rintro q outs ⟨rfl, rfl⟩)
              | (refine Met.by (g := 22) (check_ct _ (by repeat first | assumption | exact start_ok | exact Cu.val.ok ‹_› | refine erase_ok ?_ | refine hand_ok ?_ | refine send_ok ?_ | refine begin_ok ?_ | refine finish_ok ?_)) ?_; rintro q outs ⟨rfl, rfl⟩)
              | (refine Vc.mk ?_ (Step.out ?_))
  · exact absurd (by unfold startS; rw [if_neg (by omega)]) h
end Kx
