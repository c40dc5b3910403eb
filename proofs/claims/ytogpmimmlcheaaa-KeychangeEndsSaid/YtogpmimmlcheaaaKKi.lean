/-
  KeychangeEnds.
  No condition beyond those written in each theorem.
-/
import Derived.Test.YtogpmimmlcheaaaKKg
import Derived.Test.YtogpmimmlcheaaaKKq
open Go Sx Go.Proofs
set_option linter.unusedSimpArgs false
set_option linter.unusedVariables false
namespace Kx
theorem ends_step {c x : Cu} {i : Nat} (hn : c.next ≠ 0) (hi : i < c.holds.length) (hI : ∀ j, j < i → c.holds.getD j 0 = c.next ∧ c.arrays.getD j 0 = c.next) (E : Done c i x) :
    (x.val ∧ x.next ≠ 0 ∧ i + 1 ≤ x.holds.length ∧ ∀ j, j < i + 1 → x.holds.getD j 0 = x.next ∧ x.arrays.getD j 0 = x.next) ∧ x.holds.length - (i + 1) < c.holds.length - i := by
  have e1 := E.len
  refine ⟨⟨E.val, by rw [E.next]; exact hn, by omega, fun j hj => ?_⟩, by omega⟩
  rw [E.next]
  by_cases e : j = i
  · subst e; exact ⟨E.h, E.a⟩
  · rw [E.oh j (by omega) e, E.oa j (by omega) e]; exact hI j (by omega)
theorem ends_A' {c : Cu} {r : Nat} (hv : c.val) (hn : c.next ≠ 0) (hr : r < c.holds.length) (hh : c.holds.getD (r : Int).toNat 0 = c.now) :
    (c.erase r).2 = 0 ∧ (c.erase r).1.holds.length = c.holds.length ∧ (c.erase r).1.holds.getD (r : Int).toNat 0 = 0 ∧ ((c.erase r).1.hand r).2 = 0 ∧ ((c.erase r).1.hand r).1.holds.length = c.holds.length ∧ (((c.erase r).1.hand r).1.send r).2 = 0 ∧ Done c r (((c.erase r).1.hand r).1.send r).1 := by
  rw [Int.toNat_natCast] at hh ⊢
  exact ends_A hv hn hr hh
theorem ends_B' {c : Cu} {r : Nat} (hv : c.val) (hn : c.next ≠ 0) (hr : r < c.holds.length) (hh : c.holds.getD (r : Int).toNat 0 = 0) : (c.hand r).2 = 0 ∧ (c.hand r).1.holds.length = c.holds.length ∧ ((c.hand r).1.send r).2 = 0 ∧ Done c r ((c.hand r).1.send r).1 := by
  rw [Int.toNat_natCast] at hh
  exact ends_B hv hn hr hh
theorem ends_C' {c : Cu} {r : Nat} (hv : c.val) (hn : c.next ≠ 0) (hr : r < c.holds.length) (h1 : ¬c.holds.getD (r : Int).toNat 0 = c.now) (h2 : ¬c.holds.getD (r : Int).toNat 0 = 0) : (c.send r).2 = 0 ∧ Done c r (c.send r).1 := by
  rw [Int.toNat_natCast] at h1 h2
  have := (val_iff.1 hv).2.2.1 _ (getD_mem (z := 0) hr)
  exact ends_C hv hn hr (by rcases this with h | h | h <;> first | exact absurd h h1 | exact absurd h h2 | exact h)
set_option maxHeartbeats 2000000 in
theorem ends_ct (l : List Int) : Ct Try.prog 6 [ints l] fun r _ => r = .bool true ∨ r = .lit true := by
  refine .of_W (fn := Try.f6) hΓ hm (by rfl) ord6 [4, 5] (by kernel_rfl) (Step.out ?_)
  repeat' first
    | (refine Step.mk ?_; conv => whnf)
    | (refine Vc.om ?_ ?_; first | omega | with_reducible rfl | with_reducible exact ⟨rfl, fun _ _ => rfl⟩ | (simp only [bytes_2, bytes_3, bytes_4, bytes_5, bytes_9, bytes_12, bytes_21, bytes_22, bytes_25, bytes_27, bytes_28, bytes_31, bytes_41, bytes_43, bytes_44, bytes_45, bytes_49, bytes_51, bytes_62, bytes_71, bytes_75, bytes_78]; omega))
    | (refine NilB.mk fun b hb => Step.out ?_)
    | trivial
    | with_reducible rfl
    | with_reducible exact ⟨rfl, fun _ _ => rfl⟩
    | (refine Wr.i64 ?_ ?_; omega)
    | (refine Wr.u8 ?_ ?_; omega)
    | (refine Wr.i32 ?_ ?_; omega)
    | (refine Br.dT ?_ ?_; omega)
    | (refine Br.dF ?_ ?_; omega)
    | (refine Vc.om ?_ ?_; focus (have := chk_len ‹Cu.val _›; omega; done))
    | (refine Wr.i64 ?_ ?_; focus (have := chk_len ‹Cu.val _›; omega; done))
    | (refine Wr.u8 ?_ ?_; focus (have := chk_len ‹Cu.val _›; omega; done))
    | (refine Br.dT ?_ ?_; focus (have := chk_len ‹Cu.val _›; omega; done))
    | (refine Br.dF ?_ ?_; focus (have := chk_len ‹Cu.val _›; omega; done))
    | (exact noSh_res _ _)
    | (exact .inr rfl)
    | (exact .inl rfl)
    | (refine Br.d (fun h => ?_) (fun h => ?_))
    | (refine Br.swap ?_)
    | (refine Br.bnot ?_)
    | (refine Br.mk (fun h => Step.out ?_) (fun h => Step.out ?_))
    | (refine Two.mk (Step.out ?_) (Step.out ?_))
    | (refine CallOK.io1 (g := 11) (Step.out ?_))
    | (refine CallOK.of_ct (Step.out ?_))
    | (refine Met.by (g := 8) (awake_ct) ?_; rintro q outs ⟨rfl, rfl⟩)
    | (refine Met.by (g := 9) (few_ct _) ?_; rintro q outs ⟨rfl, rfl⟩)
    | (refine Met.by (g := 10) (new_ct _ (by assumption)) ?_; rintro q outs ⟨d, hd, rfl, rfl⟩)
    | (refine Met.by (g := 11) (custody_ct _) ?_; rintro q outs ⟨c, d, hv, rfl, rfl⟩)
    | (refine Met.by (g := 13) (erase_ct _ (by repeat first | assumption | exact start_ok | exact Cu.val.ok ‹_› | refine erase_ok ?_ | refine hand_ok ?_ | refine send_ok ?_ | refine begin_ok ?_ | refine finish_ok ?_) _) ?_; rintro q outs ⟨rfl, rfl⟩)
    | (refine Met.by (g := 14) (hand_ct _ (by repeat first | assumption | exact start_ok | exact Cu.val.ok ‹_› | refine erase_ok ?_ | refine hand_ok ?_ | refine send_ok ?_ | refine begin_ok ?_ | refine finish_ok ?_) _) ?_; rintro q outs ⟨rfl, rfl⟩)
    | (refine Met.by (g := 17) (ready_ct _ (by repeat first | assumption | exact start_ok | exact Cu.val.ok ‹_› | refine erase_ok ?_ | refine hand_ok ?_ | refine send_ok ?_ | refine begin_ok ?_ | refine finish_ok ?_)) ?_; rintro q outs ⟨rfl, rfl⟩)
    | (refine Met.by (g := 19) (begin_ct _ (by repeat first | assumption | exact start_ok | exact Cu.val.ok ‹_› | refine erase_ok ?_ | refine hand_ok ?_ | refine send_ok ?_ | refine begin_ok ?_ | refine finish_ok ?_)) ?_; rintro q outs ⟨rfl, rfl⟩)
    | (refine Met.by (g := 20) (send_ct _ (by repeat first | assumption | exact start_ok | exact Cu.val.ok ‹_› | refine erase_ok ?_ | refine hand_ok ?_ | refine send_ok ?_ | refine begin_ok ?_ | refine finish_ok ?_) _) ?_; rintro q outs ⟨rfl, rfl⟩)
    | (refine Met.by (g := 21) (finish_ct _ (by repeat first | assumption | exact start_ok | exact Cu.val.ok ‹_› | refine erase_ok ?_ | refine hand_ok ?_ | refine send_ok ?_ | refine begin_ok ?_ | refine finish_ok ?_)) ?_; rintro q outs ⟨rfl, rfl⟩)
    | (refine Vc.mk ?_ (Step.out ?_))
  refine CodeOK.cutW hΓ hm ord6 [] (by kernel_rfl) (α := Cu) (fun z => [(3, .loc 0 0)]) (fun z => [(0, .var z.l)]) 1 (fun z => z.val ∧ z.next ≠ 0) ?_ ?_
  · repeat' first
      | (refine Step.mk ?_; conv => whnf)
      | (refine Vc.om ?_ ?_; first | omega | with_reducible rfl | with_reducible exact ⟨rfl, fun _ _ => rfl⟩ | (simp only [bytes_2, bytes_3, bytes_4, bytes_5, bytes_9, bytes_12, bytes_21, bytes_22, bytes_25, bytes_27, bytes_28, bytes_31, bytes_41, bytes_43, bytes_44, bytes_45, bytes_49, bytes_51, bytes_62, bytes_71, bytes_75, bytes_78]; omega))
      | (refine NilB.mk fun b hb => Step.out ?_)
      | trivial
      | with_reducible rfl
      | with_reducible exact ⟨rfl, fun _ _ => rfl⟩
      | (refine Wr.i64 ?_ ?_; omega)
      | (refine Wr.u8 ?_ ?_; omega)
      | (refine Wr.i32 ?_ ?_; omega)
      | (refine Br.dT ?_ ?_; omega)
      | (refine Br.dF ?_ ?_; omega)
      | (exact noSh_res _ _)
      | (refine Br.d (fun h => ?_) (fun h => ?_))
      | (refine Br.swap ?_)
      | (refine Br.bnot ?_)
      | (refine Br.mk (fun h => Step.out ?_) (fun h => Step.out ?_))
      | (refine Two.mk (Step.out ?_) (Step.out ?_))
      | (refine CallOK.io1 (g := 11) (Step.out ?_))
      | (refine CallOK.of_ct (Step.out ?_))
      | (refine Met.by (g := 8) (awake_ct) ?_; rintro q outs ⟨rfl, rfl⟩)
      | (refine Met.by (g := 9) (few_ct _) ?_; rintro q outs ⟨rfl, rfl⟩)
      | (refine Met.by (g := 10) (new_ct _ (by assumption)) ?_; rintro q outs ⟨d, hd, rfl, rfl⟩)
      | (refine Met.by (g := 11) (custody_ct _) ?_; rintro q outs ⟨c, d, hv, rfl, rfl⟩)
      | (refine Met.by (g := 13) (erase_ct _ (by repeat first | assumption | exact start_ok | exact Cu.val.ok ‹_› | refine erase_ok ?_ | refine hand_ok ?_ | refine send_ok ?_ | refine begin_ok ?_ | refine finish_ok ?_) _) ?_; rintro q outs ⟨rfl, rfl⟩)
      | (refine Met.by (g := 14) (hand_ct _ (by repeat first | assumption | exact start_ok | exact Cu.val.ok ‹_› | refine erase_ok ?_ | refine hand_ok ?_ | refine send_ok ?_ | refine begin_ok ?_ | refine finish_ok ?_) _) ?_; rintro q outs ⟨rfl, rfl⟩)
      | (refine Met.by (g := 17) (ready_ct _ (by repeat first | assumption | exact start_ok | exact Cu.val.ok ‹_› | refine erase_ok ?_ | refine hand_ok ?_ | refine send_ok ?_ | refine begin_ok ?_ | refine finish_ok ?_)) ?_; rintro q outs ⟨rfl, rfl⟩)
      | (refine Met.by (g := 19) (begin_ct _ (by repeat first | assumption | exact start_ok | exact Cu.val.ok ‹_› | refine erase_ok ?_ | refine hand_ok ?_ | refine send_ok ?_ | refine begin_ok ?_ | refine finish_ok ?_)) ?_; rintro q outs ⟨rfl, rfl⟩)
      | (refine Met.by (g := 20) (send_ct _ (by repeat first | assumption | exact start_ok | exact Cu.val.ok ‹_› | refine erase_ok ?_ | refine hand_ok ?_ | refine send_ok ?_ | refine begin_ok ?_ | refine finish_ok ?_) _) ?_; rintro q outs ⟨rfl, rfl⟩)
      | (refine Met.by (g := 21) (finish_ct _ (by repeat first | assumption | exact start_ok | exact Cu.val.ok ‹_› | refine erase_ok ?_ | refine hand_ok ?_ | refine send_ok ?_ | refine begin_ok ?_ | refine finish_ok ?_)) ?_; rintro q outs ⟨rfl, rfl⟩)
      | (refine Vc.mk ?_ (Step.out ?_))
    · have hb := begin_nxt h
      refine Again.by c.begin_.1 ⟨hb.1.val, ?_⟩ ?_
      · have hl := chk_len hv
        rw [hb.2.1]; dsimp only; omega
      · repeat' first
          | (refine Step.mk ?_; conv => whnf)
          | (refine Vc.om ?_ ?_; first | omega | with_reducible rfl | with_reducible exact ⟨rfl, fun _ _ => rfl⟩ | (simp only [bytes_2, bytes_3, bytes_4, bytes_5, bytes_9, bytes_12, bytes_21, bytes_22, bytes_25, bytes_27, bytes_28, bytes_31, bytes_41, bytes_43, bytes_44, bytes_45, bytes_49, bytes_51, bytes_62, bytes_71, bytes_75, bytes_78]; omega))
          | (refine NilB.mk fun b hb => Step.out ?_)
          | trivial
          | with_reducible rfl
          | with_reducible exact ⟨rfl, fun _ _ => rfl⟩
          | (refine Wr.i64 ?_ ?_; omega)
          | (refine Wr.u8 ?_ ?_; omega)
          | (refine Wr.i32 ?_ ?_; omega)
          | (refine Br.dT ?_ ?_; omega)
          | (refine Br.dF ?_ ?_; omega)
          | (refine Br.d (fun h => ?_) (fun h => ?_))
          | (refine Br.swap ?_)
          | (refine Br.bnot ?_)
          | (refine Br.mk (fun h => Step.out ?_) (fun h => Step.out ?_))
          | (refine Two.mk (Step.out ?_) (Step.out ?_))
          | (refine CallOK.io1 (g := 11) (Step.out ?_))
          | (refine CallOK.of_ct (Step.out ?_))
          | (refine Met.by (g := 8) (awake_ct) ?_; rintro q outs ⟨rfl, rfl⟩)
          | (refine Met.by (g := 9) (few_ct _) ?_; rintro q outs ⟨rfl, rfl⟩)
          | (refine Met.by (g := 10) (new_ct _ (by assumption)) ?_; rintro q outs ⟨d, hd, rfl, rfl⟩)
          | (refine Met.by (g := 11) (custody_ct _) ?_; rintro q outs ⟨c, d, hv, rfl, rfl⟩)
          | (refine Met.by (g := 13) (erase_ct _ (by repeat first | assumption | exact start_ok | exact Cu.val.ok ‹_› | refine erase_ok ?_ | refine hand_ok ?_ | refine send_ok ?_ | refine begin_ok ?_ | refine finish_ok ?_) _) ?_; rintro q outs ⟨rfl, rfl⟩)
          | (refine Met.by (g := 14) (hand_ct _ (by repeat first | assumption | exact start_ok | exact Cu.val.ok ‹_› | refine erase_ok ?_ | refine hand_ok ?_ | refine send_ok ?_ | refine begin_ok ?_ | refine finish_ok ?_) _) ?_; rintro q outs ⟨rfl, rfl⟩)
          | (refine Met.by (g := 17) (ready_ct _ (by repeat first | assumption | exact start_ok | exact Cu.val.ok ‹_› | refine erase_ok ?_ | refine hand_ok ?_ | refine send_ok ?_ | refine begin_ok ?_ | refine finish_ok ?_)) ?_; rintro q outs ⟨rfl, rfl⟩)
          | (refine Met.by (g := 19) (begin_ct _ (by repeat first | assumption | exact start_ok | exact Cu.val.ok ‹_› | refine erase_ok ?_ | refine hand_ok ?_ | refine send_ok ?_ | refine begin_ok ?_ | refine finish_ok ?_)) ?_; rintro q outs ⟨rfl, rfl⟩)
          | (refine Met.by (g := 20) (send_ct _ (by repeat first | assumption | exact start_ok | exact Cu.val.ok ‹_› | refine erase_ok ?_ | refine hand_ok ?_ | refine send_ok ?_ | refine begin_ok ?_ | refine finish_ok ?_) _) ?_; rintro q outs ⟨rfl, rfl⟩)
          | (refine Met.by (g := 21) (finish_ct _ (by repeat first | assumption | exact start_ok | exact Cu.val.ok ‹_› | refine erase_ok ?_ | refine hand_ok ?_ | refine send_ok ?_ | refine begin_ok ?_ | refine finish_ok ?_)) ?_; rintro q outs ⟨rfl, rfl⟩)
          | (refine Vc.mk ?_ (Step.out ?_))
    · rcases begin_go hv (by assumption) with ⟨h1, _⟩ | h1
      · exact absurd h1 h
      · exact .inl (by rw [h1]; rfl)
    · refine Again.by c ⟨hv, h⟩ ?_
      repeat' first
        | (refine Step.mk ?_; conv => whnf)
        | (refine Vc.om ?_ ?_; first | omega | with_reducible rfl | with_reducible exact ⟨rfl, fun _ _ => rfl⟩ | (simp only [bytes_2, bytes_3, bytes_4, bytes_5, bytes_9, bytes_12, bytes_21, bytes_22, bytes_25, bytes_27, bytes_28, bytes_31, bytes_41, bytes_43, bytes_44, bytes_45, bytes_49, bytes_51, bytes_62, bytes_71, bytes_75, bytes_78]; omega))
        | (refine NilB.mk fun b hb => Step.out ?_)
        | trivial
        | with_reducible rfl
        | with_reducible exact ⟨rfl, fun _ _ => rfl⟩
        | (refine Wr.i64 ?_ ?_; omega)
        | (refine Wr.u8 ?_ ?_; omega)
        | (refine Wr.i32 ?_ ?_; omega)
        | (refine Br.dT ?_ ?_; omega)
        | (refine Br.dF ?_ ?_; omega)
        | (refine Br.d (fun h => ?_) (fun h => ?_))
        | (refine Br.swap ?_)
        | (refine Br.bnot ?_)
        | (refine Br.mk (fun h => Step.out ?_) (fun h => Step.out ?_))
        | (refine Two.mk (Step.out ?_) (Step.out ?_))
        | (refine CallOK.io1 (g := 11) (Step.out ?_))
        | (refine CallOK.of_ct (Step.out ?_))
        | (refine Met.by (g := 8) (awake_ct) ?_; rintro q outs ⟨rfl, rfl⟩)
        | (refine Met.by (g := 9) (few_ct _) ?_; rintro q outs ⟨rfl, rfl⟩)
        | (refine Met.by (g := 10) (new_ct _ (by assumption)) ?_; rintro q outs ⟨d, hd, rfl, rfl⟩)
        | (refine Met.by (g := 11) (custody_ct _) ?_; rintro q outs ⟨c, d, hv, rfl, rfl⟩)
        | (refine Met.by (g := 13) (erase_ct _ (by repeat first | assumption | exact start_ok | exact Cu.val.ok ‹_› | refine erase_ok ?_ | refine hand_ok ?_ | refine send_ok ?_ | refine begin_ok ?_ | refine finish_ok ?_) _) ?_; rintro q outs ⟨rfl, rfl⟩)
        | (refine Met.by (g := 14) (hand_ct _ (by repeat first | assumption | exact start_ok | exact Cu.val.ok ‹_› | refine erase_ok ?_ | refine hand_ok ?_ | refine send_ok ?_ | refine begin_ok ?_ | refine finish_ok ?_) _) ?_; rintro q outs ⟨rfl, rfl⟩)
        | (refine Met.by (g := 17) (ready_ct _ (by repeat first | assumption | exact start_ok | exact Cu.val.ok ‹_› | refine erase_ok ?_ | refine hand_ok ?_ | refine send_ok ?_ | refine begin_ok ?_ | refine finish_ok ?_)) ?_; rintro q outs ⟨rfl, rfl⟩)
        | (refine Met.by (g := 19) (begin_ct _ (by repeat first | assumption | exact start_ok | exact Cu.val.ok ‹_› | refine erase_ok ?_ | refine hand_ok ?_ | refine send_ok ?_ | refine begin_ok ?_ | refine finish_ok ?_)) ?_; rintro q outs ⟨rfl, rfl⟩)
        | (refine Met.by (g := 20) (send_ct _ (by repeat first | assumption | exact start_ok | exact Cu.val.ok ‹_› | refine erase_ok ?_ | refine hand_ok ?_ | refine send_ok ?_ | refine begin_ok ?_ | refine finish_ok ?_) _) ?_; rintro q outs ⟨rfl, rfl⟩)
        | (refine Met.by (g := 21) (finish_ct _ (by repeat first | assumption | exact start_ok | exact Cu.val.ok ‹_› | refine erase_ok ?_ | refine hand_ok ?_ | refine send_ok ?_ | refine begin_ok ?_ | refine finish_ok ?_)) ?_; rintro q outs ⟨rfl, rfl⟩)
        | (refine Vc.mk ?_ (Step.out ?_))
  · clear hv
    intro c ⟨hv, hn⟩
    have hl := chk_len hv
    repeat' first
      | (refine Step.mk ?_; conv => whnf)
      | (refine Vc.om ?_ ?_; first | omega | with_reducible rfl | with_reducible exact ⟨rfl, fun _ _ => rfl⟩ | (simp only [bytes_2, bytes_3, bytes_4, bytes_5, bytes_9, bytes_12, bytes_21, bytes_22, bytes_25, bytes_27, bytes_28, bytes_31, bytes_41, bytes_43, bytes_44, bytes_45, bytes_49, bytes_51, bytes_62, bytes_71, bytes_75, bytes_78]; omega))
      | (refine NilB.mk fun b hb => Step.out ?_)
      | trivial
      | with_reducible rfl
      | with_reducible exact ⟨rfl, fun _ _ => rfl⟩
      | (refine Wr.i64 ?_ ?_; omega)
      | (refine Wr.u8 ?_ ?_; omega)
      | (refine Wr.i32 ?_ ?_; omega)
      | (refine Br.dT ?_ ?_; omega)
      | (refine Br.dF ?_ ?_; omega)
      | (refine Br.d (fun h => ?_) (fun h => ?_))
      | (refine Br.swap ?_)
      | (refine Br.bnot ?_)
      | (refine Br.mk (fun h => Step.out ?_) (fun h => Step.out ?_))
      | (refine Two.mk (Step.out ?_) (Step.out ?_))
      | (refine CallOK.io1 (g := 11) (Step.out ?_))
      | (refine CallOK.of_ct (Step.out ?_))
      | (refine Met.by (g := 8) (awake_ct) ?_; rintro q outs ⟨rfl, rfl⟩)
      | (refine Met.by (g := 9) (few_ct _) ?_; rintro q outs ⟨rfl, rfl⟩)
      | (refine Met.by (g := 10) (new_ct _ (by assumption)) ?_; rintro q outs ⟨d, hd, rfl, rfl⟩)
      | (refine Met.by (g := 11) (custody_ct _) ?_; rintro q outs ⟨c, d, hv, rfl, rfl⟩)
      | (refine Met.by (g := 13) (erase_ct _ (by repeat first | assumption | exact start_ok | exact Cu.val.ok ‹_› | refine erase_ok ?_ | refine hand_ok ?_ | refine send_ok ?_ | refine begin_ok ?_ | refine finish_ok ?_) _) ?_; rintro q outs ⟨rfl, rfl⟩)
      | (refine Met.by (g := 14) (hand_ct _ (by repeat first | assumption | exact start_ok | exact Cu.val.ok ‹_› | refine erase_ok ?_ | refine hand_ok ?_ | refine send_ok ?_ | refine begin_ok ?_ | refine finish_ok ?_) _) ?_; rintro q outs ⟨rfl, rfl⟩)
      | (refine Met.by (g := 17) (ready_ct _ (by repeat first | assumption | exact start_ok | exact Cu.val.ok ‹_› | refine erase_ok ?_ | refine hand_ok ?_ | refine send_ok ?_ | refine begin_ok ?_ | refine finish_ok ?_)) ?_; rintro q outs ⟨rfl, rfl⟩)
      | (refine Met.by (g := 19) (begin_ct _ (by repeat first | assumption | exact start_ok | exact Cu.val.ok ‹_› | refine erase_ok ?_ | refine hand_ok ?_ | refine send_ok ?_ | refine begin_ok ?_ | refine finish_ok ?_)) ?_; rintro q outs ⟨rfl, rfl⟩)
      | (refine Met.by (g := 20) (send_ct _ (by repeat first | assumption | exact start_ok | exact Cu.val.ok ‹_› | refine erase_ok ?_ | refine hand_ok ?_ | refine send_ok ?_ | refine begin_ok ?_ | refine finish_ok ?_) _) ?_; rintro q outs ⟨rfl, rfl⟩)
      | (refine Met.by (g := 21) (finish_ct _ (by repeat first | assumption | exact start_ok | exact Cu.val.ok ‹_› | refine erase_ok ?_ | refine hand_ok ?_ | refine send_ok ?_ | refine begin_ok ?_ | refine finish_ok ?_)) ?_; rintro q outs ⟨rfl, rfl⟩)
      | (refine Vc.mk ?_ (Step.out ?_))
    refine CodeOK.loopW hΓ hm ord6 [] (by kernel_rfl) (α := Cu × Nat) (fun z => [(3, .loc 0 0), (6, i64 z.1.next), (43, i64 z.1.holds.length), (44, i64 z.2)]) (fun z => [(0, .var z.1.l)]) 1 (fun z => z.1.val ∧ z.1.next ≠ 0 ∧ z.2 ≤ z.1.holds.length ∧ ∀ j, j < z.2 → z.1.holds.getD j 0 = z.1.next ∧ z.1.arrays.getD j 0 = z.1.next) (fun z => z.1.holds.length - z.2) ?_ ?_
    · refine Again.by (c, 0) ⟨hv, hn, Nat.zero_le _, fun j hj => absurd hj (Nat.not_lt_zero j)⟩ ?_
      dsimp only
      repeat' first
        | (refine Step.mk ?_; conv => whnf)
        | (refine Vc.om ?_ ?_; first | omega | with_reducible rfl | with_reducible exact ⟨rfl, fun _ _ => rfl⟩ | (simp only [bytes_2, bytes_3, bytes_4, bytes_5, bytes_9, bytes_12, bytes_21, bytes_22, bytes_25, bytes_27, bytes_28, bytes_31, bytes_41, bytes_43, bytes_44, bytes_45, bytes_49, bytes_51, bytes_62, bytes_71, bytes_75, bytes_78]; omega))
        | (refine NilB.mk fun b hb => Step.out ?_)
        | trivial
        | with_reducible rfl
        | with_reducible exact ⟨rfl, fun _ _ => rfl⟩
        | (refine Wr.i64 ?_ ?_; omega)
        | (refine Wr.u8 ?_ ?_; omega)
        | (refine Wr.i32 ?_ ?_; omega)
        | (refine Br.dT ?_ ?_; omega)
        | (refine Br.dF ?_ ?_; omega)
        | (refine Br.d (fun h => ?_) (fun h => ?_))
        | (refine Br.swap ?_)
        | (refine Br.bnot ?_)
        | (refine Br.mk (fun h => Step.out ?_) (fun h => Step.out ?_))
        | (refine Two.mk (Step.out ?_) (Step.out ?_))
        | (refine CallOK.io1 (g := 11) (Step.out ?_))
        | (refine CallOK.of_ct (Step.out ?_))
        | (refine Met.by (g := 8) (awake_ct) ?_; rintro q outs ⟨rfl, rfl⟩)
        | (refine Met.by (g := 9) (few_ct _) ?_; rintro q outs ⟨rfl, rfl⟩)
        | (refine Met.by (g := 10) (new_ct _ (by assumption)) ?_; rintro q outs ⟨d, hd, rfl, rfl⟩)
        | (refine Met.by (g := 11) (custody_ct _) ?_; rintro q outs ⟨c, d, hv, rfl, rfl⟩)
        | (refine Met.by (g := 13) (erase_ct _ (by repeat first | assumption | exact start_ok | exact Cu.val.ok ‹_› | refine erase_ok ?_ | refine hand_ok ?_ | refine send_ok ?_ | refine begin_ok ?_ | refine finish_ok ?_) _) ?_; rintro q outs ⟨rfl, rfl⟩)
        | (refine Met.by (g := 14) (hand_ct _ (by repeat first | assumption | exact start_ok | exact Cu.val.ok ‹_› | refine erase_ok ?_ | refine hand_ok ?_ | refine send_ok ?_ | refine begin_ok ?_ | refine finish_ok ?_) _) ?_; rintro q outs ⟨rfl, rfl⟩)
        | (refine Met.by (g := 17) (ready_ct _ (by repeat first | assumption | exact start_ok | exact Cu.val.ok ‹_› | refine erase_ok ?_ | refine hand_ok ?_ | refine send_ok ?_ | refine begin_ok ?_ | refine finish_ok ?_)) ?_; rintro q outs ⟨rfl, rfl⟩)
        | (refine Met.by (g := 19) (begin_ct _ (by repeat first | assumption | exact start_ok | exact Cu.val.ok ‹_› | refine erase_ok ?_ | refine hand_ok ?_ | refine send_ok ?_ | refine begin_ok ?_ | refine finish_ok ?_)) ?_; rintro q outs ⟨rfl, rfl⟩)
        | (refine Met.by (g := 20) (send_ct _ (by repeat first | assumption | exact start_ok | exact Cu.val.ok ‹_› | refine erase_ok ?_ | refine hand_ok ?_ | refine send_ok ?_ | refine begin_ok ?_ | refine finish_ok ?_) _) ?_; rintro q outs ⟨rfl, rfl⟩)
        | (refine Met.by (g := 21) (finish_ct _ (by repeat first | assumption | exact start_ok | exact Cu.val.ok ‹_› | refine erase_ok ?_ | refine hand_ok ?_ | refine send_ok ?_ | refine begin_ok ?_ | refine finish_ok ?_)) ?_; rintro q outs ⟨rfl, rfl⟩)
        | (refine Vc.mk ?_ (Step.out ?_))
    · clear hv hn hl
      intro ⟨c, i⟩ ⟨hv, hn, hi, hI⟩
      dsimp only at hv hn hi hI ⊢
      have hl := chk_len hv
      repeat' first
        | (refine Step.mk ?_; conv => whnf)
        | (refine Vc.om ?_ ?_; first | omega | with_reducible rfl | with_reducible exact ⟨rfl, fun _ _ => rfl⟩ | (simp only [bytes_2, bytes_3, bytes_4, bytes_5, bytes_9, bytes_12, bytes_21, bytes_22, bytes_25, bytes_27, bytes_28, bytes_31, bytes_41, bytes_43, bytes_44, bytes_45, bytes_49, bytes_51, bytes_62, bytes_71, bytes_75, bytes_78]; omega))
        | (refine NilB.mk fun b hb => Step.out ?_)
        | trivial
        | with_reducible rfl
        | with_reducible exact ⟨rfl, fun _ _ => rfl⟩
        | (refine Wr.i64 ?_ ?_; omega)
        | (refine Wr.u8 ?_ ?_; omega)
        | (refine Wr.i32 ?_ ?_; omega)
        | (refine Br.dT ?_ ?_; omega)
        | (refine Br.dF ?_ ?_; omega)
        | (exact noSh_res _ _)
        | (exact .inr rfl)
        | (exact .inl rfl)
        | (refine Vc.om ?_ ?_; focus (obtain ⟨e1, e2, e3, e4, e5, e6, e7⟩ := ends_A' (r := i) hv hn (by omega) (by assumption); first | assumption | omega; done))
        | (refine Wr.i64 ?_ ?_; focus (obtain ⟨e1, e2, e3, e4, e5, e6, e7⟩ := ends_A' (r := i) hv hn (by omega) (by assumption); first | assumption | omega; done))
        | (refine Wr.u8 ?_ ?_; focus (obtain ⟨e1, e2, e3, e4, e5, e6, e7⟩ := ends_A' (r := i) hv hn (by omega) (by assumption); first | assumption | omega; done))
        | (refine Br.dT ?_ ?_; focus (obtain ⟨e1, e2, e3, e4, e5, e6, e7⟩ := ends_A' (r := i) hv hn (by omega) (by assumption); first | assumption | omega; done))
        | (refine Br.dF ?_ ?_; focus (obtain ⟨e1, e2, e3, e4, e5, e6, e7⟩ := ends_A' (r := i) hv hn (by omega) (by assumption); first | assumption | omega; done))
        | (refine Vc.om ?_ ?_; focus (obtain ⟨e1, e2, e3, e4⟩ := ends_B' (r := i) hv hn (by omega) (by assumption); first | assumption | omega; done))
        | (refine Wr.i64 ?_ ?_; focus (obtain ⟨e1, e2, e3, e4⟩ := ends_B' (r := i) hv hn (by omega) (by assumption); first | assumption | omega; done))
        | (refine Wr.u8 ?_ ?_; focus (obtain ⟨e1, e2, e3, e4⟩ := ends_B' (r := i) hv hn (by omega) (by assumption); first | assumption | omega; done))
        | (refine Br.dT ?_ ?_; focus (obtain ⟨e1, e2, e3, e4⟩ := ends_B' (r := i) hv hn (by omega) (by assumption); first | assumption | omega; done))
        | (refine Br.dF ?_ ?_; focus (obtain ⟨e1, e2, e3, e4⟩ := ends_B' (r := i) hv hn (by omega) (by assumption); first | assumption | omega; done))
        | (refine Vc.om ?_ ?_; focus (obtain ⟨e1, e2⟩ := ends_C' (r := i) hv hn (by omega) (by assumption) (by assumption); first | assumption | omega; done))
        | (refine Wr.i64 ?_ ?_; focus (obtain ⟨e1, e2⟩ := ends_C' (r := i) hv hn (by omega) (by assumption) (by assumption); first | assumption | omega; done))
        | (refine Wr.u8 ?_ ?_; focus (obtain ⟨e1, e2⟩ := ends_C' (r := i) hv hn (by omega) (by assumption) (by assumption); first | assumption | omega; done))
        | (refine Br.dT ?_ ?_; focus (obtain ⟨e1, e2⟩ := ends_C' (r := i) hv hn (by omega) (by assumption) (by assumption); first | assumption | omega; done))
        | (refine Br.dF ?_ ?_; focus (obtain ⟨e1, e2⟩ := ends_C' (r := i) hv hn (by omega) (by assumption) (by assumption); first | assumption | omega; done))
        | (refine Vc.om ?_ ?_; focus (obtain ⟨e1, e2, e3, e4⟩ := ends_fin hv hn (fun j hj => hI j (by omega)); first | assumption | omega; done))
        | (refine Wr.i64 ?_ ?_; focus (obtain ⟨e1, e2, e3, e4⟩ := ends_fin hv hn (fun j hj => hI j (by omega)); first | assumption | omega; done))
        | (refine Wr.u8 ?_ ?_; focus (obtain ⟨e1, e2, e3, e4⟩ := ends_fin hv hn (fun j hj => hI j (by omega)); first | assumption | omega; done))
        | (refine Br.dT ?_ ?_; focus (obtain ⟨e1, e2, e3, e4⟩ := ends_fin hv hn (fun j hj => hI j (by omega)); first | assumption | omega; done))
        | (refine Br.dF ?_ ?_; focus (obtain ⟨e1, e2, e3, e4⟩ := ends_fin hv hn (fun j hj => hI j (by omega)); first | assumption | omega; done))
        | (refine Br.d (fun h => ?_) (fun h => ?_))
        | (refine Br.swap ?_)
        | (refine Br.bnot ?_)
        | (refine Br.mk (fun h => Step.out ?_) (fun h => Step.out ?_))
        | (refine Two.mk (Step.out ?_) (Step.out ?_))
        | (refine CallOK.io1 (g := 11) (Step.out ?_))
        | (refine CallOK.of_ct (Step.out ?_))
        | (refine Met.by (g := 8) (awake_ct) ?_; rintro q outs ⟨rfl, rfl⟩)
        | (refine Met.by (g := 9) (few_ct _) ?_; rintro q outs ⟨rfl, rfl⟩)
        | (refine Met.by (g := 10) (new_ct _ (by assumption)) ?_; rintro q outs ⟨d, hd, rfl, rfl⟩)
        | (refine Met.by (g := 11) (custody_ct _) ?_; rintro q outs ⟨c, d, hv, rfl, rfl⟩)
        | (refine Met.by (g := 13) (erase_ct _ (by repeat first | assumption | exact start_ok | exact Cu.val.ok ‹_› | refine erase_ok ?_ | refine hand_ok ?_ | refine send_ok ?_ | refine begin_ok ?_ | refine finish_ok ?_) _) ?_; rintro q outs ⟨rfl, rfl⟩)
        | (refine Met.by (g := 14) (hand_ct _ (by repeat first | assumption | exact start_ok | exact Cu.val.ok ‹_› | refine erase_ok ?_ | refine hand_ok ?_ | refine send_ok ?_ | refine begin_ok ?_ | refine finish_ok ?_) _) ?_; rintro q outs ⟨rfl, rfl⟩)
        | (refine Met.by (g := 17) (ready_ct _ (by repeat first | assumption | exact start_ok | exact Cu.val.ok ‹_› | refine erase_ok ?_ | refine hand_ok ?_ | refine send_ok ?_ | refine begin_ok ?_ | refine finish_ok ?_)) ?_; rintro q outs ⟨rfl, rfl⟩)
        | (refine Met.by (g := 19) (begin_ct _ (by repeat first | assumption | exact start_ok | exact Cu.val.ok ‹_› | refine erase_ok ?_ | refine hand_ok ?_ | refine send_ok ?_ | refine begin_ok ?_ | refine finish_ok ?_)) ?_; rintro q outs ⟨rfl, rfl⟩)
        | (refine Met.by (g := 20) (send_ct _ (by repeat first | assumption | exact start_ok | exact Cu.val.ok ‹_› | refine erase_ok ?_ | refine hand_ok ?_ | refine send_ok ?_ | refine begin_ok ?_ | refine finish_ok ?_) _) ?_; rintro q outs ⟨rfl, rfl⟩)
        | (refine Met.by (g := 21) (finish_ct _ (by repeat first | assumption | exact start_ok | exact Cu.val.ok ‹_› | refine erase_ok ?_ | refine hand_ok ?_ | refine send_ok ?_ | refine begin_ok ?_ | refine finish_ok ?_)) ?_; rintro q outs ⟨rfl, rfl⟩)
        | (refine Vc.mk ?_ (Step.out ?_))
      · obtain ⟨_, _, _, _, _, _, E⟩ := ends_A' (r := i) hv hn (by omega) (by assumption)
        refine Again.by (_, i + 1) (ends_step hn (by omega) hI E) ?_
        have e1 := E.len
        have e2 := E.next
        dsimp only
        repeat' first
          | (refine Step.mk ?_; conv => whnf)
          | (refine Vc.om ?_ ?_; first | omega | with_reducible rfl | with_reducible exact ⟨rfl, fun _ _ => rfl⟩ | (simp only [bytes_2, bytes_3, bytes_4, bytes_5, bytes_9, bytes_12, bytes_21, bytes_22, bytes_25, bytes_27, bytes_28, bytes_31, bytes_41, bytes_43, bytes_44, bytes_45, bytes_49, bytes_51, bytes_62, bytes_71, bytes_75, bytes_78]; omega))
          | (refine NilB.mk fun b hb => Step.out ?_)
          | trivial
          | with_reducible rfl
          | with_reducible exact ⟨rfl, fun _ _ => rfl⟩
          | (refine Wr.i64 ?_ ?_; omega)
          | (refine Wr.u8 ?_ ?_; omega)
          | (refine Wr.i32 ?_ ?_; omega)
          | (refine Br.dT ?_ ?_; omega)
          | (refine Br.dF ?_ ?_; omega)
          | (exact E.next.symm)
          | (exact congrArg (fun n : Nat => (n : Int)) E.len.symm)
          | (refine Br.d (fun h => ?_) (fun h => ?_))
          | (refine Br.swap ?_)
          | (refine Br.bnot ?_)
          | (refine Br.mk (fun h => Step.out ?_) (fun h => Step.out ?_))
          | (refine Two.mk (Step.out ?_) (Step.out ?_))
          | (refine CallOK.io1 (g := 11) (Step.out ?_))
          | (refine CallOK.of_ct (Step.out ?_))
          | (refine Met.by (g := 8) (awake_ct) ?_; rintro q outs ⟨rfl, rfl⟩)
          | (refine Met.by (g := 9) (few_ct _) ?_; rintro q outs ⟨rfl, rfl⟩)
          | (refine Met.by (g := 10) (new_ct _ (by assumption)) ?_; rintro q outs ⟨d, hd, rfl, rfl⟩)
          | (refine Met.by (g := 11) (custody_ct _) ?_; rintro q outs ⟨c, d, hv, rfl, rfl⟩)
          | (refine Met.by (g := 13) (erase_ct _ (by repeat first | assumption | exact start_ok | exact Cu.val.ok ‹_› | refine erase_ok ?_ | refine hand_ok ?_ | refine send_ok ?_ | refine begin_ok ?_ | refine finish_ok ?_) _) ?_; rintro q outs ⟨rfl, rfl⟩)
          | (refine Met.by (g := 14) (hand_ct _ (by repeat first | assumption | exact start_ok | exact Cu.val.ok ‹_› | refine erase_ok ?_ | refine hand_ok ?_ | refine send_ok ?_ | refine begin_ok ?_ | refine finish_ok ?_) _) ?_; rintro q outs ⟨rfl, rfl⟩)
          | (refine Met.by (g := 17) (ready_ct _ (by repeat first | assumption | exact start_ok | exact Cu.val.ok ‹_› | refine erase_ok ?_ | refine hand_ok ?_ | refine send_ok ?_ | refine begin_ok ?_ | refine finish_ok ?_)) ?_; rintro q outs ⟨rfl, rfl⟩)
          | (refine Met.by (g := 19) (begin_ct _ (by repeat first | assumption | exact start_ok | exact Cu.val.ok ‹_› | refine erase_ok ?_ | refine hand_ok ?_ | refine send_ok ?_ | refine begin_ok ?_ | refine finish_ok ?_)) ?_; rintro q outs ⟨rfl, rfl⟩)
          | (refine Met.by (g := 20) (send_ct _ (by repeat first | assumption | exact start_ok | exact Cu.val.ok ‹_› | refine erase_ok ?_ | refine hand_ok ?_ | refine send_ok ?_ | refine begin_ok ?_ | refine finish_ok ?_) _) ?_; rintro q outs ⟨rfl, rfl⟩)
          | (refine Met.by (g := 21) (finish_ct _ (by repeat first | assumption | exact start_ok | exact Cu.val.ok ‹_› | refine erase_ok ?_ | refine hand_ok ?_ | refine send_ok ?_ | refine begin_ok ?_ | refine finish_ok ?_)) ?_; rintro q outs ⟨rfl, rfl⟩)
          | (refine Vc.mk ?_ (Step.out ?_))
      · obtain ⟨_, _, _, E⟩ := ends_B' (r := i) hv hn (by omega) (by assumption)
        refine Again.by (_, i + 1) (ends_step hn (by omega) hI E) ?_
        have e1 := E.len
        have e2 := E.next
        dsimp only
        repeat' first
          | (refine Step.mk ?_; conv => whnf)
          | (refine Vc.om ?_ ?_; first | omega | with_reducible rfl | with_reducible exact ⟨rfl, fun _ _ => rfl⟩ | (simp only [bytes_2, bytes_3, bytes_4, bytes_5, bytes_9, bytes_12, bytes_21, bytes_22, bytes_25, bytes_27, bytes_28, bytes_31, bytes_41, bytes_43, bytes_44, bytes_45, bytes_49, bytes_51, bytes_62, bytes_71, bytes_75, bytes_78]; omega))
          | (refine NilB.mk fun b hb => Step.out ?_)
          | trivial
          | with_reducible rfl
          | with_reducible exact ⟨rfl, fun _ _ => rfl⟩
          | (refine Wr.i64 ?_ ?_; omega)
          | (refine Wr.u8 ?_ ?_; omega)
          | (refine Wr.i32 ?_ ?_; omega)
          | (refine Br.dT ?_ ?_; omega)
          | (refine Br.dF ?_ ?_; omega)
          | (exact E.next.symm)
          | (exact congrArg (fun n : Nat => (n : Int)) E.len.symm)
          | (refine Br.d (fun h => ?_) (fun h => ?_))
          | (refine Br.swap ?_)
          | (refine Br.bnot ?_)
          | (refine Br.mk (fun h => Step.out ?_) (fun h => Step.out ?_))
          | (refine Two.mk (Step.out ?_) (Step.out ?_))
          | (refine CallOK.io1 (g := 11) (Step.out ?_))
          | (refine CallOK.of_ct (Step.out ?_))
          | (refine Met.by (g := 8) (awake_ct) ?_; rintro q outs ⟨rfl, rfl⟩)
          | (refine Met.by (g := 9) (few_ct _) ?_; rintro q outs ⟨rfl, rfl⟩)
          | (refine Met.by (g := 10) (new_ct _ (by assumption)) ?_; rintro q outs ⟨d, hd, rfl, rfl⟩)
          | (refine Met.by (g := 11) (custody_ct _) ?_; rintro q outs ⟨c, d, hv, rfl, rfl⟩)
          | (refine Met.by (g := 13) (erase_ct _ (by repeat first | assumption | exact start_ok | exact Cu.val.ok ‹_› | refine erase_ok ?_ | refine hand_ok ?_ | refine send_ok ?_ | refine begin_ok ?_ | refine finish_ok ?_) _) ?_; rintro q outs ⟨rfl, rfl⟩)
          | (refine Met.by (g := 14) (hand_ct _ (by repeat first | assumption | exact start_ok | exact Cu.val.ok ‹_› | refine erase_ok ?_ | refine hand_ok ?_ | refine send_ok ?_ | refine begin_ok ?_ | refine finish_ok ?_) _) ?_; rintro q outs ⟨rfl, rfl⟩)
          | (refine Met.by (g := 17) (ready_ct _ (by repeat first | assumption | exact start_ok | exact Cu.val.ok ‹_› | refine erase_ok ?_ | refine hand_ok ?_ | refine send_ok ?_ | refine begin_ok ?_ | refine finish_ok ?_)) ?_; rintro q outs ⟨rfl, rfl⟩)
          | (refine Met.by (g := 19) (begin_ct _ (by repeat first | assumption | exact start_ok | exact Cu.val.ok ‹_› | refine erase_ok ?_ | refine hand_ok ?_ | refine send_ok ?_ | refine begin_ok ?_ | refine finish_ok ?_)) ?_; rintro q outs ⟨rfl, rfl⟩)
          | (refine Met.by (g := 20) (send_ct _ (by repeat first | assumption | exact start_ok | exact Cu.val.ok ‹_› | refine erase_ok ?_ | refine hand_ok ?_ | refine send_ok ?_ | refine begin_ok ?_ | refine finish_ok ?_) _) ?_; rintro q outs ⟨rfl, rfl⟩)
          | (refine Met.by (g := 21) (finish_ct _ (by repeat first | assumption | exact start_ok | exact Cu.val.ok ‹_› | refine erase_ok ?_ | refine hand_ok ?_ | refine send_ok ?_ | refine begin_ok ?_ | refine finish_ok ?_)) ?_; rintro q outs ⟨rfl, rfl⟩)
          | (refine Vc.mk ?_ (Step.out ?_))
      · obtain ⟨_, E⟩ := ends_C' (r := i) hv hn (by omega) (by assumption) (by assumption)
        refine Again.by (_, i + 1) (ends_step hn (by omega) hI E) ?_
        have e1 := E.len
        have e2 := E.next
        dsimp only
        repeat' first
          | (refine Step.mk ?_; conv => whnf)
          | (refine Vc.om ?_ ?_; first | omega | with_reducible rfl | with_reducible exact ⟨rfl, fun _ _ => rfl⟩ | (simp only [bytes_2, bytes_3, bytes_4, bytes_5, bytes_9, bytes_12, bytes_21, bytes_22, bytes_25, bytes_27, bytes_28, bytes_31, bytes_41, bytes_43, bytes_44, bytes_45, bytes_49, bytes_51, bytes_62, bytes_71, bytes_75, bytes_78]; omega))
          | (refine NilB.mk fun b hb => Step.out ?_)
          | trivial
          | with_reducible rfl
          | with_reducible exact ⟨rfl, fun _ _ => rfl⟩
          | (refine Wr.i64 ?_ ?_; omega)
          | (refine Wr.u8 ?_ ?_; omega)
          | (refine Wr.i32 ?_ ?_; omega)
          | (refine Br.dT ?_ ?_; omega)
          | (refine Br.dF ?_ ?_; omega)
          | (exact E.next.symm)
          | (exact congrArg (fun n : Nat => (n : Int)) E.len.symm)
          | (refine Br.d (fun h => ?_) (fun h => ?_))
          | (refine Br.swap ?_)
          | (refine Br.bnot ?_)
          | (refine Br.mk (fun h => Step.out ?_) (fun h => Step.out ?_))
          | (refine Two.mk (Step.out ?_) (Step.out ?_))
          | (refine CallOK.io1 (g := 11) (Step.out ?_))
          | (refine CallOK.of_ct (Step.out ?_))
          | (refine Met.by (g := 8) (awake_ct) ?_; rintro q outs ⟨rfl, rfl⟩)
          | (refine Met.by (g := 9) (few_ct _) ?_; rintro q outs ⟨rfl, rfl⟩)
          | (refine Met.by (g := 10) (new_ct _ (by assumption)) ?_; rintro q outs ⟨d, hd, rfl, rfl⟩)
          | (refine Met.by (g := 11) (custody_ct _) ?_; rintro q outs ⟨c, d, hv, rfl, rfl⟩)
          | (refine Met.by (g := 13) (erase_ct _ (by repeat first | assumption | exact start_ok | exact Cu.val.ok ‹_› | refine erase_ok ?_ | refine hand_ok ?_ | refine send_ok ?_ | refine begin_ok ?_ | refine finish_ok ?_) _) ?_; rintro q outs ⟨rfl, rfl⟩)
          | (refine Met.by (g := 14) (hand_ct _ (by repeat first | assumption | exact start_ok | exact Cu.val.ok ‹_› | refine erase_ok ?_ | refine hand_ok ?_ | refine send_ok ?_ | refine begin_ok ?_ | refine finish_ok ?_) _) ?_; rintro q outs ⟨rfl, rfl⟩)
          | (refine Met.by (g := 17) (ready_ct _ (by repeat first | assumption | exact start_ok | exact Cu.val.ok ‹_› | refine erase_ok ?_ | refine hand_ok ?_ | refine send_ok ?_ | refine begin_ok ?_ | refine finish_ok ?_)) ?_; rintro q outs ⟨rfl, rfl⟩)
          | (refine Met.by (g := 19) (begin_ct _ (by repeat first | assumption | exact start_ok | exact Cu.val.ok ‹_› | refine erase_ok ?_ | refine hand_ok ?_ | refine send_ok ?_ | refine begin_ok ?_ | refine finish_ok ?_)) ?_; rintro q outs ⟨rfl, rfl⟩)
          | (refine Met.by (g := 20) (send_ct _ (by repeat first | assumption | exact start_ok | exact Cu.val.ok ‹_› | refine erase_ok ?_ | refine hand_ok ?_ | refine send_ok ?_ | refine begin_ok ?_ | refine finish_ok ?_) _) ?_; rintro q outs ⟨rfl, rfl⟩)
          | (refine Met.by (g := 21) (finish_ct _ (by repeat first | assumption | exact start_ok | exact Cu.val.ok ‹_› | refine erase_ok ?_ | refine hand_ok ?_ | refine send_ok ?_ | refine begin_ok ?_ | refine finish_ok ?_)) ?_; rintro q outs ⟨rfl, rfl⟩)
          | (refine Vc.mk ?_ (Step.out ?_))
      · have F := ends_fin hv hn (fun j hj => hI j (by omega))
        exact .inl (congrArg D.bool F.2.2.2)
end Kx
