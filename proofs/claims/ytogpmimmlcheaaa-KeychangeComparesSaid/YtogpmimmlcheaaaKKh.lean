/-
  KeychangeCompares.
  No condition beyond those written in each theorem.
-/
import Derived.Test.YtogpmimmlcheaaaKKg
open Go Sx Go.Proofs
set_option linter.unusedSimpArgs false
set_option linter.unusedVariables false
namespace Kx
theorem cmp_val {c : Cu} {r s : Int} (hv : c.val) (h1 : 0 ≤ r) (h2 : r < c.arrays.length) (h3 : 0 ≤ s) (h4 : s < c.arrays.length) :
    c.cmp r s = (!decide (r = s) && (!decide (c.arrays.getD r.toNat 0 = 0) && decide (c.arrays.getD r.toNat 0 = c.arrays.getD s.toNat 0))) := by
  unfold Cu.cmp
  rw [decide_eq_true (show c.chk = 0 from hv), decide_eq_true h1, decide_eq_true h2, decide_eq_true h3, decide_eq_true h4]
  simp only [Bool.true_and]
def pairOK (l : List Int) (r s : Nat) : Prop := r = s ∨ (l.getD r 0 = l.getD s 0 ∧ l.getD r 0 ≠ 0)
def pairB (l : List Int) (r s : Nat) : Bool := decide (r = s) || (decide (l.getD r 0 = l.getD s 0) && !decide (l.getD r 0 = 0))
theorem pairB_iff {l : List Int} {r s : Nat} : pairB l r s = true ↔ pairOK l r s := by simp only [pairB, pairOK, Bool.or_eq_true, Bool.and_eq_true, decide_eq_true_eq, Bool.not_eq_true', decide_eq_false_iff_not, ne_eq]
theorem all_succ {p : Nat → Prop} {n : Nat} : (∀ i, i < n + 1 → p i) ↔ (∀ i, i < n → p i) ∧ p n := by
  refine ⟨fun h => ⟨fun i hi => h i (by omega), h n (by omega)⟩, fun h i hi => ?_⟩
  rcases Nat.lt_or_ge i n with h' | h'
  · exact h.1 i h'
  · obtain rfl : i = n := by omega
    exact h.2
theorem ready_val {c : Cu} (hv : c.val) : c.ready = true ↔ c.arrays.getD 0 0 ≠ 0 ∧ ∀ r s, r < c.arrays.length → s < c.arrays.length → pairOK c.arrays r s := by
  have hl := chk_len hv
  unfold Cu.ready
  rw [decide_eq_true (show c.chk = 0 from hv)]
  simp only [Bool.true_and, Bool.and_eq_true, Bool.not_eq_true', decide_eq_false_iff_not, ne_eq]
  refine and_congr_right fun h0 => ?_
  constructor
  · intro h r s hr hs
    have h := List.any_eq_false.1 h
    have h1 := h _ (getD_mem (z := 0) hr)
    have h2 := h _ (getD_mem (z := 0) hs)
    simp only [Bool.not_eq_true', decide_eq_false_iff_not, Decidable.not_not] at h1 h2
    exact .inr ⟨by rw [h1, h2], by rw [h1]; exact h0⟩
  · intro h
    refine any_F (z := 0) fun j hj => ?_
    rcases h 0 j (by omega) hj with h | h
    · subst h; simp
    · rw [decide_eq_true h.1.symm]; rfl
theorem compares_ct (l : List Int) : Ct Try.prog 4 [ints l] fun r _ => r = .bool true ∨ r = .lit true := by
  refine .of_W (fn := Try.f4) hΓ hm (by rfl) ord4 [] (by kernel_rfl) (Step.out ?_)
  repeat' first
    | (refine Step.mk ?_; conv => whnf)
    | (refine Vc.om ?_ ?_; first | omega | with_reducible rfl | with_reducible exact ⟨rfl, fun _ _ => rfl⟩ | (simp only [bytes_2, bytes_3, bytes_4, bytes_5, bytes_9, bytes_12, bytes_21, bytes_22, bytes_25, bytes_27, bytes_28, bytes_31, bytes_41, bytes_43, bytes_44, bytes_45, bytes_49, bytes_51, bytes_62, bytes_71, bytes_75, bytes_78]; omega))
    | (refine NilB.mk fun b hb => Step.out ?_)
    | trivial
    | with_reducible rfl
    | with_reducible exact ⟨rfl, fun _ _ => rfl⟩
    | (refine Wr.i64 ?_ ?_; omega)
    | (refine Wr.u8 ?_ ?_; omega)
    | (refine Wr.i32 ?_ ?_; omega)
    | (refine Br.dT ?_ ?_; omega)
    | (refine Br.dF ?_ ?_; omega)
    | (refine Vc.om ?_ ?_; focus (have := chk_len ‹Cu.val _›; omega; done))
    | (refine Wr.i64 ?_ ?_; focus (have := chk_len ‹Cu.val _›; omega; done))
    | (refine Wr.u8 ?_ ?_; focus (have := chk_len ‹Cu.val _›; omega; done))
    | (refine Br.dT ?_ ?_; focus (have := chk_len ‹Cu.val _›; omega; done))
    | (refine Br.dF ?_ ?_; focus (have := chk_len ‹Cu.val _›; omega; done))
    | (exact noSh_res _ _)
    | (exact .inr rfl)
    | (exact .inl rfl)
    | (refine Br.d (fun h => ?_) (fun h => ?_))
    | (refine Br.swap ?_)
    | (refine Br.bnot ?_)
    | (refine Br.mk (fun h => Step.out ?_) (fun h => Step.out ?_))
    | (refine Two.mk (Step.out ?_) (Step.out ?_))
    | (refine CallOK.io1 (g := 11) (Step.out ?_))
    | (refine CallOK.of_ct (Step.out ?_))
    | (refine Met.by (g := 8) (awake_ct) ?_; rintro q outs ⟨rfl, rfl⟩)
    | (refine Met.by (g := 9) (few_ct _) ?_; rintro q outs ⟨rfl, rfl⟩)
    | (refine Met.by (g := 10) (new_ct _ (by assumption)) ?_; rintro q outs ⟨d, hd, rfl, rfl⟩)
    | (refine Met.by (g := 11) (custody_ct _) ?_; rintro q outs ⟨c, d, hv, rfl, rfl⟩)
    | (refine Met.by (g := 16) (cmp_ct _ (by repeat first | assumption | exact start_ok | exact Cu.val.ok ‹_› | refine erase_ok ?_ | refine hand_ok ?_ | refine send_ok ?_ | refine begin_ok ?_ | refine finish_ok ?_) _ _) ?_; rintro q outs ⟨rfl, rfl⟩)
    | (refine Met.by (g := 17) (ready_ct _ (by repeat first | assumption | exact start_ok | exact Cu.val.ok ‹_› | refine erase_ok ?_ | refine hand_ok ?_ | refine send_ok ?_ | refine begin_ok ?_ | refine finish_ok ?_)) ?_; rintro q outs ⟨rfl, rfl⟩)
    | (refine Vc.mk ?_ (Step.out ?_))
  have hl := chk_len hv
  refine CodeOK.loopW hΓ hm ord4 [] (by kernel_rfl) (α := Nat × Bool) (fun z => [(3, .loc 0 0), (4, .bool z.2), (26, i64 c.arrays.length), (27, i64 z.1)]) (fun z => [(0, .var c.l)]) 1 (fun z => z.1 ≤ c.arrays.length ∧ (z.2 = true ↔ c.arrays.getD 0 0 ≠ 0 ∧ ∀ r s, r < z.1 → s < c.arrays.length → pairOK c.arrays r s)) (fun z => c.arrays.length - z.1) ?_ ?_
  · refine Again.by (0, !decide (c.arrays.getD 0 0 = 0)) ⟨Nat.zero_le _, ?_⟩ ?_
    · simp
    · dsimp only
      repeat' first
        | (refine Step.mk ?_; conv => whnf)
        | (refine Vc.om ?_ ?_; first | omega | with_reducible rfl | with_reducible exact ⟨rfl, fun _ _ => rfl⟩ | (simp only [bytes_2, bytes_3, bytes_4, bytes_5, bytes_9, bytes_12, bytes_21, bytes_22, bytes_25, bytes_27, bytes_28, bytes_31, bytes_41, bytes_43, bytes_44, bytes_45, bytes_49, bytes_51, bytes_62, bytes_71, bytes_75, bytes_78]; omega))
        | (refine NilB.mk fun b hb => Step.out ?_)
        | trivial
        | with_reducible rfl
        | with_reducible exact ⟨rfl, fun _ _ => rfl⟩
        | (refine Wr.i64 ?_ ?_; omega)
        | (refine Wr.u8 ?_ ?_; omega)
        | (refine Wr.i32 ?_ ?_; omega)
        | (refine Br.dT ?_ ?_; omega)
        | (refine Br.dF ?_ ?_; omega)
        | (refine Br.d (fun h => ?_) (fun h => ?_))
        | (refine Br.swap ?_)
        | (refine Br.bnot ?_)
        | (refine Br.mk (fun h => Step.out ?_) (fun h => Step.out ?_))
        | (refine Two.mk (Step.out ?_) (Step.out ?_))
        | (refine CallOK.io1 (g := 11) (Step.out ?_))
        | (refine CallOK.of_ct (Step.out ?_))
        | (refine Met.by (g := 8) (awake_ct) ?_; rintro q outs ⟨rfl, rfl⟩)
        | (refine Met.by (g := 9) (few_ct _) ?_; rintro q outs ⟨rfl, rfl⟩)
        | (refine Met.by (g := 10) (new_ct _ (by assumption)) ?_; rintro q outs ⟨d, hd, rfl, rfl⟩)
        | (refine Met.by (g := 11) (custody_ct _) ?_; rintro q outs ⟨c, d, hv, rfl, rfl⟩)
        | (refine Met.by (g := 16) (cmp_ct _ (by repeat first | assumption | exact start_ok | exact Cu.val.ok ‹_› | refine erase_ok ?_ | refine hand_ok ?_ | refine send_ok ?_ | refine begin_ok ?_ | refine finish_ok ?_) _ _) ?_; rintro q outs ⟨rfl, rfl⟩)
        | (refine Met.by (g := 17) (ready_ct _ (by repeat first | assumption | exact start_ok | exact Cu.val.ok ‹_› | refine erase_ok ?_ | refine hand_ok ?_ | refine send_ok ?_ | refine begin_ok ?_ | refine finish_ok ?_)) ?_; rintro q outs ⟨rfl, rfl⟩)
        | (refine Vc.mk ?_ (Step.out ?_))
  · intro ⟨r, b⟩ ⟨hr, hb⟩
    dsimp only at hr hb ⊢
    repeat' first
      | (refine Step.mk ?_; conv => whnf)
      | (refine Vc.om ?_ ?_; first | omega | with_reducible rfl | with_reducible exact ⟨rfl, fun _ _ => rfl⟩ | (simp only [bytes_2, bytes_3, bytes_4, bytes_5, bytes_9, bytes_12, bytes_21, bytes_22, bytes_25, bytes_27, bytes_28, bytes_31, bytes_41, bytes_43, bytes_44, bytes_45, bytes_49, bytes_51, bytes_62, bytes_71, bytes_75, bytes_78]; omega))
      | (refine NilB.mk fun b hb => Step.out ?_)
      | trivial
      | with_reducible rfl
      | with_reducible exact ⟨rfl, fun _ _ => rfl⟩
      | (refine Wr.i64 ?_ ?_; omega)
      | (refine Wr.u8 ?_ ?_; omega)
      | (refine Wr.i32 ?_ ?_; omega)
      | (refine Br.dT ?_ ?_; omega)
      | (refine Br.dF ?_ ?_; omega)
      | (refine Br.d (fun h => ?_) (fun h => ?_))
      | (refine Br.swap ?_)
      | (refine Br.bnot ?_)
      | (refine Br.mk (fun h => Step.out ?_) (fun h => Step.out ?_))
      | (refine Two.mk (Step.out ?_) (Step.out ?_))
      | (refine CallOK.io1 (g := 11) (Step.out ?_))
      | (refine CallOK.of_ct (Step.out ?_))
      | (refine Met.by (g := 8) (awake_ct) ?_; rintro q outs ⟨rfl, rfl⟩)
      | (refine Met.by (g := 9) (few_ct _) ?_; rintro q outs ⟨rfl, rfl⟩)
      | (refine Met.by (g := 10) (new_ct _ (by assumption)) ?_; rintro q outs ⟨d, hd, rfl, rfl⟩)
      | (refine Met.by (g := 11) (custody_ct _) ?_; rintro q outs ⟨c, d, hv, rfl, rfl⟩)
      | (refine Met.by (g := 16) (cmp_ct _ (by repeat first | assumption | exact start_ok | exact Cu.val.ok ‹_› | refine erase_ok ?_ | refine hand_ok ?_ | refine send_ok ?_ | refine begin_ok ?_ | refine finish_ok ?_) _ _) ?_; rintro q outs ⟨rfl, rfl⟩)
      | (refine Met.by (g := 17) (ready_ct _ (by repeat first | assumption | exact start_ok | exact Cu.val.ok ‹_› | refine erase_ok ?_ | refine hand_ok ?_ | refine send_ok ?_ | refine begin_ok ?_ | refine finish_ok ?_)) ?_; rintro q outs ⟨rfl, rfl⟩)
      | (refine Vc.mk ?_ (Step.out ?_))
    · refine CodeOK.loopW hΓ hm ord4 [] (by kernel_rfl) (α := Nat × Bool) (fun z => [(3, .loc 0 0), (4, .bool z.2), (5, i64 r), (26, i64 c.arrays.length), (27, i64 r), (32, i64 c.arrays.length), (33, i64 z.1)]) (fun z => [(0, .var c.l)]) 1 (fun z => z.1 ≤ c.arrays.length ∧ (z.2 = true ↔ (c.arrays.getD 0 0 ≠ 0 ∧ ∀ r' s, r' < r → s < c.arrays.length → pairOK c.arrays r' s) ∧ ∀ s, s < z.1 → pairOK c.arrays r s)) (fun z => c.arrays.length - z.1) ?_ ?_
      · refine Again.by (0, b) ⟨Nat.zero_le _, ?_⟩ ?_
        · simp [hb]
        · dsimp only
          repeat' first
            | (refine Step.mk ?_; conv => whnf)
            | (refine Vc.om ?_ ?_; first | omega | with_reducible rfl | with_reducible exact ⟨rfl, fun _ _ => rfl⟩ | (simp only [bytes_2, bytes_3, bytes_4, bytes_5, bytes_9, bytes_12, bytes_21, bytes_22, bytes_25, bytes_27, bytes_28, bytes_31, bytes_41, bytes_43, bytes_44, bytes_45, bytes_49, bytes_51, bytes_62, bytes_71, bytes_75, bytes_78]; omega))
            | (refine NilB.mk fun b hb => Step.out ?_)
            | trivial
            | with_reducible rfl
            | with_reducible exact ⟨rfl, fun _ _ => rfl⟩
            | (refine Wr.i64 ?_ ?_; omega)
            | (refine Wr.u8 ?_ ?_; omega)
            | (refine Wr.i32 ?_ ?_; omega)
            | (refine Br.dT ?_ ?_; omega)
            | (refine Br.dF ?_ ?_; omega)
            | (refine Br.d (fun h => ?_) (fun h => ?_))
            | (refine Br.swap ?_)
            | (refine Br.bnot ?_)
            | (refine Br.mk (fun h => Step.out ?_) (fun h => Step.out ?_))
            | (refine Two.mk (Step.out ?_) (Step.out ?_))
            | (refine CallOK.io1 (g := 11) (Step.out ?_))
            | (refine CallOK.of_ct (Step.out ?_))
            | (refine Met.by (g := 8) (awake_ct) ?_; rintro q outs ⟨rfl, rfl⟩)
            | (refine Met.by (g := 9) (few_ct _) ?_; rintro q outs ⟨rfl, rfl⟩)
            | (refine Met.by (g := 10) (new_ct _ (by assumption)) ?_; rintro q outs ⟨d, hd, rfl, rfl⟩)
            | (refine Met.by (g := 11) (custody_ct _) ?_; rintro q outs ⟨c, d, hv, rfl, rfl⟩)
            | (refine Met.by (g := 16) (cmp_ct _ (by repeat first | assumption | exact start_ok | exact Cu.val.ok ‹_› | refine erase_ok ?_ | refine hand_ok ?_ | refine send_ok ?_ | refine begin_ok ?_ | refine finish_ok ?_) _ _) ?_; rintro q outs ⟨rfl, rfl⟩)
            | (refine Met.by (g := 17) (ready_ct _ (by repeat first | assumption | exact start_ok | exact Cu.val.ok ‹_› | refine erase_ok ?_ | refine hand_ok ?_ | refine send_ok ?_ | refine begin_ok ?_ | refine finish_ok ?_)) ?_; rintro q outs ⟨rfl, rfl⟩)
            | (refine Vc.mk ?_ (Step.out ?_))
      · intro ⟨s, b'⟩ ⟨hs, hb'⟩
        dsimp only at hs hb' ⊢
        repeat' first
          | (refine Step.mk ?_; conv => whnf)
          | (refine Vc.om ?_ ?_; first | omega | with_reducible rfl | with_reducible exact ⟨rfl, fun _ _ => rfl⟩ | (simp only [bytes_2, bytes_3, bytes_4, bytes_5, bytes_9, bytes_12, bytes_21, bytes_22, bytes_25, bytes_27, bytes_28, bytes_31, bytes_41, bytes_43, bytes_44, bytes_45, bytes_49, bytes_51, bytes_62, bytes_71, bytes_75, bytes_78]; omega))
          | (refine NilB.mk fun b hb => Step.out ?_)
          | trivial
          | with_reducible rfl
          | with_reducible exact ⟨rfl, fun _ _ => rfl⟩
          | (refine Wr.i64 ?_ ?_; omega)
          | (refine Wr.u8 ?_ ?_; omega)
          | (refine Wr.i32 ?_ ?_; omega)
          | (refine Br.dT ?_ ?_; omega)
          | (refine Br.dF ?_ ?_; omega)
          | (refine Vc.om ?_ ?_; focus (rw [cmp_val hv (by omega) (by omega) (by omega) (by omega)]; simp only [Int.toNat_natCast] at *; simp_all [-List.getD_eq_getElem?_getD, ]; done))
          | (refine Wr.i64 ?_ ?_; focus (rw [cmp_val hv (by omega) (by omega) (by omega) (by omega)]; simp only [Int.toNat_natCast] at *; simp_all [-List.getD_eq_getElem?_getD, ]; done))
          | (refine Wr.u8 ?_ ?_; focus (rw [cmp_val hv (by omega) (by omega) (by omega) (by omega)]; simp only [Int.toNat_natCast] at *; simp_all [-List.getD_eq_getElem?_getD, ]; done))
          | (refine Br.dT ?_ ?_; focus (rw [cmp_val hv (by omega) (by omega) (by omega) (by omega)]; simp only [Int.toNat_natCast] at *; simp_all [-List.getD_eq_getElem?_getD, ]; done))
          | (refine Br.dF ?_ ?_; focus (rw [cmp_val hv (by omega) (by omega) (by omega) (by omega)]; simp only [Int.toNat_natCast] at *; simp_all [-List.getD_eq_getElem?_getD, ]; done))
          | (refine Br.d (fun h => ?_) (fun h => ?_))
          | (refine Br.swap ?_)
          | (refine Br.bnot ?_)
          | (refine Br.mk (fun h => Step.out ?_) (fun h => Step.out ?_))
          | (refine Two.mk (Step.out ?_) (Step.out ?_))
          | (refine CallOK.io1 (g := 11) (Step.out ?_))
          | (refine CallOK.of_ct (Step.out ?_))
          | (refine Met.by (g := 8) (awake_ct) ?_; rintro q outs ⟨rfl, rfl⟩)
          | (refine Met.by (g := 9) (few_ct _) ?_; rintro q outs ⟨rfl, rfl⟩)
          | (refine Met.by (g := 10) (new_ct _ (by assumption)) ?_; rintro q outs ⟨d, hd, rfl, rfl⟩)
          | (refine Met.by (g := 11) (custody_ct _) ?_; rintro q outs ⟨c, d, hv, rfl, rfl⟩)
          | (refine Met.by (g := 16) (cmp_ct _ (by repeat first | assumption | exact start_ok | exact Cu.val.ok ‹_› | refine erase_ok ?_ | refine hand_ok ?_ | refine send_ok ?_ | refine begin_ok ?_ | refine finish_ok ?_) _ _) ?_; rintro q outs ⟨rfl, rfl⟩)
          | (refine Met.by (g := 17) (ready_ct _ (by repeat first | assumption | exact start_ok | exact Cu.val.ok ‹_› | refine erase_ok ?_ | refine hand_ok ?_ | refine send_ok ?_ | refine begin_ok ?_ | refine finish_ok ?_)) ?_; rintro q outs ⟨rfl, rfl⟩)
          | (refine Vc.mk ?_ (Step.out ?_))
        all_goals try simp only [Int.toNat_natCast] at *
        rotate_left 6
        · have e : s = c.arrays.length := by omega
          refine Again.by (r + 1, b') ⟨⟨by dsimp only; omega, ?_⟩, by dsimp only; omega⟩ ?_
          · subst e
            dsimp only
            rw [hb', and_assoc]
            refine and_congr_right fun _ => ⟨fun h r' s' hr' hs' => ?_, fun h => ⟨fun r' s' hr' hs' => h r' s' (by omega) hs', fun s' hs' => h r s' (by omega) hs'⟩⟩
            rcases Nat.lt_or_ge r' r with h' | h'
            · exact h.1 r' s' h' hs'
            · obtain rfl : r' = r := by omega
              exact h.2 s' hs'
          · dsimp only
            repeat' first
              | (refine Step.mk ?_; conv => whnf)
              | (refine Vc.om ?_ ?_; first | omega | with_reducible rfl | with_reducible exact ⟨rfl, fun _ _ => rfl⟩ | (simp only [bytes_2, bytes_3, bytes_4, bytes_5, bytes_9, bytes_12, bytes_21, bytes_22, bytes_25, bytes_27, bytes_28, bytes_31, bytes_41, bytes_43, bytes_44, bytes_45, bytes_49, bytes_51, bytes_62, bytes_71, bytes_75, bytes_78]; omega))
              | (refine NilB.mk fun b hb => Step.out ?_)
              | trivial
              | with_reducible rfl
              | with_reducible exact ⟨rfl, fun _ _ => rfl⟩
              | (refine Wr.i64 ?_ ?_; omega)
              | (refine Wr.u8 ?_ ?_; omega)
              | (refine Wr.i32 ?_ ?_; omega)
              | (refine Br.dT ?_ ?_; omega)
              | (refine Br.dF ?_ ?_; omega)
              | (refine Br.d (fun h => ?_) (fun h => ?_))
              | (refine Br.swap ?_)
              | (refine Br.bnot ?_)
              | (refine Br.mk (fun h => Step.out ?_) (fun h => Step.out ?_))
              | (refine Two.mk (Step.out ?_) (Step.out ?_))
              | (refine CallOK.io1 (g := 11) (Step.out ?_))
              | (refine CallOK.of_ct (Step.out ?_))
              | (refine Met.by (g := 8) (awake_ct) ?_; rintro q outs ⟨rfl, rfl⟩)
              | (refine Met.by (g := 9) (few_ct _) ?_; rintro q outs ⟨rfl, rfl⟩)
              | (refine Met.by (g := 10) (new_ct _ (by assumption)) ?_; rintro q outs ⟨d, hd, rfl, rfl⟩)
              | (refine Met.by (g := 11) (custody_ct _) ?_; rintro q outs ⟨c, d, hv, rfl, rfl⟩)
              | (refine Met.by (g := 16) (cmp_ct _ (by repeat first | assumption | exact start_ok | exact Cu.val.ok ‹_› | refine erase_ok ?_ | refine hand_ok ?_ | refine send_ok ?_ | refine begin_ok ?_ | refine finish_ok ?_) _ _) ?_; rintro q outs ⟨rfl, rfl⟩)
              | (refine Met.by (g := 17) (ready_ct _ (by repeat first | assumption | exact start_ok | exact Cu.val.ok ‹_› | refine erase_ok ?_ | refine hand_ok ?_ | refine send_ok ?_ | refine begin_ok ?_ | refine finish_ok ?_)) ?_; rintro q outs ⟨rfl, rfl⟩)
              | (refine Vc.mk ?_ (Step.out ?_))
        all_goals
          refine Again.by (s + 1, b' && pairB c.arrays r s) ⟨⟨by dsimp only; omega, ?_⟩, by dsimp only; omega⟩ ?_
          · simp only [Bool.and_eq_true, pairB_iff, hb', all_succ, and_assoc]
          · dsimp only
            clear hb hb'
            repeat' first
              | (refine Step.mk ?_; conv => whnf)
              | (refine Vc.om ?_ ?_; first | omega | with_reducible rfl | with_reducible exact ⟨rfl, fun _ _ => rfl⟩ | (simp only [bytes_2, bytes_3, bytes_4, bytes_5, bytes_9, bytes_12, bytes_21, bytes_22, bytes_25, bytes_27, bytes_28, bytes_31, bytes_41, bytes_43, bytes_44, bytes_45, bytes_49, bytes_51, bytes_62, bytes_71, bytes_75, bytes_78]; omega))
              | (refine NilB.mk fun b hb => Step.out ?_)
              | trivial
              | with_reducible rfl
              | with_reducible exact ⟨rfl, fun _ _ => rfl⟩
              | (refine Wr.i64 ?_ ?_; omega)
              | (refine Wr.u8 ?_ ?_; omega)
              | (refine Wr.i32 ?_ ?_; omega)
              | (refine Br.dT ?_ ?_; omega)
              | (refine Br.dF ?_ ?_; omega)
              | (simp_all [-List.getD_eq_getElem?_getD, pairB]; done)
              | (have e : r = s := (by omega); simp_all [-List.getD_eq_getElem?_getD, pairB]; done)
              | (have e : ¬(r = s) := (by omega); simp_all [-List.getD_eq_getElem?_getD, pairB]; done)
              | (refine Br.d (fun h => ?_) (fun h => ?_))
              | (refine Br.swap ?_)
              | (refine Br.bnot ?_)
              | (refine Br.mk (fun h => Step.out ?_) (fun h => Step.out ?_))
              | (refine Two.mk (Step.out ?_) (Step.out ?_))
              | (refine CallOK.io1 (g := 11) (Step.out ?_))
              | (refine CallOK.of_ct (Step.out ?_))
              | (refine Met.by (g := 8) (awake_ct) ?_; rintro q outs ⟨rfl, rfl⟩)
              | (refine Met.by (g := 9) (few_ct _) ?_; rintro q outs ⟨rfl, rfl⟩)
              | (refine Met.by (g := 10) (new_ct _ (by assumption)) ?_; rintro q outs ⟨d, hd, rfl, rfl⟩)
              | (refine Met.by (g := 11) (custody_ct _) ?_; rintro q outs ⟨c, d, hv, rfl, rfl⟩)
              | (refine Met.by (g := 16) (cmp_ct _ (by repeat first | assumption | exact start_ok | exact Cu.val.ok ‹_› | refine erase_ok ?_ | refine hand_ok ?_ | refine send_ok ?_ | refine begin_ok ?_ | refine finish_ok ?_) _ _) ?_; rintro q outs ⟨rfl, rfl⟩)
              | (refine Met.by (g := 17) (ready_ct _ (by repeat first | assumption | exact start_ok | exact Cu.val.ok ‹_› | refine erase_ok ?_ | refine hand_ok ?_ | refine send_ok ?_ | refine begin_ok ?_ | refine finish_ok ?_)) ?_; rintro q outs ⟨rfl, rfl⟩)
              | (refine Vc.mk ?_ (Step.out ?_))
    · have e : r = c.arrays.length := by omega
      subst e
      refine .inl (congrArg D.bool ?_)
      have hrb : c.ready = b := Bool.eq_iff_iff.2 ((ready_val hv).trans hb.symm)
      rw [hrb]
      simp
end Kx
