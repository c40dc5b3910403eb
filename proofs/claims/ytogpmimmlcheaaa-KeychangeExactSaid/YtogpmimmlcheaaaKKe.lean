/-
  The types and the orders of the regions of this program, as the walk reads them.
  No condition beyond those written in each theorem.
-/
import Derived.Test.YtogpmimmlcheaaaKKd
open Go Sx Go.Proofs
set_option linter.unusedSimpArgs false
set_option linter.unusedVariables false
namespace Kx
theorem rfinish_ct (c : Cu) (hc : c.ok) : Ct Try.prog 29 [c.d] fun q outs => q = res c.finish.1 c.finish.2 ∧ outs = [] := by
  have hc1 := hc.1
  have hc2 := hc.2
  refine .det (.of_W (fn := Try.f29) hΓ hm (by rfl) ord29 [] (by kernel_rfl) (Step.out ?_))
  repeat' first
    | (refine Step.mk ?_; conv => whnf)
    | (refine Vc.om ?_ ?_; first | omega | with_reducible rfl | with_reducible exact ⟨rfl, fun _ _ => rfl⟩ | (simp only [bytes_2, bytes_3, bytes_4, bytes_5, bytes_9, bytes_12, bytes_21, bytes_22, bytes_25, bytes_27, bytes_28, bytes_31, bytes_41, bytes_43, bytes_44, bytes_45, bytes_49, bytes_51, bytes_62, bytes_71, bytes_75, bytes_78]; omega))
    | (refine NilB.mk fun b hb => Step.out ?_)
    | trivial
    | with_reducible rfl
    | with_reducible exact ⟨rfl, fun _ _ => rfl⟩
    | (refine Wr.i64 ?_ ?_; omega)
    | (refine Wr.u8 ?_ ?_; omega)
    | (refine Wr.i32 ?_ ?_; omega)
    | (refine Br.tt ?_)
    | (refine Br.ff ?_)
    | (refine Br.dT ?_ ?_; omega)
    | (refine Br.dF ?_ ?_; omega)
    | (refine Br.d (fun h => ?_) (fun h => ?_))
    | (refine Br.swap ?_)
    | (refine Br.bnot ?_)
    | (refine Br.mk (fun h => Step.out ?_) (fun h => Step.out ?_))
    | (refine Two.mk (Step.out ?_) (Step.out ?_))
    | (refine CallOK.of_ct (Step.out ?_))
    | (refine Met.by (g := 26) (rcheck_ct _ (by assumption)) ?_; rintro q outs ⟨rfl, rfl⟩)
    | (refine Met.by (g := 51) (rcopy_ct _ (by assumption)) ?_; rintro q outs ⟨rfl, rfl⟩)
    | (refine Vc.mk ?_ (Step.out ?_))
  all_goals try (simp [-List.getD_eq_getElem?_getD, Cu.finish, Cu.z, *]; done)
  refine CodeOK.loopW hΓ hm ord29 [] (by kernel_rfl) (α := Nat) (fun i => [(1, .loc 0 0), (2, .loc 1 0), (5, i64 i)]) (fun i => [(0, .var c.l), (1, .var [i64 0, i64 0, .nil, .nil])]) 2 (fun i => i ≤ c.holds.length ∧ ∀ j, j < i → c.holds.getD j 0 = c.next ∧ c.arrays.getD j 0 = c.next) (fun i => c.holds.length - i) ?_ ?_
  · refine Again.by 0 ⟨Nat.zero_le _, fun j hj => by omega⟩ ?_
    repeat' first
      | (refine Step.mk ?_; conv => whnf)
      | (refine Vc.om ?_ ?_; first | omega | with_reducible rfl | with_reducible exact ⟨rfl, fun _ _ => rfl⟩ | (simp only [bytes_2, bytes_3, bytes_4, bytes_5, bytes_9, bytes_12, bytes_21, bytes_22, bytes_25, bytes_27, bytes_28, bytes_31, bytes_41, bytes_43, bytes_44, bytes_45, bytes_49, bytes_51, bytes_62, bytes_71, bytes_75, bytes_78]; omega))
      | (refine NilB.mk fun b hb => Step.out ?_)
      | trivial
      | with_reducible rfl
      | with_reducible exact ⟨rfl, fun _ _ => rfl⟩
      | (refine Wr.i64 ?_ ?_; omega)
      | (refine Wr.u8 ?_ ?_; omega)
      | (refine Wr.i32 ?_ ?_; omega)
      | (refine Br.tt ?_)
      | (refine Br.ff ?_)
      | (refine Br.dT ?_ ?_; omega)
      | (refine Br.dF ?_ ?_; omega)
      | (refine Br.d (fun h => ?_) (fun h => ?_))
      | (refine Br.swap ?_)
      | (refine Br.bnot ?_)
      | (refine Br.mk (fun h => Step.out ?_) (fun h => Step.out ?_))
      | (refine Two.mk (Step.out ?_) (Step.out ?_))
      | (refine CallOK.of_ct (Step.out ?_))
      | (refine Met.by (g := 26) (rcheck_ct _ (by assumption)) ?_; rintro q outs ⟨rfl, rfl⟩)
      | (refine Met.by (g := 51) (rcopy_ct _ (by assumption)) ?_; rintro q outs ⟨rfl, rfl⟩)
      | (refine Vc.mk ?_ (Step.out ?_))
  · have hl := chk_len ‹c.chk = 0›
    intro i ⟨hi, hI⟩
    repeat' first
      | (refine Step.mk ?_; conv => whnf)
      | (refine Vc.om ?_ ?_; first | omega | with_reducible rfl | with_reducible exact ⟨rfl, fun _ _ => rfl⟩ | (simp only [bytes_2, bytes_3, bytes_4, bytes_5, bytes_9, bytes_12, bytes_21, bytes_22, bytes_25, bytes_27, bytes_28, bytes_31, bytes_41, bytes_43, bytes_44, bytes_45, bytes_49, bytes_51, bytes_62, bytes_71, bytes_75, bytes_78]; omega))
      | (refine NilB.mk fun b hb => Step.out ?_)
      | trivial
      | with_reducible rfl
      | with_reducible exact ⟨rfl, fun _ _ => rfl⟩
      | (refine Wr.i64 ?_ ?_; omega)
      | (refine Wr.u8 ?_ ?_; omega)
      | (refine Wr.i32 ?_ ?_; omega)
      | (refine Br.tt ?_)
      | (refine Br.ff ?_)
      | (refine Br.dT ?_ ?_; omega)
      | (refine Br.dF ?_ ?_; omega)
      | (refine Br.d (fun h => ?_) (fun h => ?_))
      | (refine Br.swap ?_)
      | (refine Br.bnot ?_)
      | (refine Br.mk (fun h => Step.out ?_) (fun h => Step.out ?_))
      | (refine Two.mk (Step.out ?_) (Step.out ?_))
      | (refine CallOK.of_ct (Step.out ?_))
      | (refine Met.by (g := 26) (rcheck_ct _ (by assumption)) ?_; rintro q outs ⟨rfl, rfl⟩)
      | (refine Met.by (g := 51) (rcopy_ct _ (by assumption)) ?_; rintro q outs ⟨rfl, rfl⟩)
      | (refine Vc.mk ?_ (Step.out ?_))
    all_goals try simp only [Int.toNat_natCast] at *
    · refine Again.by (i + 1) ⟨⟨by omega, fun j hj => ?_⟩, by omega⟩ ?_
      · by_cases e : j = i
        · subst e; exact ⟨by assumption, by assumption⟩
        · exact hI j (by omega)
      · repeat' first
          | (refine Step.mk ?_; conv => whnf)
          | (refine Vc.om ?_ ?_; first | omega | with_reducible rfl | with_reducible exact ⟨rfl, fun _ _ => rfl⟩ | (simp only [bytes_2, bytes_3, bytes_4, bytes_5, bytes_9, bytes_12, bytes_21, bytes_22, bytes_25, bytes_27, bytes_28, bytes_31, bytes_41, bytes_43, bytes_44, bytes_45, bytes_49, bytes_51, bytes_62, bytes_71, bytes_75, bytes_78]; omega))
          | (refine NilB.mk fun b hb => Step.out ?_)
          | trivial
          | with_reducible rfl
          | with_reducible exact ⟨rfl, fun _ _ => rfl⟩
          | (refine Wr.i64 ?_ ?_; omega)
          | (refine Wr.u8 ?_ ?_; omega)
          | (refine Wr.i32 ?_ ?_; omega)
          | (refine Br.tt ?_)
          | (refine Br.ff ?_)
          | (refine Br.dT ?_ ?_; omega)
          | (refine Br.dF ?_ ?_; omega)
          | (refine Br.d (fun h => ?_) (fun h => ?_))
          | (refine Br.swap ?_)
          | (refine Br.bnot ?_)
          | (refine Br.mk (fun h => Step.out ?_) (fun h => Step.out ?_))
          | (refine Two.mk (Step.out ?_) (Step.out ?_))
          | (refine CallOK.of_ct (Step.out ?_))
          | (refine Met.by (g := 26) (rcheck_ct _ (by assumption)) ?_; rintro q outs ⟨rfl, rfl⟩)
          | (refine Met.by (g := 51) (rcopy_ct _ (by assumption)) ?_; rintro q outs ⟨rfl, rfl⟩)
          | (refine Vc.mk ?_ (Step.out ?_))
    all_goals try (have hb : c.late = true := (by
                     unfold Cu.late; rw [List.any_append, any_T (l := c.arrays) (j := i) (by omega) (by simpa using h), Bool.or_true])
                   simp [-List.getD_eq_getElem?_getD, Cu.finish, Cu.z, *]; done)
    all_goals try (have hb : c.late = true := (by
                     unfold Cu.late; rw [List.any_append, any_T (l := c.holds) (j := i) (by omega) (by simpa using h), Bool.true_or])
                   simp [-List.getD_eq_getElem?_getD, Cu.finish, Cu.z, *]; done)
    all_goals
      have hb : c.late = false := (by
        unfold Cu.late
        rw [List.any_append, any_F fun j hj => by simpa using (hI j (by omega)).1, any_F fun j hj => by simpa using (hI j (by omega)).2]; rfl)
      simp [-List.getD_eq_getElem?_getD, Cu.finish, Cu.z, *]
theorem rcmp_ct (c : Cu) (hc : c.ok) (r s : Int) : Ct Try.prog 33 [c.d, i64 r, i64 s] fun q outs => q = .bool (c.cmp r s) ∧ outs = [] := by
  refine .det (.of_W (fn := Try.f33) hΓ hm (by rfl) ord33 [] (by kernel_rfl) (Step.out ?_))
  repeat' first
    | (refine Step.mk ?_; conv => whnf)
    | (refine Vc.om ?_ ?_; first | omega | with_reducible rfl | with_reducible exact ⟨rfl, fun _ _ => rfl⟩ | (simp only [bytes_2, bytes_3, bytes_4, bytes_5, bytes_9, bytes_12, bytes_21, bytes_22, bytes_25, bytes_27, bytes_28, bytes_31, bytes_41, bytes_43, bytes_44, bytes_45, bytes_49, bytes_51, bytes_62, bytes_71, bytes_75, bytes_78]; omega))
    | (refine NilB.mk fun b hb => Step.out ?_)
    | trivial
    | with_reducible rfl
    | with_reducible exact ⟨rfl, fun _ _ => rfl⟩
    | (refine Wr.i64 ?_ ?_; omega)
    | (refine Wr.u8 ?_ ?_; omega)
    | (refine Wr.i32 ?_ ?_; omega)
    | (refine Br.tt ?_)
    | (refine Br.ff ?_)
    | (refine Br.dT ?_ ?_; omega)
    | (refine Br.dF ?_ ?_; omega)
    | (refine Vc.om ?_ ?_; focus (have := at_0 ‹c.at_ r = 0›; have := chk_len this.1; omega; done))
    | (refine Wr.i64 ?_ ?_; focus (have := at_0 ‹c.at_ r = 0›; have := chk_len this.1; omega; done))
    | (refine Wr.u8 ?_ ?_; focus (have := at_0 ‹c.at_ r = 0›; have := chk_len this.1; omega; done))
    | (refine Br.dT ?_ ?_; focus (have := at_0 ‹c.at_ r = 0›; have := chk_len this.1; omega; done))
    | (refine Br.dF ?_ ?_; focus (have := at_0 ‹c.at_ r = 0›; have := chk_len this.1; omega; done))
    | (refine Vc.om ?_ ?_; focus (have := at_0 ‹c.at_ s = 0›; have := chk_len this.1; omega; done))
    | (refine Wr.i64 ?_ ?_; focus (have := at_0 ‹c.at_ s = 0›; have := chk_len this.1; omega; done))
    | (refine Wr.u8 ?_ ?_; focus (have := at_0 ‹c.at_ s = 0›; have := chk_len this.1; omega; done))
    | (refine Br.dT ?_ ?_; focus (have := at_0 ‹c.at_ s = 0›; have := chk_len this.1; omega; done))
    | (refine Br.dF ?_ ?_; focus (have := at_0 ‹c.at_ s = 0›; have := chk_len this.1; omega; done))
    | (refine Br.d (fun h => ?_) (fun h => ?_))
    | (refine Br.swap ?_)
    | (refine Br.bnot ?_)
    | (refine Br.mk (fun h => Step.out ?_) (fun h => Step.out ?_))
    | (refine Two.mk (Step.out ?_) (Step.out ?_))
    | (refine CallOK.of_ct (Step.out ?_))
    | (refine Met.by (g := 52) (rat_ct _ (by assumption) _) ?_; rintro q outs ⟨rfl, rfl⟩)
    | (refine Vc.mk ?_ (Step.out ?_))
  · simp [Cu.cmp, *]
  · simp [-List.getD_eq_getElem?_getD, Cu.cmp, *]
  · have h1 := at_0 ‹c.at_ r = 0›
    have h2 := at_0 ‹c.at_ s = 0›
    have h3 := chk_len h1.1
    have e1 : r < (c.arrays.length : Int) := by omega
    have e2 : s < (c.arrays.length : Int) := by omega
    simp [-List.getD_eq_getElem?_getD, Cu.cmp, *]
  · have h1 := at_0 ‹c.at_ r = 0›
    have h3 := chk_len h1.1
    have : ¬(0 ≤ s ∧ s < (c.arrays.length : Int)) := fun e => h (by unfold Cu.at_; rw [if_neg (by omega), if_neg (by omega)])
    symm
    unfold Cu.cmp
    by_cases e : 0 ≤ s
    · rw [decide_eq_false (p := s < (c.arrays.length : Int)) (by omega)]; simp
    · rw [decide_eq_false e]; simp
  · symm
    unfold Cu.cmp
    by_cases hk : c.chk = 0
    · have h3 := chk_len hk
      have : ¬(0 ≤ r ∧ r < (c.arrays.length : Int)) := fun e => h (by unfold Cu.at_; rw [if_neg (by omega), if_neg (by omega)])
      by_cases e : 0 ≤ r
      · rw [decide_eq_false (p := r < (c.arrays.length : Int)) (by omega)]; simp
      · rw [decide_eq_false e]; simp
    · rw [decide_eq_false hk]; rfl
theorem rready_ct (c : Cu) (hc : c.ok) : Ct Try.prog 27 [c.d] fun q outs => q = .bool c.ready ∧ outs = [] := by
  have hc2 := hc.2
  refine .det (.of_W (fn := Try.f27) hΓ hm (by rfl) ord27 [] (by kernel_rfl) (Step.out ?_))
  repeat' first
    | (refine Step.mk ?_; conv => whnf)
    | (refine Vc.om ?_ ?_; first | omega | with_reducible rfl | with_reducible exact ⟨rfl, fun _ _ => rfl⟩ | (simp only [bytes_2, bytes_3, bytes_4, bytes_5, bytes_9, bytes_12, bytes_21, bytes_22, bytes_25, bytes_27, bytes_28, bytes_31, bytes_41, bytes_43, bytes_44, bytes_45, bytes_49, bytes_51, bytes_62, bytes_71, bytes_75, bytes_78]; omega))
    | (refine NilB.mk fun b hb => Step.out ?_)
    | trivial
    | with_reducible rfl
    | with_reducible exact ⟨rfl, fun _ _ => rfl⟩
    | (refine Wr.i64 ?_ ?_; omega)
    | (refine Wr.u8 ?_ ?_; omega)
    | (refine Wr.i32 ?_ ?_; omega)
    | (refine Br.tt ?_)
    | (refine Br.ff ?_)
    | (refine Br.dT ?_ ?_; omega)
    | (refine Br.dF ?_ ?_; omega)
    | (refine Br.d (fun h => ?_) (fun h => ?_))
    | (refine Br.swap ?_)
    | (refine Br.bnot ?_)
    | (refine Br.mk (fun h => Step.out ?_) (fun h => Step.out ?_))
    | (refine Two.mk (Step.out ?_) (Step.out ?_))
    | (refine CallOK.of_ct (Step.out ?_))
    | (refine Met.by (g := 26) (rcheck_ct _ (by assumption)) ?_; rintro q outs ⟨rfl, rfl⟩)
    | (refine Vc.mk ?_ (Step.out ?_))
  · have hl := chk_len ‹c.chk = 0›
    refine CodeOK.loopW hΓ hm ord27 [] (by kernel_rfl) (α := Nat) (fun i => [(1, .loc 0 0), (3, i64 i)]) (fun i => [(0, .var c.l)]) 1 (fun i => i ≤ c.arrays.length ∧ ∀ j, j < i → c.arrays.getD j 0 ≠ 0 ∧ c.arrays.getD j 0 = c.arrays.getD 0 0) (fun i => c.arrays.length - i) ?_ ?_
    · refine Again.by 0 ⟨Nat.zero_le _, fun j hj => by omega⟩ ?_
      repeat' first
        | (refine Step.mk ?_; conv => whnf)
        | (refine Vc.om ?_ ?_; first | omega | with_reducible rfl | with_reducible exact ⟨rfl, fun _ _ => rfl⟩ | (simp only [bytes_2, bytes_3, bytes_4, bytes_5, bytes_9, bytes_12, bytes_21, bytes_22, bytes_25, bytes_27, bytes_28, bytes_31, bytes_41, bytes_43, bytes_44, bytes_45, bytes_49, bytes_51, bytes_62, bytes_71, bytes_75, bytes_78]; omega))
        | (refine NilB.mk fun b hb => Step.out ?_)
        | trivial
        | with_reducible rfl
        | with_reducible exact ⟨rfl, fun _ _ => rfl⟩
        | (refine Wr.i64 ?_ ?_; omega)
        | (refine Wr.u8 ?_ ?_; omega)
        | (refine Wr.i32 ?_ ?_; omega)
        | (refine Br.tt ?_)
        | (refine Br.ff ?_)
        | (refine Br.dT ?_ ?_; omega)
        | (refine Br.dF ?_ ?_; omega)
        | (refine Br.d (fun h => ?_) (fun h => ?_))
        | (refine Br.swap ?_)
        | (refine Br.bnot ?_)
        | (refine Br.mk (fun h => Step.out ?_) (fun h => Step.out ?_))
        | (refine Two.mk (Step.out ?_) (Step.out ?_))
        | (refine CallOK.of_ct (Step.out ?_))
        | (refine Met.by (g := 26) (rcheck_ct _ (by assumption)) ?_; rintro q outs ⟨rfl, rfl⟩)
        | (refine Vc.mk ?_ (Step.out ?_))
    · intro i ⟨hi, hI⟩
      repeat' first
        | (refine Step.mk ?_; conv => whnf)
        | (refine Vc.om ?_ ?_; first | omega | with_reducible rfl | with_reducible exact ⟨rfl, fun _ _ => rfl⟩ | (simp only [bytes_2, bytes_3, bytes_4, bytes_5, bytes_9, bytes_12, bytes_21, bytes_22, bytes_25, bytes_27, bytes_28, bytes_31, bytes_41, bytes_43, bytes_44, bytes_45, bytes_49, bytes_51, bytes_62, bytes_71, bytes_75, bytes_78]; omega))
        | (refine NilB.mk fun b hb => Step.out ?_)
        | trivial
        | with_reducible rfl
        | with_reducible exact ⟨rfl, fun _ _ => rfl⟩
        | (refine Wr.i64 ?_ ?_; omega)
        | (refine Wr.u8 ?_ ?_; omega)
        | (refine Wr.i32 ?_ ?_; omega)
        | (refine Br.tt ?_)
        | (refine Br.ff ?_)
        | (refine Br.dT ?_ ?_; omega)
        | (refine Br.dF ?_ ?_; omega)
        | (refine Br.d (fun h => ?_) (fun h => ?_))
        | (refine Br.swap ?_)
        | (refine Br.bnot ?_)
        | (refine Br.mk (fun h => Step.out ?_) (fun h => Step.out ?_))
        | (refine Two.mk (Step.out ?_) (Step.out ?_))
        | (refine CallOK.of_ct (Step.out ?_))
        | (refine Met.by (g := 26) (rcheck_ct _ (by assumption)) ?_; rintro q outs ⟨rfl, rfl⟩)
        | (refine Vc.mk ?_ (Step.out ?_))
      all_goals try simp only [Int.toNat_natCast, Int.toNat_zero] at *
      · by_cases a0 : c.arrays.getD 0 0 = 0
        · simp only [Cu.ready, a0, decide_true, Bool.not_true, Bool.false_and, Bool.and_false]
        · have hb := any_T (p := fun x => !decide (x = c.arrays.getD 0 0)) (l := c.arrays) (z := 0) (j := i) (by omega) (by rw [h, decide_eq_false (fun e => a0 e.symm)]; rfl)
          simp only [Cu.ready, hb, Bool.not_true, Bool.and_false]
      · refine Again.by (i + 1) ⟨⟨by omega, fun j hj => ?_⟩, by omega⟩ ?_
        · by_cases e : j = i
          · subst e; exact ⟨by assumption, h⟩
          · exact hI j (by omega)
        · repeat' first
            | (refine Step.mk ?_; conv => whnf)
            | (refine Vc.om ?_ ?_; first | omega | with_reducible rfl | with_reducible exact ⟨rfl, fun _ _ => rfl⟩ | (simp only [bytes_2, bytes_3, bytes_4, bytes_5, bytes_9, bytes_12, bytes_21, bytes_22, bytes_25, bytes_27, bytes_28, bytes_31, bytes_41, bytes_43, bytes_44, bytes_45, bytes_49, bytes_51, bytes_62, bytes_71, bytes_75, bytes_78]; omega))
            | (refine NilB.mk fun b hb => Step.out ?_)
            | trivial
            | with_reducible rfl
            | with_reducible exact ⟨rfl, fun _ _ => rfl⟩
            | (refine Wr.i64 ?_ ?_; omega)
            | (refine Wr.u8 ?_ ?_; omega)
            | (refine Wr.i32 ?_ ?_; omega)
            | (refine Br.tt ?_)
            | (refine Br.ff ?_)
            | (refine Br.dT ?_ ?_; omega)
            | (refine Br.dF ?_ ?_; omega)
            | (refine Br.d (fun h => ?_) (fun h => ?_))
            | (refine Br.swap ?_)
            | (refine Br.bnot ?_)
            | (refine Br.mk (fun h => Step.out ?_) (fun h => Step.out ?_))
            | (refine Two.mk (Step.out ?_) (Step.out ?_))
            | (refine CallOK.of_ct (Step.out ?_))
            | (refine Met.by (g := 26) (rcheck_ct _ (by assumption)) ?_; rintro q outs ⟨rfl, rfl⟩)
            | (refine Vc.mk ?_ (Step.out ?_))
      · have hb := any_T (p := fun x => !decide (x = c.arrays.getD 0 0)) (l := c.arrays) (z := 0) (j := i) (by omega) (by rw [decide_eq_false h]; rfl)
        simp only [Cu.ready, hb, Bool.not_true, Bool.and_false]
      · have hb := any_F (p := fun x => !decide (x = c.arrays.getD 0 0)) (l := c.arrays) (z := 0) fun j hj => by rw [decide_eq_true (hI j (by omega)).2]; rfl
        have h0 := (hI 0 (by omega)).1
        simp only [Cu.ready, hb, *, decide_true, decide_false, Bool.not_false, Bool.and_true, h0]
  · simp [Cu.ready, *]
end Kx
