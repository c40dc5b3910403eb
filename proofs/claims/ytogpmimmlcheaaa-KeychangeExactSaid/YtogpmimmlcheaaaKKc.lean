/-
  keychange: Comparable, Ready; the references.
  No condition beyond those written in each theorem.
-/
import Derived.Test.YtogpmimmlcheaaaKKb
open Go Sx Go.Proofs
set_option linter.unusedSimpArgs false
set_option linter.unusedVariables false
namespace Kx
def Cu.cmp (c : Cu) (r s : Int) : Bool := decide (c.chk = 0) && (decide (0 ≤ r) && (decide (r < c.arrays.length) && (decide (0 ≤ s) && (decide (s < c.arrays.length) && (!decide (r = s) && (!decide (c.arrays.getD r.toNat 0 = 0) && decide (c.arrays.getD r.toNat 0 = c.arrays.getD s.toNat 0)))))))
theorem cmp_ct (c : Cu) (hc : c.ok) (r s : Int) : Ct Try.prog 16 [c.d, i64 r, i64 s] fun q outs => q = .bool (c.cmp r s) ∧ outs = [] := by
  refine .det (.of_W (fn := Try.f16) hΓ hm (by rfl) ord16 [] (by kernel_rfl) (Step.out ?_))
  repeat' first
    | (refine Step.mk ?_; conv => whnf)
    | (refine Vc.om ?_ ?_; first | omega | with_reducible rfl | with_reducible exact ⟨rfl, fun _ _ => rfl⟩ | (simp only [bytes_2, bytes_3, bytes_4, bytes_5, bytes_9, bytes_12, bytes_21, bytes_22, bytes_25, bytes_27, bytes_28, bytes_31, bytes_41, bytes_43, bytes_44, bytes_45, bytes_49, bytes_51, bytes_62, bytes_71, bytes_75, bytes_78]; omega))
    | (refine NilB.mk fun b hb => Step.out ?_)
    | trivial
    | with_reducible rfl
    | with_reducible exact ⟨rfl, fun _ _ => rfl⟩
    | (refine Wr.i64 ?_ ?_; omega)
    | (refine Wr.u8 ?_ ?_; omega)
    | (refine Wr.i32 ?_ ?_; omega)
    | (refine Br.tt ?_)
    | (refine Br.ff ?_)
    | (refine Br.dT ?_ ?_; omega)
    | (refine Br.dF ?_ ?_; omega)
    | (refine Br.d (fun h => ?_) (fun h => ?_))
    | (refine Br.swap ?_)
    | (refine Br.bnot ?_)
    | (refine Br.mk (fun h => Step.out ?_) (fun h => Step.out ?_))
    | (refine Two.mk (Step.out ?_) (Step.out ?_))
    | (refine CallOK.of_ct (Step.out ?_))
    | (refine Met.by (g := 22) (check_ct _ (by assumption)) ?_; rintro q outs ⟨rfl, rfl⟩)
    | (refine Vc.mk ?_ (Step.out ?_))
  all_goals first
    | trivial
    | exact hb h
    | with_reducible rfl
    | with_reducible exact ⟨rfl, fun _ _ => rfl⟩
    | omega
    | ((simp [-List.getD_eq_getElem?_getD, Cu.cmp, *]; done))
    | ((simp_all [-List.getD_eq_getElem?_getD, Cu.cmp]; done))
    | ((simp [-List.getD_eq_getElem?_getD, Cu.cmp, *]; omega))
theorem ready1_ct (c : Cu) (x : Int) (h : 1 ≤ c.arrays.length) : Ct Try.prog 42 [i64 x, .ref c.l] fun r _ => r = .bool (!decide (x = c.arrays.getD 0 0)) := by
  refine Ct.mono (R := fun r outs => r = .bool (!decide (x = c.arrays.getD 0 0)) ∧ outs = []) ?_ (fun _ _ h => h.1)
  refine .det (.of_W (fn := Try.f42) hΓ hm (by rfl) [] [] (by kernel_rfl) (Step.out ?_))
  repeat' first
    | (refine Step.mk ?_; conv => whnf)
    | (refine Vc.om ?_ ?_; first | omega | with_reducible rfl | with_reducible exact ⟨rfl, fun _ _ => rfl⟩ | (simp only [bytes_2, bytes_3, bytes_4, bytes_5, bytes_9, bytes_12, bytes_21, bytes_22, bytes_25, bytes_27, bytes_28, bytes_31, bytes_41, bytes_43, bytes_44, bytes_45, bytes_49, bytes_51, bytes_62, bytes_71, bytes_75, bytes_78]; omega))
    | (refine NilB.mk fun b hb => Step.out ?_)
    | trivial
    | with_reducible rfl
    | with_reducible exact ⟨rfl, fun _ _ => rfl⟩
    | (refine Wr.i64 ?_ ?_; omega)
    | (refine Wr.u8 ?_ ?_; omega)
    | (refine Wr.i32 ?_ ?_; omega)
    | (refine Br.tt ?_)
    | (refine Br.ff ?_)
    | (refine Br.dT ?_ ?_; omega)
    | (refine Br.dF ?_ ?_; omega)
    | (refine Br.d (fun h => ?_) (fun h => ?_))
    | (refine Br.swap ?_)
    | (refine Br.bnot ?_)
    | (refine Br.mk (fun h => Step.out ?_) (fun h => Step.out ?_))
    | (refine Two.mk (Step.out ?_) (Step.out ?_))
    | (refine CallOK.of_ct (Step.out ?_))
    | (refine Vc.mk ?_ (Step.out ?_))
def Cu.ready (c : Cu) : Bool := decide (c.chk = 0) && (!decide (c.arrays.getD 0 0 = 0) && !(c.arrays.any fun x => !decide (x = c.arrays.getD 0 0)))
theorem ready_ct (c : Cu) (hc : c.ok) : Ct Try.prog 17 [c.d] fun q outs => q = .bool c.ready ∧ outs = [] := by
  have hc2 := hc.2
  refine .det (.of_W (fn := Try.f17) hΓ hm (by rfl) [] [] (by kernel_rfl) (Step.out ?_))
  repeat' first
    | (refine Step.mk ?_; conv => whnf)
    | (refine Vc.om ?_ ?_; first | omega | with_reducible rfl | with_reducible exact ⟨rfl, fun _ _ => rfl⟩ | (simp only [bytes_2, bytes_3, bytes_4, bytes_5, bytes_9, bytes_12, bytes_21, bytes_22, bytes_25, bytes_27, bytes_28, bytes_31, bytes_41, bytes_43, bytes_44, bytes_45, bytes_49, bytes_51, bytes_62, bytes_71, bytes_75, bytes_78]; omega))
    | (refine NilB.mk fun b hb => Step.out ?_)
    | trivial
    | with_reducible rfl
    | with_reducible exact ⟨rfl, fun _ _ => rfl⟩
    | (refine Wr.i64 ?_ ?_; omega)
    | (refine Wr.u8 ?_ ?_; omega)
    | (refine Wr.i32 ?_ ?_; omega)
    | (refine Br.tt ?_)
    | (refine Br.ff ?_)
    | (refine Br.dT ?_ ?_; omega)
    | (refine Br.dF ?_ ?_; omega)
    | (refine Vc.om ?_ ?_; focus (have := chk_len ‹c.chk = 0›; omega; done))
    | (refine Wr.i64 ?_ ?_; focus (have := chk_len ‹c.chk = 0›; omega; done))
    | (refine Wr.u8 ?_ ?_; focus (have := chk_len ‹c.chk = 0›; omega; done))
    | (refine Br.dT ?_ ?_; focus (have := chk_len ‹c.chk = 0›; omega; done))
    | (refine Br.dF ?_ ?_; focus (have := chk_len ‹c.chk = 0›; omega; done))
    | (refine Met.by (conf_ct c.arrays 42 [.ref c.l] (fun x => !decide (x = c.arrays.getD 0 0)) (by omega) rfl (fun x hx => ready1_ct c x (List.length_pos_of_mem hx))) ?_; rintro q outs ⟨rfl, rfl⟩)
    | (refine Br.d (fun h => ?_) (fun h => ?_))
    | (refine Br.swap ?_)
    | (refine Br.bnot ?_)
    | (refine Br.mk (fun h => Step.out ?_) (fun h => Step.out ?_))
    | (refine Two.mk (Step.out ?_) (Step.out ?_))
    | (refine CallOK.of_ct (Step.out ?_))
    | (refine Met.by (g := 22) (check_ct _ (by assumption)) ?_; rintro q outs ⟨rfl, rfl⟩)
    | (refine Vc.mk ?_ (Step.out ?_))
  all_goals first
    | trivial
    | exact hb h
    | with_reducible rfl
    | with_reducible exact ⟨rfl, fun _ _ => rfl⟩
    | omega
    | ((simp [-List.getD_eq_getElem?_getD, Cu.ready, *]; done))
    | ((unfold Cu.ready; simp only [Int.toNat_zero] at *; simp [-List.getD_eq_getElem?_getD, *]; done))
theorem fits_ct (c : Cu) (x : Int) : Ct Try.prog 50 [c.d, i64 x] fun q outs => q = .bool (!misfit c x) ∧ outs = [] := by
  refine .det (.of_W (fn := Try.f50) hΓ hm (by rfl) [] [] (by kernel_rfl) (Step.out ?_))
  repeat' first
    | (refine Step.mk ?_; conv => whnf)
    | (refine Vc.om ?_ ?_; first | omega | with_reducible rfl | with_reducible exact ⟨rfl, fun _ _ => rfl⟩ | (simp only [bytes_2, bytes_3, bytes_4, bytes_5, bytes_9, bytes_12, bytes_21, bytes_22, bytes_25, bytes_27, bytes_28, bytes_31, bytes_41, bytes_43, bytes_44, bytes_45, bytes_49, bytes_51, bytes_62, bytes_71, bytes_75, bytes_78]; omega))
    | (refine NilB.mk fun b hb => Step.out ?_)
    | trivial
    | with_reducible rfl
    | with_reducible exact ⟨rfl, fun _ _ => rfl⟩
    | (refine Wr.i64 ?_ ?_; omega)
    | (refine Wr.u8 ?_ ?_; omega)
    | (refine Wr.i32 ?_ ?_; omega)
    | (refine Br.tt ?_)
    | (refine Br.ff ?_)
    | (refine Br.dT ?_ ?_; omega)
    | (refine Br.dF ?_ ?_; omega)
    | (refine Br.d (fun h => ?_) (fun h => ?_))
    | (refine Br.swap ?_)
    | (refine Br.bnot ?_)
    | (refine Br.mk (fun h => Step.out ?_) (fun h => Step.out ?_))
    | (refine Two.mk (Step.out ?_) (Step.out ?_))
    | (refine CallOK.of_ct (Step.out ?_))
    | (refine Vc.mk ?_ (Step.out ?_))
  all_goals first
    | trivial
    | exact hb h
    | with_reducible rfl
    | with_reducible exact ⟨rfl, fun _ _ => rfl⟩
    | omega
    | ((simp [-List.getD_eq_getElem?_getD, misfit, *]; done))
    | ((unfold misfit; simp_all [-List.getD_eq_getElem?_getD, ]; done))
theorem rcheck_ct (c : Cu) (hc : c.ok) : Ct Try.prog 26 [c.d] fun q outs => q = i64 c.chk ∧ outs = [] := by
  obtain ⟨hc1, hc2⟩ := hc
  refine .det (.of_W (fn := Try.f26) hΓ hm (by rfl) ord26 [] (by kernel_rfl) (Step.out ?_))
  repeat' first
    | (refine Step.mk ?_; conv => whnf)
    | (refine Vc.om ?_ ?_; first | omega | with_reducible rfl | with_reducible exact ⟨rfl, fun _ _ => rfl⟩ | (simp only [bytes_2, bytes_3, bytes_4, bytes_5, bytes_9, bytes_12, bytes_21, bytes_22, bytes_25, bytes_27, bytes_28, bytes_31, bytes_41, bytes_43, bytes_44, bytes_45, bytes_49, bytes_51, bytes_62, bytes_71, bytes_75, bytes_78]; omega))
    | (refine NilB.mk fun b hb => Step.out ?_)
    | trivial
    | with_reducible rfl
    | with_reducible exact ⟨rfl, fun _ _ => rfl⟩
    | (refine Wr.i64 ?_ ?_; omega)
    | (refine Wr.u8 ?_ ?_; omega)
    | (refine Wr.i32 ?_ ?_; omega)
    | (refine Br.tt ?_)
    | (refine Br.ff ?_)
    | (refine Br.dT ?_ ?_; omega)
    | (refine Br.dF ?_ ?_; omega)
    | (refine Br.d (fun h => ?_) (fun h => ?_))
    | (refine Br.swap ?_)
    | (refine Br.bnot ?_)
    | (refine Br.mk (fun h => Step.out ?_) (fun h => Step.out ?_))
    | (refine Two.mk (Step.out ?_) (Step.out ?_))
    | (refine CallOK.of_ct (Step.out ?_))
    | (refine Met.by (g := 50) (fits_ct _ _) ?_; rintro q outs ⟨rfl, rfl⟩)
    | (refine Vc.mk ?_ (Step.out ?_))
  all_goals try (unfold Cu.chk; (repeat' split) <;> first | rfl | omega)
  all_goals
    refine CodeOK.loopW hΓ hm ord26 [] (by kernel_rfl) (α := Nat) (fun i => [(1, .loc 0 0), (3, i64 i)]) (fun i => [(0, .var c.l)]) 1 (fun i => i ≤ c.holds.length ∧ ∀ j, j < i → misfit c (c.holds.getD j 0) = false ∧ misfit c (c.arrays.getD j 0) = false) (fun i => c.holds.length - i) ?_ ?_
    · refine Again.by 0 ⟨Nat.zero_le _, fun j hj => by omega⟩ ?_
      repeat' first
        | (refine Step.mk ?_; conv => whnf)
        | (refine Vc.om ?_ ?_; first | omega | with_reducible rfl | with_reducible exact ⟨rfl, fun _ _ => rfl⟩ | (simp only [bytes_2, bytes_3, bytes_4, bytes_5, bytes_9, bytes_12, bytes_21, bytes_22, bytes_25, bytes_27, bytes_28, bytes_31, bytes_41, bytes_43, bytes_44, bytes_45, bytes_49, bytes_51, bytes_62, bytes_71, bytes_75, bytes_78]; omega))
        | (refine NilB.mk fun b hb => Step.out ?_)
        | trivial
        | with_reducible rfl
        | with_reducible exact ⟨rfl, fun _ _ => rfl⟩
        | (refine Wr.i64 ?_ ?_; omega)
        | (refine Wr.u8 ?_ ?_; omega)
        | (refine Wr.i32 ?_ ?_; omega)
        | (refine Br.tt ?_)
        | (refine Br.ff ?_)
        | (refine Br.dT ?_ ?_; omega)
        | (refine Br.dF ?_ ?_; omega)
        | (refine Br.d (fun h => ?_) (fun h => ?_))
        | (refine Br.swap ?_)
        | (refine Br.bnot ?_)
        | (refine Br.mk (fun h => Step.out ?_) (fun h => Step.out ?_))
        | (refine Two.mk (Step.out ?_) (Step.out ?_))
        | (refine CallOK.of_ct (Step.out ?_))
        | (refine Met.by (g := 50) (fits_ct _ _) ?_; rintro q outs ⟨rfl, rfl⟩)
        | (refine Vc.mk ?_ (Step.out ?_))
    · intro i ⟨hi, hI⟩
      repeat' first
        | (refine Step.mk ?_; conv => whnf)
        | (refine Vc.om ?_ ?_; first | omega | with_reducible rfl | with_reducible exact ⟨rfl, fun _ _ => rfl⟩ | (simp only [bytes_2, bytes_3, bytes_4, bytes_5, bytes_9, bytes_12, bytes_21, bytes_22, bytes_25, bytes_27, bytes_28, bytes_31, bytes_41, bytes_43, bytes_44, bytes_45, bytes_49, bytes_51, bytes_62, bytes_71, bytes_75, bytes_78]; omega))
        | (refine NilB.mk fun b hb => Step.out ?_)
        | trivial
        | with_reducible rfl
        | with_reducible exact ⟨rfl, fun _ _ => rfl⟩
        | (refine Wr.i64 ?_ ?_; omega)
        | (refine Wr.u8 ?_ ?_; omega)
        | (refine Wr.i32 ?_ ?_; omega)
        | (refine Br.tt ?_)
        | (refine Br.ff ?_)
        | (refine Br.dT ?_ ?_; omega)
        | (refine Br.dF ?_ ?_; omega)
        | (refine Br.d (fun h => ?_) (fun h => ?_))
        | (refine Br.swap ?_)
        | (refine Br.bnot ?_)
        | (refine Br.mk (fun h => Step.out ?_) (fun h => Step.out ?_))
        | (refine Two.mk (Step.out ?_) (Step.out ?_))
        | (refine CallOK.of_ct (Step.out ?_))
        | (refine Met.by (g := 50) (fits_ct _ _) ?_; rintro q outs ⟨rfl, rfl⟩)
        | (refine Vc.mk ?_ (Step.out ?_))
      all_goals try simp only [Int.toNat_natCast] at *
      · unfold Cu.chk
        rw [if_neg (by omega), if_neg (by omega), if_pos]
        rw [List.any_append, any_T (by omega) h, Bool.true_or]
      · unfold Cu.chk
        rw [if_neg (by omega), if_neg (by omega), if_pos]
        rw [List.any_append, any_T (l := c.arrays) (by omega) h, Bool.or_true]
      · refine Again.by (i + 1) ⟨⟨by omega, fun j hj => ?_⟩, by omega⟩ ?_
        · by_cases e : j = i
          · subst e; exact ⟨by assumption, by assumption⟩
          · exact hI j (by omega)
        · repeat' first
            | (refine Step.mk ?_; conv => whnf)
            | (refine Vc.om ?_ ?_; first | omega | with_reducible rfl | with_reducible exact ⟨rfl, fun _ _ => rfl⟩ | (simp only [bytes_2, bytes_3, bytes_4, bytes_5, bytes_9, bytes_12, bytes_21, bytes_22, bytes_25, bytes_27, bytes_28, bytes_31, bytes_41, bytes_43, bytes_44, bytes_45, bytes_49, bytes_51, bytes_62, bytes_71, bytes_75, bytes_78]; omega))
            | (refine NilB.mk fun b hb => Step.out ?_)
            | trivial
            | with_reducible rfl
            | with_reducible exact ⟨rfl, fun _ _ => rfl⟩
            | (refine Wr.i64 ?_ ?_; omega)
            | (refine Wr.u8 ?_ ?_; omega)
            | (refine Wr.i32 ?_ ?_; omega)
            | (refine Br.tt ?_)
            | (refine Br.ff ?_)
            | (refine Br.dT ?_ ?_; omega)
            | (refine Br.dF ?_ ?_; omega)
            | (refine Br.d (fun h => ?_) (fun h => ?_))
            | (refine Br.swap ?_)
            | (refine Br.bnot ?_)
            | (refine Br.mk (fun h => Step.out ?_) (fun h => Step.out ?_))
            | (refine Two.mk (Step.out ?_) (Step.out ?_))
            | (refine CallOK.of_ct (Step.out ?_))
            | (refine Met.by (g := 50) (fits_ct _ _) ?_; rintro q outs ⟨rfl, rfl⟩)
            | (refine Vc.mk ?_ (Step.out ?_))
      · unfold Cu.chk
        rw [if_neg (by omega), if_neg (by omega), if_neg]
        rw [List.any_append, any_F fun j hj => (hI j (by omega)).1, any_F fun j hj => (hI j (by omega)).2]
        simp
theorem rcopy_ct (c : Cu) (hc : c.ok) : Ct Try.prog 51 [c.d] fun r outs => r = c.o ∧ outs = [] := by
  obtain ⟨hc1, hc2⟩ := hc
  refine .det (.of_W (fn := Try.f51) hΓ hm (by rfl) ord51 [] (by kernel_rfl) (Step.out ?_))
  repeat' first
    | (refine Step.mk ?_; conv => whnf)
    | (refine Vc.om ?_ ?_; first | omega | with_reducible rfl | with_reducible exact ⟨rfl, fun _ _ => rfl⟩ | (simp only [bytes_2, bytes_3, bytes_4, bytes_5, bytes_9, bytes_12, bytes_21, bytes_22, bytes_25, bytes_27, bytes_28, bytes_31, bytes_41, bytes_43, bytes_44, bytes_45, bytes_49, bytes_51, bytes_62, bytes_71, bytes_75, bytes_78]; omega))
    | (refine NilB.mk fun b hb => Step.out ?_)
    | trivial
    | with_reducible rfl
    | with_reducible exact ⟨rfl, fun _ _ => rfl⟩
    | (refine Wr.i64 ?_ ?_; omega)
    | (refine Wr.u8 ?_ ?_; omega)
    | (refine Wr.i32 ?_ ?_; omega)
    | (refine Br.tt ?_)
    | (refine Br.ff ?_)
    | (refine Br.dT ?_ ?_; omega)
    | (refine Br.dF ?_ ?_; omega)
    | (refine Br.d (fun h => ?_) (fun h => ?_))
    | (refine Br.swap ?_)
    | (refine Br.bnot ?_)
    | (refine Br.mk (fun h => Step.out ?_) (fun h => Step.out ?_))
    | (refine Two.mk (Step.out ?_) (Step.out ?_))
    | (refine CallOK.of_ct (Step.out ?_))
    | (refine Vc.mk ?_ (Step.out ?_))
theorem rstart_ct (n : Int) : Ct Try.prog 23 [i64 n] fun q outs => q = res (startS n).1 (startS n).2 ∧ outs = [] := by
  refine .det (.of_W (fn := Try.f23) hΓ hm (by rfl) ord23 [] (by kernel_rfl) (Step.out ?_))
  repeat' first
    | (refine Step.mk ?_; conv => whnf)
    | (refine Vc.om ?_ ?_; first | omega | with_reducible rfl | with_reducible exact ⟨rfl, fun _ _ => rfl⟩ | (simp only [bytes_2, bytes_3, bytes_4, bytes_5, bytes_9, bytes_12, bytes_21, bytes_22, bytes_25, bytes_27, bytes_28, bytes_31, bytes_41, bytes_43, bytes_44, bytes_45, bytes_49, bytes_51, bytes_62, bytes_71, bytes_75, bytes_78]; omega))
    | (refine NilB.mk fun b hb => Step.out ?_)
    | trivial
    | with_reducible rfl
    | with_reducible exact ⟨rfl, fun _ _ => rfl⟩
    | (refine Wr.i64 ?_ ?_; omega)
    | (refine Wr.u8 ?_ ?_; omega)
    | (refine Wr.i32 ?_ ?_; omega)
    | (refine Br.tt ?_)
    | (refine Br.ff ?_)
    | (refine Br.dT ?_ ?_; omega)
    | (refine Br.dF ?_ ?_; omega)
    | (refine Vc.om ?_ ?_; focus (simp only [bytes_3]; omega; done))
    | (refine Wr.i64 ?_ ?_; focus (simp only [bytes_3]; omega; done))
    | (refine Wr.u8 ?_ ?_; focus (simp only [bytes_3]; omega; done))
    | (refine Br.dT ?_ ?_; focus (simp only [bytes_3]; omega; done))
    | (refine Br.dF ?_ ?_; focus (simp only [bytes_3]; omega; done))
    | (refine Br.d (fun h => ?_) (fun h => ?_))
    | (refine Br.swap ?_)
    | (refine Br.bnot ?_)
    | (refine Br.mk (fun h => Step.out ?_) (fun h => Step.out ?_))
    | (refine Two.mk (Step.out ?_) (Step.out ?_))
    | (refine CallOK.of_ct (Step.out ?_))
    | (refine Vc.mk ?_ (Step.out ?_))
  all_goals try (have hs : startS n = (.z, 2) := if_pos (by omega)
                 simp [hs, Cu.z]; done)
  all_goals have hs : startS n = (⟨1, 0, List.replicate n.toNat 0, List.replicate n.toNat 0⟩, 0) := if_neg (by omega)
  all_goals rw [hs]
  all_goals first | rfl | exact zeros_tab n
theorem rbegin_ct (c : Cu) (hc : c.ok) : Ct Try.prog 28 [c.d] fun q outs => q = res c.begin_.1 c.begin_.2 ∧ outs = [] := by
  refine .det (.of_W (fn := Try.f28) hΓ hm (by rfl) [] [] (by kernel_rfl) (Step.out ?_))
  repeat' first
    | (refine Step.mk ?_; conv => whnf)
    | (refine Vc.om ?_ ?_; first | omega | with_reducible rfl | with_reducible exact ⟨rfl, fun _ _ => rfl⟩ | (simp only [bytes_2, bytes_3, bytes_4, bytes_5, bytes_9, bytes_12, bytes_21, bytes_22, bytes_25, bytes_27, bytes_28, bytes_31, bytes_41, bytes_43, bytes_44, bytes_45, bytes_49, bytes_51, bytes_62, bytes_71, bytes_75, bytes_78]; omega))
    | (refine NilB.mk fun b hb => Step.out ?_)
    | trivial
    | with_reducible rfl
    | with_reducible exact ⟨rfl, fun _ _ => rfl⟩
    | (refine Wr.i64 ?_ ?_; omega)
    | (refine Wr.u8 ?_ ?_; omega)
    | (refine Wr.i32 ?_ ?_; omega)
    | (refine Br.tt ?_)
    | (refine Br.ff ?_)
    | (refine Br.dT ?_ ?_; omega)
    | (refine Br.dF ?_ ?_; omega)
    | (refine Vc.om ?_ ?_; focus (have := chk_len ‹c.chk = 0›; omega; done))
    | (refine Wr.i64 ?_ ?_; focus (have := chk_len ‹c.chk = 0›; omega; done))
    | (refine Wr.u8 ?_ ?_; focus (have := chk_len ‹c.chk = 0›; omega; done))
    | (refine Br.dT ?_ ?_; focus (have := chk_len ‹c.chk = 0›; omega; done))
    | (refine Br.dF ?_ ?_; focus (have := chk_len ‹c.chk = 0›; omega; done))
    | (refine Br.d (fun h => ?_) (fun h => ?_))
    | (refine Br.swap ?_)
    | (refine Br.bnot ?_)
    | (refine Br.mk (fun h => Step.out ?_) (fun h => Step.out ?_))
    | (refine Two.mk (Step.out ?_) (Step.out ?_))
    | (refine CallOK.of_ct (Step.out ?_))
    | (refine Met.by (g := 26) (rcheck_ct _ (by assumption)) ?_; rintro q outs ⟨rfl, rfl⟩)
    | (refine Met.by (g := 51) (rcopy_ct _ (by assumption)) ?_; rintro q outs ⟨rfl, rfl⟩)
    | (refine Vc.mk ?_ (Step.out ?_))
  all_goals first
    | trivial
    | exact hb h
    | with_reducible rfl
    | with_reducible exact ⟨rfl, fun _ _ => rfl⟩
    | omega
    | ((simp [Cu.begin_, Cu.z, *]; done))
def Cu.at_ (c : Cu) (r : Int) : Int := if c.chk ≠ 0 then c.chk else if r < 0 ∨ r ≥ c.holds.length then 41 else 0
theorem rat_ct (c : Cu) (hc : c.ok) (r : Int) : Ct Try.prog 52 [c.d, i64 r] fun q outs => q = i64 (c.at_ r) ∧ outs = [] := by
  refine .det (.of_W (fn := Try.f52) hΓ hm (by rfl) [] [] (by kernel_rfl) (Step.out ?_))
  repeat' first
    | (refine Step.mk ?_; conv => whnf)
    | (refine Vc.om ?_ ?_; first | omega | with_reducible rfl | with_reducible exact ⟨rfl, fun _ _ => rfl⟩ | (simp only [bytes_2, bytes_3, bytes_4, bytes_5, bytes_9, bytes_12, bytes_21, bytes_22, bytes_25, bytes_27, bytes_28, bytes_31, bytes_41, bytes_43, bytes_44, bytes_45, bytes_49, bytes_51, bytes_62, bytes_71, bytes_75, bytes_78]; omega))
    | (refine NilB.mk fun b hb => Step.out ?_)
    | trivial
    | with_reducible rfl
    | with_reducible exact ⟨rfl, fun _ _ => rfl⟩
    | (refine Wr.i64 ?_ ?_; omega)
    | (refine Wr.u8 ?_ ?_; omega)
    | (refine Wr.i32 ?_ ?_; omega)
    | (refine Br.tt ?_)
    | (refine Br.ff ?_)
    | (refine Br.dT ?_ ?_; omega)
    | (refine Br.dF ?_ ?_; omega)
    | (refine Br.d (fun h => ?_) (fun h => ?_))
    | (refine Br.swap ?_)
    | (refine Br.bnot ?_)
    | (refine Br.mk (fun h => Step.out ?_) (fun h => Step.out ?_))
    | (refine Two.mk (Step.out ?_) (Step.out ?_))
    | (refine CallOK.of_ct (Step.out ?_))
    | (refine Met.by (g := 26) (rcheck_ct _ (by assumption)) ?_; rintro q outs ⟨rfl, rfl⟩)
    | (refine Vc.mk ?_ (Step.out ?_))
  all_goals first
    | trivial
    | exact hb h
    | with_reducible rfl
    | with_reducible exact ⟨rfl, fun _ _ => rfl⟩
    | omega
    | ((simp [Cu.at_, *]; done))
    | ((simp [Cu.at_, *]; omega))
theorem at_0 {c : Cu} {r : Int} (h : c.at_ r = 0) : c.chk = 0 ∧ 0 ≤ r ∧ r < c.holds.length := by
  unfold Cu.at_ at h
  split at h
  · rename_i h'; exact absurd h h'
  · split at h <;> omega
theorem at_n {c : Cu} {r : Int} (h : ¬c.at_ r = 0) (b : Bool) (u : Cu) : stepS c r b u = (.z, c.at_ r) := by
  unfold Cu.at_ at h ⊢
  unfold stepS
  split
  · rfl
  · rename_i h'
    rw [if_neg h'] at h
    split
    · rfl
    · rename_i h''; rw [if_neg h''] at h; exact absurd rfl h
theorem at_y {c : Cu} {r : Int} (h : c.at_ r = 0) (b : Bool) (u : Cu) : stepS c r b u = if b then (.z, 47) else (u, 0) := by
  obtain ⟨h1, h2, h3⟩ := at_0 h
  unfold stepS
  rw [if_neg (by omega), if_neg (by omega)]
theorem rerase_ct (c : Cu) (hc : c.ok) (r : Int) : Ct Try.prog 30 [c.d, i64 r] fun q outs => q = res (c.erase r).1 (c.erase r).2 ∧ outs = [] := by
  refine .det (.of_W (fn := Try.f30) hΓ hm (by rfl) [] [] (by kernel_rfl) (Step.out ?_))
  repeat' first
    | (refine Step.mk ?_; conv => whnf)
    | (refine Vc.om ?_ ?_; first | omega | with_reducible rfl | with_reducible exact ⟨rfl, fun _ _ => rfl⟩ | (simp only [bytes_2, bytes_3, bytes_4, bytes_5, bytes_9, bytes_12, bytes_21, bytes_22, bytes_25, bytes_27, bytes_28, bytes_31, bytes_41, bytes_43, bytes_44, bytes_45, bytes_49, bytes_51, bytes_62, bytes_71, bytes_75, bytes_78]; omega))
    | (refine NilB.mk fun b hb => Step.out ?_)
    | trivial
    | with_reducible rfl
    | with_reducible exact ⟨rfl, fun _ _ => rfl⟩
    | (refine Wr.i64 ?_ ?_; omega)
    | (refine Wr.u8 ?_ ?_; omega)
    | (refine Wr.i32 ?_ ?_; omega)
    | (refine Br.tt ?_)
    | (refine Br.ff ?_)
    | (refine Br.dT ?_ ?_; omega)
    | (refine Br.dF ?_ ?_; omega)
    | (refine Vc.om ?_ ?_; focus (have := at_0 ‹c.at_ r = 0›; omega; done))
    | (refine Wr.i64 ?_ ?_; focus (have := at_0 ‹c.at_ r = 0›; omega; done))
    | (refine Wr.u8 ?_ ?_; focus (have := at_0 ‹c.at_ r = 0›; omega; done))
    | (refine Br.dT ?_ ?_; focus (have := at_0 ‹c.at_ r = 0›; omega; done))
    | (refine Br.dF ?_ ?_; focus (have := at_0 ‹c.at_ r = 0›; omega; done))
    | (refine Br.d (fun h => ?_) (fun h => ?_))
    | (refine Br.swap ?_)
    | (refine Br.bnot ?_)
    | (refine Br.mk (fun h => Step.out ?_) (fun h => Step.out ?_))
    | (refine Two.mk (Step.out ?_) (Step.out ?_))
    | (refine CallOK.of_ct (Step.out ?_))
    | (refine Met.by (g := 51) (rcopy_ct _ (by assumption)) ?_; rintro q outs ⟨rfl, rfl⟩)
    | (refine Met.by (g := 52) (rat_ct _ (by assumption) _) ?_; rintro q outs ⟨rfl, rfl⟩)
    | (refine Vc.mk ?_ (Step.out ?_))
  all_goals first
    | trivial
    | exact hb h
    | with_reducible rfl
    | with_reducible exact ⟨rfl, fun _ _ => rfl⟩
    | omega
    | ((simp [-List.getD_eq_getElem?_getD, Cu.erase, at_n ‹¬c.at_ r = 0›, Cu.z]; done))
    | ((simp only [Cu.erase, at_y ‹c.at_ r = 0›]; simp [-List.getD_eq_getElem?_getD, Cu.z, Cu.bars, Cu.key, *]; done))
    | ((simp only [Cu.erase, at_y ‹c.at_ r = 0›, h, decide_false, Bool.false_eq_true, if_false]; exact set_tab _ _ _))
theorem rhand_ct (c : Cu) (hc : c.ok) (r : Int) : Ct Try.prog 31 [c.d, i64 r] fun q outs => q = res (c.hand r).1 (c.hand r).2 ∧ outs = [] := by
  refine .det (.of_W (fn := Try.f31) hΓ hm (by rfl) [] [] (by kernel_rfl) (Step.out ?_))
  repeat' first
    | (refine Step.mk ?_; conv => whnf)
    | (refine Vc.om ?_ ?_; first | omega | with_reducible rfl | with_reducible exact ⟨rfl, fun _ _ => rfl⟩ | (simp only [bytes_2, bytes_3, bytes_4, bytes_5, bytes_9, bytes_12, bytes_21, bytes_22, bytes_25, bytes_27, bytes_28, bytes_31, bytes_41, bytes_43, bytes_44, bytes_45, bytes_49, bytes_51, bytes_62, bytes_71, bytes_75, bytes_78]; omega))
    | (refine NilB.mk fun b hb => Step.out ?_)
    | trivial
    | with_reducible rfl
    | with_reducible exact ⟨rfl, fun _ _ => rfl⟩
    | (refine Wr.i64 ?_ ?_; omega)
    | (refine Wr.u8 ?_ ?_; omega)
    | (refine Wr.i32 ?_ ?_; omega)
    | (refine Br.tt ?_)
    | (refine Br.ff ?_)
    | (refine Br.dT ?_ ?_; omega)
    | (refine Br.dF ?_ ?_; omega)
    | (refine Vc.om ?_ ?_; focus (have := at_0 ‹c.at_ r = 0›; omega; done))
    | (refine Wr.i64 ?_ ?_; focus (have := at_0 ‹c.at_ r = 0›; omega; done))
    | (refine Wr.u8 ?_ ?_; focus (have := at_0 ‹c.at_ r = 0›; omega; done))
    | (refine Br.dT ?_ ?_; focus (have := at_0 ‹c.at_ r = 0›; omega; done))
    | (refine Br.dF ?_ ?_; focus (have := at_0 ‹c.at_ r = 0›; omega; done))
    | (refine Br.d (fun h => ?_) (fun h => ?_))
    | (refine Br.swap ?_)
    | (refine Br.bnot ?_)
    | (refine Br.mk (fun h => Step.out ?_) (fun h => Step.out ?_))
    | (refine Two.mk (Step.out ?_) (Step.out ?_))
    | (refine CallOK.of_ct (Step.out ?_))
    | (refine Met.by (g := 51) (rcopy_ct _ (by assumption)) ?_; rintro q outs ⟨rfl, rfl⟩)
    | (refine Met.by (g := 52) (rat_ct _ (by assumption) _) ?_; rintro q outs ⟨rfl, rfl⟩)
    | (refine Vc.mk ?_ (Step.out ?_))
  all_goals first
    | trivial
    | exact hb h
    | with_reducible rfl
    | with_reducible exact ⟨rfl, fun _ _ => rfl⟩
    | omega
    | ((simp [-List.getD_eq_getElem?_getD, Cu.hand, at_n ‹¬c.at_ r = 0›, Cu.z]; done))
    | ((simp only [Cu.hand, at_y ‹c.at_ r = 0›]; simp [-List.getD_eq_getElem?_getD, Cu.z, Cu.bars, Cu.key, *]; done))
    | ((simp only [Cu.hand, at_y ‹c.at_ r = 0›, *, decide_true, Bool.not_true, Bool.false_eq_true, if_false]; refine ⟨by simp, fun i hi => ?_⟩; have hs := getD_setI c.holds r.toNat i c.key 0 (by simpa using hi); simp only [iteL_int, hs]; by_cases e : i = r.toNat <;> simp [-List.getD_eq_getElem?_getD, setL, iteL_int, Cu.key, h, e]))
theorem rsend_ct (c : Cu) (hc : c.ok) (r : Int) : Ct Try.prog 32 [c.d, i64 r] fun q outs => q = res (c.send r).1 (c.send r).2 ∧ outs = [] := by
  refine .det (.of_W (fn := Try.f32) hΓ hm (by rfl) ord32 [] (by kernel_rfl) (Step.out ?_))
  repeat' first
    | (refine Step.mk ?_; conv => whnf)
    | (refine Vc.om ?_ ?_; first | omega | with_reducible rfl | with_reducible exact ⟨rfl, fun _ _ => rfl⟩ | (simp only [bytes_2, bytes_3, bytes_4, bytes_5, bytes_9, bytes_12, bytes_21, bytes_22, bytes_25, bytes_27, bytes_28, bytes_31, bytes_41, bytes_43, bytes_44, bytes_45, bytes_49, bytes_51, bytes_62, bytes_71, bytes_75, bytes_78]; omega))
    | (refine NilB.mk fun b hb => Step.out ?_)
    | trivial
    | with_reducible rfl
    | with_reducible exact ⟨rfl, fun _ _ => rfl⟩
    | (refine Wr.i64 ?_ ?_; omega)
    | (refine Wr.u8 ?_ ?_; omega)
    | (refine Wr.i32 ?_ ?_; omega)
    | (refine Br.tt ?_)
    | (refine Br.ff ?_)
    | (refine Br.dT ?_ ?_; omega)
    | (refine Br.dF ?_ ?_; omega)
    | (refine Vc.om ?_ ?_; focus (have := at_0 ‹c.at_ r = 0›; omega; done))
    | (refine Wr.i64 ?_ ?_; focus (have := at_0 ‹c.at_ r = 0›; omega; done))
    | (refine Wr.u8 ?_ ?_; focus (have := at_0 ‹c.at_ r = 0›; omega; done))
    | (refine Br.dT ?_ ?_; focus (have := at_0 ‹c.at_ r = 0›; omega; done))
    | (refine Br.dF ?_ ?_; focus (have := at_0 ‹c.at_ r = 0›; omega; done))
    | (refine Vc.om ?_ ?_; focus (have := at_0 ‹c.at_ r = 0›; have := chk_len this.1; omega; done))
    | (refine Wr.i64 ?_ ?_; focus (have := at_0 ‹c.at_ r = 0›; have := chk_len this.1; omega; done))
    | (refine Wr.u8 ?_ ?_; focus (have := at_0 ‹c.at_ r = 0›; have := chk_len this.1; omega; done))
    | (refine Br.dT ?_ ?_; focus (have := at_0 ‹c.at_ r = 0›; have := chk_len this.1; omega; done))
    | (refine Br.dF ?_ ?_; focus (have := at_0 ‹c.at_ r = 0›; have := chk_len this.1; omega; done))
    | (refine Br.d (fun h => ?_) (fun h => ?_))
    | (refine Br.swap ?_)
    | (refine Br.bnot ?_)
    | (refine Br.mk (fun h => Step.out ?_) (fun h => Step.out ?_))
    | (refine Two.mk (Step.out ?_) (Step.out ?_))
    | (refine CallOK.of_ct (Step.out ?_))
    | (refine Met.by (g := 51) (rcopy_ct _ (by assumption)) ?_; rintro q outs ⟨rfl, rfl⟩)
    | (refine Met.by (g := 52) (rat_ct _ (by assumption) _) ?_; rintro q outs ⟨rfl, rfl⟩)
    | (refine Vc.mk ?_ (Step.out ?_))
  all_goals first
    | trivial
    | exact hb h
    | with_reducible rfl
    | with_reducible exact ⟨rfl, fun _ _ => rfl⟩
    | omega
    | ((simp [-List.getD_eq_getElem?_getD, Cu.send, at_n ‹¬c.at_ r = 0›, Cu.z]; done))
    | ((simp only [Cu.send, at_y ‹c.at_ r = 0›]; simp [-List.getD_eq_getElem?_getD, Cu.z, Cu.bars, Cu.key, *]; done))
    | ((simp only [Cu.send, at_y ‹c.at_ r = 0›]; unfold Cu.bars; simp_all [-List.getD_eq_getElem?_getD, Cu.z]; done))
    | ((have hb : c.bars r = false := (by unfold Cu.bars; simp_all [-List.getD_eq_getElem?_getD, ]); simp only [Cu.send, at_y ‹c.at_ r = 0›, hb, Bool.false_eq_true, if_false]; exact set_tab _ _ _))
end Kx
