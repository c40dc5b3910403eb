/-
  slices.Concat of two lists of numbers.
  No condition beyond those written in each theorem.
-/
import Derived.Test.YtogpmimmlcheaaaKSl
open Go Sx Go.Proofs
set_option linter.unusedSimpArgs false
set_option linter.unusedVariables false
namespace Kx
def two (a b : List Int) : D := .tab 1 2 fun i => selC [[ints a], [ints b]] i
def cl {α : Type} (a b : List α) (i : Nat) : List α := match i with | 0 => [] | 1 => a | _ => a ++ b
theorem cl_len {α : Type} (a b : List α) (ha : a.length ≤ 40000) (hb : b.length ≤ 40000) (i : Nat) : (cl a b i).length ≤ 80000 := by
  unfold cl; split <;> (try simp only [List.length_append]) <;> (try simp only [List.length_nil]) <;> omega
theorem concat_ct (a b : List Int) (ha : a.length ≤ 40000) (hb : b.length ≤ 40000) : Ct Try.prog 46 [two a b] fun r outs => r = intsO 3 (a ++ b) ∧ outs = [] := by
  refine .det (.of_W (fn := Try.f46) hΓ hm (by rfl) [] [] (by kernel_rfl) (Step.out ?_))
  repeat' first
    | (refine Step.mk ?_; conv => whnf)
    | (refine Vc.om ?_ ?_; first | omega | with_reducible rfl | with_reducible exact ⟨rfl, fun _ _ => rfl⟩ | (simp only [bytes_2, bytes_3, bytes_4, bytes_5, bytes_9, bytes_12, bytes_21, bytes_22, bytes_25, bytes_27, bytes_28, bytes_31, bytes_41, bytes_43, bytes_44, bytes_45, bytes_49, bytes_51, bytes_62, bytes_71, bytes_75, bytes_78]; omega))
    | (refine NilB.mk fun b hb => Step.out ?_)
    | trivial
    | with_reducible rfl
    | with_reducible exact ⟨rfl, fun _ _ => rfl⟩
    | (refine Wr.i64 ?_ ?_; omega)
    | (refine Wr.u8 ?_ ?_; omega)
    | (refine Wr.i32 ?_ ?_; omega)
    | (refine Br.tt ?_)
    | (refine Br.ff ?_)
    | (refine Br.dT ?_ ?_; omega)
    | (refine Br.dF ?_ ?_; omega)
    | (refine Br.d (fun h => ?_) (fun h => ?_))
    | (refine Br.swap ?_)
    | (refine Br.bnot ?_)
    | (refine Br.mk (fun h => Step.out ?_) (fun h => Step.out ?_))
    | (refine Two.mk (Step.out ?_) (Step.out ?_))
    | (refine CallOK.of_ct (Step.out ?_))
    | (refine Vc.mk ?_ (Step.out ?_))
  refine CodeOK.loopW hΓ hm [] [] (by kernel_rfl) (α := Nat) (fun i => [(0, two a b), (9, two a b), (10, i64 2), (11, i64 i), (3, i64 (cl a b i).length)]) (fun i => []) 0 (fun i => i ≤ 2) (fun i => 2 - i) ?_ ?_
  · refine Again.by 0 (by omega) ?_
    repeat' first
      | (refine Step.mk ?_; conv => whnf)
      | (refine Vc.om ?_ ?_; first | omega | with_reducible rfl | with_reducible exact ⟨rfl, fun _ _ => rfl⟩ | (simp only [bytes_2, bytes_3, bytes_4, bytes_5, bytes_9, bytes_12, bytes_21, bytes_22, bytes_25, bytes_27, bytes_28, bytes_31, bytes_41, bytes_43, bytes_44, bytes_45, bytes_49, bytes_51, bytes_62, bytes_71, bytes_75, bytes_78]; omega))
      | (refine NilB.mk fun b hb => Step.out ?_)
      | trivial
      | with_reducible rfl
      | with_reducible exact ⟨rfl, fun _ _ => rfl⟩
      | (refine Wr.i64 ?_ ?_; omega)
      | (refine Wr.u8 ?_ ?_; omega)
      | (refine Wr.i32 ?_ ?_; omega)
      | (refine Br.tt ?_)
      | (refine Br.ff ?_)
      | (refine Br.dT ?_ ?_; omega)
      | (refine Br.dF ?_ ?_; omega)
      | (refine Br.d (fun h => ?_) (fun h => ?_))
      | (refine Br.swap ?_)
      | (refine Br.bnot ?_)
      | (refine Br.mk (fun h => Step.out ?_) (fun h => Step.out ?_))
      | (refine Two.mk (Step.out ?_) (Step.out ?_))
      | (refine CallOK.of_ct (Step.out ?_))
      | (refine Vc.mk ?_ (Step.out ?_))
  · intro i hi
    have hcl := cl_len a b ha hb i
    refine Step.mk ?_
    conv => whnf
    refine Br.d (fun h => ?_) (fun h => ?_)
    · obtain rfl | rfl : i = 0 ∨ i = 1 := by omega
      · repeat' first
          | (refine Step.mk ?_; conv => whnf)
          | (refine Vc.om ?_ ?_; first | omega | with_reducible rfl | with_reducible exact ⟨rfl, fun _ _ => rfl⟩ | (simp only [bytes_2, bytes_3, bytes_4, bytes_5, bytes_9, bytes_12, bytes_21, bytes_22, bytes_25, bytes_27, bytes_28, bytes_31, bytes_41, bytes_43, bytes_44, bytes_45, bytes_49, bytes_51, bytes_62, bytes_71, bytes_75, bytes_78]; omega))
          | (refine NilB.mk fun b hb => Step.out ?_)
          | trivial
          | with_reducible rfl
          | with_reducible exact ⟨rfl, fun _ _ => rfl⟩
          | (refine Wr.i64 ?_ ?_; omega)
          | (refine Wr.u8 ?_ ?_; omega)
          | (refine Wr.i32 ?_ ?_; omega)
          | (refine Br.tt ?_)
          | (refine Br.ff ?_)
          | (refine Br.dT ?_ ?_; omega)
          | (refine Br.dF ?_ ?_; omega)
          | (refine Vc.om ?_ ?_; focus (simp [cl, bytes_3]; omega; done))
          | (refine Wr.i64 ?_ ?_; focus (simp [cl, bytes_3]; omega; done))
          | (refine Wr.u8 ?_ ?_; focus (simp [cl, bytes_3]; omega; done))
          | (refine Br.dT ?_ ?_; focus (simp [cl, bytes_3]; omega; done))
          | (refine Br.dF ?_ ?_; focus (simp [cl, bytes_3]; omega; done))
          | (refine Again.by 1 (by omega) ?_)
          | (refine Br.d (fun h => ?_) (fun h => ?_))
          | (refine Br.swap ?_)
          | (refine Br.bnot ?_)
          | (refine Br.mk (fun h => Step.out ?_) (fun h => Step.out ?_))
          | (refine Two.mk (Step.out ?_) (Step.out ?_))
          | (refine CallOK.of_ct (Step.out ?_))
          | (refine Vc.mk ?_ (Step.out ?_))
        all_goals first
          | trivial
          | exact hb h
          | with_reducible rfl
          | with_reducible exact ⟨rfl, fun _ _ => rfl⟩
          | omega
          | ((simp [cl]; done))
      · repeat' first
          | (refine Step.mk ?_; conv => whnf)
          | (refine Vc.om ?_ ?_; first | omega | with_reducible rfl | with_reducible exact ⟨rfl, fun _ _ => rfl⟩ | (simp only [bytes_2, bytes_3, bytes_4, bytes_5, bytes_9, bytes_12, bytes_21, bytes_22, bytes_25, bytes_27, bytes_28, bytes_31, bytes_41, bytes_43, bytes_44, bytes_45, bytes_49, bytes_51, bytes_62, bytes_71, bytes_75, bytes_78]; omega))
          | (refine NilB.mk fun b hb => Step.out ?_)
          | trivial
          | with_reducible rfl
          | with_reducible exact ⟨rfl, fun _ _ => rfl⟩
          | (refine Wr.i64 ?_ ?_; omega)
          | (refine Wr.u8 ?_ ?_; omega)
          | (refine Wr.i32 ?_ ?_; omega)
          | (refine Br.tt ?_)
          | (refine Br.ff ?_)
          | (refine Br.dT ?_ ?_; omega)
          | (refine Br.dF ?_ ?_; omega)
          | (refine Vc.om ?_ ?_; focus (simp [cl, bytes_3]; omega; done))
          | (refine Wr.i64 ?_ ?_; focus (simp [cl, bytes_3]; omega; done))
          | (refine Wr.u8 ?_ ?_; focus (simp [cl, bytes_3]; omega; done))
          | (refine Br.dT ?_ ?_; focus (simp [cl, bytes_3]; omega; done))
          | (refine Br.dF ?_ ?_; focus (simp [cl, bytes_3]; omega; done))
          | (refine Again.by 2 (by omega) ?_)
          | (refine Br.d (fun h => ?_) (fun h => ?_))
          | (refine Br.swap ?_)
          | (refine Br.bnot ?_)
          | (refine Br.mk (fun h => Step.out ?_) (fun h => Step.out ?_))
          | (refine Two.mk (Step.out ?_) (Step.out ?_))
          | (refine CallOK.of_ct (Step.out ?_))
          | (refine Vc.mk ?_ (Step.out ?_))
        all_goals first
          | trivial
          | exact hb h
          | with_reducible rfl
          | with_reducible exact ⟨rfl, fun _ _ => rfl⟩
          | omega
          | ((simp [cl]; done))
    · obtain rfl : i = 2 := by omega
      repeat' first
        | (refine Step.mk ?_; conv => whnf)
        | (refine Vc.om ?_ ?_; first | omega | with_reducible rfl | with_reducible exact ⟨rfl, fun _ _ => rfl⟩ | (simp only [bytes_2, bytes_3, bytes_4, bytes_5, bytes_9, bytes_12, bytes_21, bytes_22, bytes_25, bytes_27, bytes_28, bytes_31, bytes_41, bytes_43, bytes_44, bytes_45, bytes_49, bytes_51, bytes_62, bytes_71, bytes_75, bytes_78]; omega))
        | (refine NilB.mk fun b hb => Step.out ?_)
        | trivial
        | with_reducible rfl
        | with_reducible exact ⟨rfl, fun _ _ => rfl⟩
        | (refine Wr.i64 ?_ ?_; omega)
        | (refine Wr.u8 ?_ ?_; omega)
        | (refine Wr.i32 ?_ ?_; omega)
        | (refine Br.tt ?_)
        | (refine Br.ff ?_)
        | (refine Br.dT ?_ ?_; omega)
        | (refine Br.dF ?_ ?_; omega)
        | (refine Met.by (grow_ct _ (by omega)) ?_; rintro q outs ⟨rfl, rfl⟩)
        | (refine Br.d (fun h => ?_) (fun h => ?_))
        | (refine Br.swap ?_)
        | (refine Br.bnot ?_)
        | (refine Br.mk (fun h => Step.out ?_) (fun h => Step.out ?_))
        | (refine Two.mk (Step.out ?_) (Step.out ?_))
        | (refine CallOK.of_ct (Step.out ?_))
        | (refine Vc.mk ?_ (Step.out ?_))
      refine CodeOK.loopW hΓ hm [] [] (by kernel_rfl) (α := Nat) (fun i => [(25, two a b), (26, i64 2), (27, i64 i), (6, .own 0)]) (fun i => [(0, .arr 3 1 (cl a b i).length fun j => [.int .i64 ((cl a b i).getD j 0)])]) 1 (fun i => i ≤ 2) (fun i => 2 - i) ?_ ?_
      · refine Again.by 0 (by omega) ?_
        repeat' first
          | (refine Step.mk ?_; conv => whnf)
          | (refine Vc.om ?_ ?_; first | omega | with_reducible rfl | with_reducible exact ⟨rfl, fun _ _ => rfl⟩ | (simp only [bytes_2, bytes_3, bytes_4, bytes_5, bytes_9, bytes_12, bytes_21, bytes_22, bytes_25, bytes_27, bytes_28, bytes_31, bytes_41, bytes_43, bytes_44, bytes_45, bytes_49, bytes_51, bytes_62, bytes_71, bytes_75, bytes_78]; omega))
          | (refine NilB.mk fun b hb => Step.out ?_)
          | trivial
          | with_reducible rfl
          | with_reducible exact ⟨rfl, fun _ _ => rfl⟩
          | (refine Wr.i64 ?_ ?_; omega)
          | (refine Wr.u8 ?_ ?_; omega)
          | (refine Wr.i32 ?_ ?_; omega)
          | (refine Br.tt ?_)
          | (refine Br.ff ?_)
          | (refine Br.dT ?_ ?_; omega)
          | (refine Br.dF ?_ ?_; omega)
          | (refine Br.d (fun h => ?_) (fun h => ?_))
          | (refine Br.swap ?_)
          | (refine Br.bnot ?_)
          | (refine Br.mk (fun h => Step.out ?_) (fun h => Step.out ?_))
          | (refine Two.mk (Step.out ?_) (Step.out ?_))
          | (refine CallOK.of_ct (Step.out ?_))
          | (refine Vc.mk ?_ (Step.out ?_))
      · intro i hi
        have hcl := cl_len a b ha hb i
        refine Step.mk ?_
        conv => whnf
        refine Br.d (fun h => ?_) (fun h => ?_)
        · obtain rfl | rfl : i = 0 ∨ i = 1 := by omega
          · repeat' first
              | (refine Step.mk ?_; conv => whnf)
              | (refine Vc.om ?_ ?_; first | omega | with_reducible rfl | with_reducible exact ⟨rfl, fun _ _ => rfl⟩ | (simp only [bytes_2, bytes_3, bytes_4, bytes_5, bytes_9, bytes_12, bytes_21, bytes_22, bytes_25, bytes_27, bytes_28, bytes_31, bytes_41, bytes_43, bytes_44, bytes_45, bytes_49, bytes_51, bytes_62, bytes_71, bytes_75, bytes_78]; omega))
              | (refine NilB.mk fun b hb => Step.out ?_)
              | trivial
              | with_reducible rfl
              | with_reducible exact ⟨rfl, fun _ _ => rfl⟩
              | (refine Wr.i64 ?_ ?_; omega)
              | (refine Wr.u8 ?_ ?_; omega)
              | (refine Wr.i32 ?_ ?_; omega)
              | (refine Br.tt ?_)
              | (refine Br.ff ?_)
              | (refine Br.dT ?_ ?_; omega)
              | (refine Br.dF ?_ ?_; omega)
              | (refine Vc.om ?_ ?_; focus (simp [cl, bytes_3]; omega; done))
              | (refine Wr.i64 ?_ ?_; focus (simp [cl, bytes_3]; omega; done))
              | (refine Wr.u8 ?_ ?_; focus (simp [cl, bytes_3]; omega; done))
              | (refine Br.dT ?_ ?_; focus (simp [cl, bytes_3]; omega; done))
              | (refine Br.dF ?_ ?_; focus (simp [cl, bytes_3]; omega; done))
              | (refine Again.by 1 (by omega) ?_)
              | (refine Br.d (fun h => ?_) (fun h => ?_))
              | (refine Br.swap ?_)
              | (refine Br.bnot ?_)
              | (refine Br.mk (fun h => Step.out ?_) (fun h => Step.out ?_))
              | (refine Two.mk (Step.out ?_) (Step.out ?_))
              | (refine CallOK.of_ct (Step.out ?_))
              | (refine Vc.mk ?_ (Step.out ?_))
            all_goals first
              | trivial
              | exact hb h
              | with_reducible rfl
              | with_reducible exact ⟨rfl, fun _ _ => rfl⟩
              | omega
              | ((refine ⟨by simp [cl], fun j hj => ?_⟩; simp only [iteL_int, iteL1_int]; simp [cl]))
          · repeat' first
              | (refine Step.mk ?_; conv => whnf)
              | (refine Vc.om ?_ ?_; first | omega | with_reducible rfl | with_reducible exact ⟨rfl, fun _ _ => rfl⟩ | (simp only [bytes_2, bytes_3, bytes_4, bytes_5, bytes_9, bytes_12, bytes_21, bytes_22, bytes_25, bytes_27, bytes_28, bytes_31, bytes_41, bytes_43, bytes_44, bytes_45, bytes_49, bytes_51, bytes_62, bytes_71, bytes_75, bytes_78]; omega))
              | (refine NilB.mk fun b hb => Step.out ?_)
              | trivial
              | with_reducible rfl
              | with_reducible exact ⟨rfl, fun _ _ => rfl⟩
              | (refine Wr.i64 ?_ ?_; omega)
              | (refine Wr.u8 ?_ ?_; omega)
              | (refine Wr.i32 ?_ ?_; omega)
              | (refine Br.tt ?_)
              | (refine Br.ff ?_)
              | (refine Br.dT ?_ ?_; omega)
              | (refine Br.dF ?_ ?_; omega)
              | (refine Vc.om ?_ ?_; focus (simp [cl, bytes_3]; omega; done))
              | (refine Wr.i64 ?_ ?_; focus (simp [cl, bytes_3]; omega; done))
              | (refine Wr.u8 ?_ ?_; focus (simp [cl, bytes_3]; omega; done))
              | (refine Br.dT ?_ ?_; focus (simp [cl, bytes_3]; omega; done))
              | (refine Br.dF ?_ ?_; focus (simp [cl, bytes_3]; omega; done))
              | (refine Again.by 2 (by omega) ?_)
              | (refine Br.d (fun h => ?_) (fun h => ?_))
              | (refine Br.swap ?_)
              | (refine Br.bnot ?_)
              | (refine Br.mk (fun h => Step.out ?_) (fun h => Step.out ?_))
              | (refine Two.mk (Step.out ?_) (Step.out ?_))
              | (refine CallOK.of_ct (Step.out ?_))
              | (refine Vc.mk ?_ (Step.out ?_))
            all_goals first
              | trivial
              | exact hb h
              | with_reducible rfl
              | with_reducible exact ⟨rfl, fun _ _ => rfl⟩
              | omega
              | ((refine ⟨by simp [cl], fun j hj => ?_⟩; simp only [iteL_int, iteL1_int, cl, getD_app]; simp))
              | ((simp [cl]; omega))
        · obtain rfl : i = 2 := by omega
          repeat' first
            | (refine Step.mk ?_; conv => whnf)
            | (refine Vc.om ?_ ?_; first | omega | with_reducible rfl | with_reducible exact ⟨rfl, fun _ _ => rfl⟩ | (simp only [bytes_2, bytes_3, bytes_4, bytes_5, bytes_9, bytes_12, bytes_21, bytes_22, bytes_25, bytes_27, bytes_28, bytes_31, bytes_41, bytes_43, bytes_44, bytes_45, bytes_49, bytes_51, bytes_62, bytes_71, bytes_75, bytes_78]; omega))
            | (refine NilB.mk fun b hb => Step.out ?_)
            | trivial
            | with_reducible rfl
            | with_reducible exact ⟨rfl, fun _ _ => rfl⟩
            | (refine Wr.i64 ?_ ?_; omega)
            | (refine Wr.u8 ?_ ?_; omega)
            | (refine Wr.i32 ?_ ?_; omega)
            | (refine Br.tt ?_)
            | (refine Br.ff ?_)
            | (refine Br.dT ?_ ?_; omega)
            | (refine Br.dF ?_ ?_; omega)
            | (refine Br.d (fun h => ?_) (fun h => ?_))
            | (refine Br.swap ?_)
            | (refine Br.bnot ?_)
            | (refine Br.mk (fun h => Step.out ?_) (fun h => Step.out ?_))
            | (refine Two.mk (Step.out ?_) (Step.out ?_))
            | (refine CallOK.of_ct (Step.out ?_))
            | (refine Vc.mk ?_ (Step.out ?_))
          all_goals first
            | trivial
            | exact hb h
            | with_reducible rfl
            | with_reducible exact ⟨rfl, fun _ _ => rfl⟩
            | omega
            | (exact ⟨rfl, fun _ _ => rfl⟩)
end Kx
