/-
  slices.Concat of two lists of packets; cmp.Compare; slices.BinarySearchFunc.
  No condition beyond those written in each theorem.
-/
import Derived.Test.YtnjjjmknmoenmaaKDc
open Go Sx Go.Proofs
set_option linter.unusedSimpArgs false
set_option linter.unusedVariables false
namespace Kx
def twoP (a b : List Pk) : D := .tab 1 2 fun i => selC [[pks a], [pks b]] i
def cl {α : Type} (a b : List α) (i : Nat) : List α := match i with | 0 => [] | 1 => a | _ => a ++ b
theorem cl_len {α : Type} (a b : List α) (ha : a.length ≤ 40000) (hb : b.length ≤ 40000) (i : Nat) : (cl a b i).length ≤ 80000 := by
  unfold cl; split <;> (try simp only [List.length_append]) <;> (try simp only [List.length_nil]) <;> omega
theorem growP_ct (n : Int) (h0 : 0 ≤ n ∧ n ≤ 1000000) : Ct Try.prog 79 [.nil, i64 n] fun r outs => r = pksO 43 [] ∧ outs = [] := by
  refine .det (.of_W (fn := Try.f79) hΓ hm Try.func79 [] [] (by kernel_rfl) (Step.out ?_))
  repeat' first
    | (refine Step.mk ?_; conv => whnf)
    | (refine Vc.om ?_ ?_; first | omega | with_reducible rfl | with_reducible exact same_rfl)
    | (refine Vc.om ?_ ?_; (simp only [bytes_2, bytes_3, bytes_4, bytes_5, bytes_9, bytes_12, bytes_21, bytes_22, bytes_25, bytes_27, bytes_28, bytes_29, bytes_30, bytes_33, bytes_42, bytes_43, bytes_47, bytes_51, bytes_52, bytes_53, bytes_57, bytes_58, bytes_59, bytes_73, bytes_91, bytes_104, bytes_108, true_and, and_true] <;> omega))
    | with_reducible trivial
    | (refine Wr.i64 ?_ ?_; omega)
    | (refine Br.dF ?_ ?_; omega)
    | (refine Br.d (fun h => ?_) (fun h => ?_))
    | (refine Two.mk (Step.out ?_) (Step.out ?_))
  all_goals first
    | trivial
    | exact hb h
    | with_reducible rfl
    | with_reducible exact same_rfl
    | omega
    | (exact ⟨rfl, fun i hi => absurd hi (by simp)⟩)
theorem iteL1_pk (c : Prop) [Decidable c] (a b : Pk) : iteL1 c (pkF a) (pkF b) = pkF (if c then a else b) := iteL_pk c a b
theorem concatP_ct (a b : List Pk) (ha : a.length ≤ 40000) (hb : b.length ≤ 40000) : Ct Try.prog 65 [twoP a b] fun r outs => r = pksO 43 (a ++ b) ∧ outs = [] := by
  refine .det (.of_W (fn := Try.f65) hΓ hm Try.func65 [] [] (by kernel_rfl) (Step.out ?_))
  repeat' first
    | (refine Step.mk ?_; conv => whnf)
  refine CodeOK.loopW hΓ hm [] [] (by kernel_rfl) (α := Nat) (fun i => [(0, twoP a b), (9, twoP a b), (10, i64 2), (11, i64 i), (3, i64 (cl a b i).length)]) (fun i => []) 0 (fun i => i ≤ 2) (fun i => 2 - i) ?_ ?_
  · refine Again.by 0 (by omega) ?_
    repeat' first
      | (refine Step.mk ?_; conv => whnf)
      | (refine Vc.om ?_ ?_; first | omega | with_reducible rfl | with_reducible exact same_rfl)
      | with_reducible trivial
      | (refine Vc.mk ?_ (Step.out ?_))
    all_goals first
      | trivial
      | exact hb h
      | with_reducible rfl
      | with_reducible exact same_rfl
      | omega
      | ((simp [cl]; done))
  · intro i hi
    have hcl := cl_len a b ha hb i
    refine Step.mk ?_
    conv => whnf
    refine Br.d (fun h => ?_) (fun h => ?_)
    · obtain rfl | rfl : i = 0 ∨ i = 1 := by omega
      · repeat' first
          | (refine Step.mk ?_; conv => whnf)
          | (refine Vc.om ?_ ?_; first | omega | with_reducible rfl | with_reducible exact same_rfl)
          | with_reducible trivial
          | (refine Wr.i64 ?_ ?_; omega)
          | (refine Br.dF ?_ ?_; omega)
          | (refine Wr.i64 ?_ ?_; focus (simp [cl, bytes_43]; omega; done))
          | (refine Again.by 1 (by omega) ?_)
          | (refine Vc.mk ?_ (Step.out ?_))
        all_goals first
          | trivial
          | exact hb h
          | with_reducible rfl
          | with_reducible exact same_rfl
          | omega
          | ((simp [cl]; done))
      · repeat' first
          | (refine Step.mk ?_; conv => whnf)
          | (refine Vc.om ?_ ?_; first | omega | with_reducible rfl | with_reducible exact same_rfl)
          | with_reducible trivial
          | (refine Wr.i64 ?_ ?_; omega)
          | (refine Br.dF ?_ ?_; omega)
          | (refine Wr.i64 ?_ ?_; focus (simp [cl, bytes_43]; omega; done))
          | (refine Again.by 2 (by omega) ?_)
          | (refine Vc.mk ?_ (Step.out ?_))
        all_goals first
          | trivial
          | exact hb h
          | with_reducible rfl
          | with_reducible exact same_rfl
          | omega
          | ((simp [cl]; done))
    · obtain rfl : i = 2 := by omega
      repeat' first
        | (refine Step.mk ?_; conv => whnf)
        | (refine Met.by (growP_ct _ (by omega)) ?_; rintro q outs ⟨rfl, rfl⟩)
        | (refine CallOK.of_ct (Step.out ?_))
      refine CodeOK.loopW hΓ hm [] [] (by kernel_rfl) (α := Nat) (fun i => [(25, twoP a b), (26, i64 2), (27, i64 i), (6, .own 0)]) (fun i => [(0, .arr 43 2 (cl a b i).length fun j => pkF ((cl a b i).getD j (0, [])))]) 1 (fun i => i ≤ 2) (fun i => 2 - i) ?_ ?_
      · refine Again.by 0 (by omega) ?_
        repeat' first
          | (refine Step.mk ?_; conv => whnf)
          | (refine Vc.om ?_ ?_; first | omega | with_reducible rfl | with_reducible exact same_rfl)
          | with_reducible trivial
          | (refine Vc.mk ?_ (Step.out ?_))
        all_goals first
          | trivial
          | exact hb h
          | with_reducible rfl
          | with_reducible exact same_rfl
          | omega
          | (exact ⟨rfl, fun _ _ => rfl⟩)
      · intro i hi
        have hcl := cl_len a b ha hb i
        refine Step.mk ?_
        conv => whnf
        refine Br.d (fun h => ?_) (fun h => ?_)
        · obtain rfl | rfl : i = 0 ∨ i = 1 := by omega
          · repeat' first
              | (refine Step.mk ?_; conv => whnf)
              | (refine Vc.om ?_ ?_; first | omega | with_reducible rfl | with_reducible exact same_rfl)
              | with_reducible trivial
              | (refine Wr.i64 ?_ ?_; omega)
              | (refine Vc.om ?_ ?_; focus (simp [cl, bytes_43]; omega; done))
              | (refine Again.by 1 (by omega) ?_)
              | (refine Vc.mk ?_ (Step.out ?_))
            all_goals first
              | trivial
              | exact hb h
              | with_reducible rfl
              | with_reducible exact same_rfl
              | omega
              | ((refine ⟨by simp [cl], fun j hj => ?_⟩; simp only [iteL_pk, iteL1_pk]; simp [cl]))
          · repeat' first
              | (refine Step.mk ?_; conv => whnf)
              | (refine Vc.om ?_ ?_; first | omega | with_reducible rfl | with_reducible exact same_rfl)
              | with_reducible trivial
              | (refine Wr.i64 ?_ ?_; omega)
              | (refine Vc.om ?_ ?_; focus (simp [cl, bytes_43]; omega; done))
              | (refine Again.by 2 (by omega) ?_)
              | (refine Vc.mk ?_ (Step.out ?_))
            all_goals first
              | trivial
              | exact hb h
              | with_reducible rfl
              | with_reducible exact same_rfl
              | omega
              | ((refine ⟨by simp [cl], fun j hj => ?_⟩; simp only [iteL_pk, iteL1_pk, cl, getD_app]; simp))
              | ((simp [cl]; omega))
        · obtain rfl : i = 2 := by omega
          repeat' first
            | (refine Step.mk ?_; conv => whnf)
            | with_reducible trivial
            | (refine Two.mk (Step.out ?_) (Step.out ?_))
          all_goals first
            | trivial
            | exact hb h
            | with_reducible rfl
            | with_reducible exact same_rfl
            | omega
            | (exact ⟨rfl, fun _ _ => rfl⟩)
def cmpI (a b : Int) : Int := if a < b then -1 else if a > b then 1 else 0
theorem isnan_ct (a : Int) : Ct Try.prog 74 [i64 a] fun r outs => r = .bool false ∧ outs = [] := by
  refine .det (.of_W (fn := Try.f74) hΓ hm Try.func74 [] [] (by kernel_rfl) (Step.out ?_))
  repeat' first
    | (refine Step.mk ?_; conv => whnf)
    | with_reducible trivial
    | (refine Two.mk (Step.out ?_) (Step.out ?_))
  all_goals first
    | trivial
    | exact hb h
    | with_reducible rfl
    | with_reducible exact same_rfl
    | omega
    | ((simp; done))
theorem compare_ct (a b : Int) : Ct Try.prog 59 [i64 a, i64 b] fun r outs => r = i64 (cmpI a b) ∧ outs = [] := by
  refine .det (.of_W (fn := Try.f59) hΓ hm Try.func59 [] [] (by kernel_rfl) (Step.out ?_))
  repeat' first
    | (refine Step.mk ?_; conv => whnf)
    | with_reducible trivial
    | (with_reducible refine Br.ff ?_)
    | (refine Br.d (fun h => ?_) (fun h => ?_))
    | (refine Two.mk (Step.out ?_) (Step.out ?_))
    | (refine CallOK.of_ct (Step.out ?_))
    | (refine Met.by (g := 74) (isnan_ct _) ?_; rintro q outs ⟨rfl, rfl⟩)
  all_goals first
    | trivial
    | exact hb h
    | with_reducible rfl
    | with_reducible exact same_rfl
    | omega
    | ((simp only [cmpI]; repeat' split <;> omega))
    | ((simp [cmpI, *]; done))
    | ((simp [cmpI, *]; omega))
theorem heldc_ct (x : Pk) (n : Int) : Ct Try.prog 58 [.agg (pkF x), i64 n] fun r outs => r = i64 (cmpI x.1 n) ∧ outs = [] := by
  refine .det (.of_W (fn := Try.f58) hΓ hm Try.func58 [] [] (by kernel_rfl) (Step.out ?_))
  repeat' first
    | (refine Step.mk ?_; conv => whnf)
    | with_reducible trivial
    | (refine Two.mk (Step.out ?_) (Step.out ?_))
    | (refine CallOK.of_ct (Step.out ?_))
    | (refine Met.by (g := 59) (compare_ct _ _) ?_; rintro q outs ⟨rfl, rfl⟩)
end Kx
