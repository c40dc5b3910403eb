/-
  Lists that are cut and put together: slices.Delete.
  No condition beyond those written in each theorem.
-/
import Derived.Test.YtnjjjmknmoenmaaKSl
import Derived.Test.YtnjjjmknmoenmaaFD
open Go Sx Go.Proofs
set_option linter.unusedSimpArgs false
set_option linter.unusedVariables false
namespace Kx
abbrev Pk := Int × Str
def pkF (x : Pk) : List D := [i64 x.1, .str x.2]
def inF (x : Int) : List D := [i64 x]
def stF (x : Str) : List D := [.str x]
def pks (l : List Pk) : D := .tab 2 l.length fun i => pkF (l.getD i (0, []))
def pksO (e : Nat) (l : List Pk) : D := .ftab e 2 l.length fun i => pkF (l.getD i (0, []))
theorem pkF_same : ∀ x y : Pk, sameL (pkF x) (pkF y) = true := fun _ _ => rfl
theorem inF_same : ∀ x y : Int, sameL (inF x) (inF y) = true := fun _ _ => rfl
theorem stF_same : ∀ x y : Str, sameL (stF x) (stF y) = true := fun _ _ => rfl
theorem del_len {α : Type} (l : List α) {i j : Nat} (hij : i < j) (hj : j ≤ l.length) : (l.take i ++ l.drop j).length = i + (l.length - j) := by simp; omega
theorem del_all {α : Type} (F : α → List D) (z : α) (hF : ∀ x y, sameL (F x) (F y) = true) (l : List α) {i j : Nat} (hij : i < j) (hj : j ≤ l.length) :
    (i : Int).toNat - Int.toNat 0 + ((l.length : Int).toNat - (j : Int).toNat) = (l.take i ++ l.drop j).length ∧
    ∀ q, q < (l.take i ++ l.drop j).length → iteL (q < (i : Int).toNat - Int.toNat 0) (F (l.getD q z)) (F (l.getD (0 + (j : Int).toNat + (q - ((i : Int).toNat - Int.toNat 0))) z)) = F ((l.take i ++ l.drop j).getD q z) := by
  have e0 : Int.toNat 0 = 0 := rfl
  refine ⟨by rw [del_len l hij hj]; simp only [Int.toNat_natCast, e0]; omega, fun q hq => ?_⟩
  simp only [Int.toNat_natCast, e0, Nat.sub_zero, Nat.zero_add]
  rw [iteL_same (hF _ _)]
  simp only [List.getD_eq_getElem?_getD, List.getElem?_append, List.length_take, List.getElem?_take, List.getElem?_drop, Nat.min_eq_left (show i ≤ l.length by omega)]
  split <;> simp_all
theorem del_end {α : Type} (F : α → List D) (z : α) (h0 : ∀ x, (F x).length ≠ 0) (l : List α) {i j : Nat} (hij : i < j) (hj : j = l.length) :
    (i : Int).toNat - Int.toNat 0 + 0 = (l.take i ++ l.drop j).length ∧
    ∀ q, q < (l.take i ++ l.drop j).length → iteL (q < (i : Int).toNat - Int.toNat 0) (F (l.getD q z)) [] = F ((l.take i ++ l.drop j).getD q z) := by
  have e0 : Int.toNat 0 = 0 := rfl
  have hl := del_len l hij (by omega)
  refine ⟨by rw [hl]; simp only [Int.toNat_natCast, e0]; omega, fun q hq => ?_⟩
  simp only [Int.toNat_natCast, e0, Nat.sub_zero]
  have hq : q < i := by omega
  have : Nat.beq (F (l.getD q z)).length ([] : List D).length = false := by
    cases h : F (l.getD q z) with
    | nil => exact absurd (by rw [h]; rfl) (h0 (l.getD q z))
    | cons => rfl
  unfold iteL
  rw [this]
  simp only [hq, if_true]
  congr 1
  simp only [List.getD_eq_getElem?_getD, List.getElem?_append, List.length_take, List.getElem?_take, List.getElem?_drop, Nat.min_eq_left (show i ≤ l.length by omega), hq, if_true]
theorem delp_ct (l : List Pk) (i j : Nat) (hij : i < j) (hj : j ≤ l.length) (hl : l.length ≤ 1000000) : Ct Try.prog 41 [pksO 43 l, i64 i, i64 j] fun r outs => r = pksO 43 (l.take i ++ l.drop j) ∧ outs = [] := by
  refine .det (.of_Wo (fn := Try.f41) hΓ hm Try.func41 ord41 [] (by kernel_rfl) (Step.out ?_))
  repeat' first
    | (refine Step.mk ?_; conv => whnf)
    | (refine Vc.om ?_ ?_; first | omega | with_reducible rfl | with_reducible exact same_rfl)
    | (refine Vc.om ?_ ?_; (simp only [bytes_2, bytes_3, bytes_4, bytes_5, bytes_9, bytes_12, bytes_21, bytes_22, bytes_25, bytes_27, bytes_28, bytes_29, bytes_30, bytes_33, bytes_42, bytes_43, bytes_47, bytes_51, bytes_52, bytes_53, bytes_57, bytes_58, bytes_59, bytes_73, bytes_91, bytes_104, bytes_108, true_and, and_true] <;> omega))
    | with_reducible trivial
    | (refine Br.dT ?_ ?_; omega)
    | (refine Br.dF ?_ ?_; omega)
    | (refine Br.d (fun h => ?_) (fun h => ?_))
    | (refine Two.mk (Step.out ?_) (Step.out ?_))
    | (refine Cp.mk fun q hq => Step.out ?_)
  all_goals try omega
  · exact del_all pkF (0, []) pkF_same l hij hj
  · exact del_end pkF (0, []) (fun _ => by simp [pkF]) l hij (by omega)
theorem deli_ct (l : List Int) (i j : Nat) (hij : i < j) (hj : j ≤ l.length) (hl : l.length ≤ 1000000) : Ct Try.prog 44 [intsO 3 l, i64 i, i64 j] fun r outs => r = intsO 3 (l.take i ++ l.drop j) ∧ outs = [] := by
  refine .det (.of_Wo (fn := Try.f44) hΓ hm Try.func44 ord44 [] (by kernel_rfl) (Step.out ?_))
  repeat' first
    | (refine Step.mk ?_; conv => whnf)
    | (refine Vc.om ?_ ?_; first | omega | with_reducible rfl | with_reducible exact same_rfl)
    | (refine Vc.om ?_ ?_; (simp only [bytes_2, bytes_3, bytes_4, bytes_5, bytes_9, bytes_12, bytes_21, bytes_22, bytes_25, bytes_27, bytes_28, bytes_29, bytes_30, bytes_33, bytes_42, bytes_43, bytes_47, bytes_51, bytes_52, bytes_53, bytes_57, bytes_58, bytes_59, bytes_73, bytes_91, bytes_104, bytes_108, true_and, and_true] <;> omega))
    | with_reducible trivial
    | (refine Br.dT ?_ ?_; omega)
    | (refine Br.dF ?_ ?_; omega)
    | (refine Br.d (fun h => ?_) (fun h => ?_))
    | (refine Two.mk (Step.out ?_) (Step.out ?_))
    | (refine Cp.mk fun q hq => Step.out ?_)
  all_goals try omega
  · exact del_all inF 0 inF_same l hij hj
  · exact del_end inF 0 (fun _ => by simp [inF]) l hij (by omega)
theorem dels_ct (l : List Str) (i j : Nat) (hij : i < j) (hj : j ≤ l.length) (hl : l.length ≤ 1000000) : Ct Try.prog 45 [strsO 9 l, i64 i, i64 j] fun r outs => r = strsO 9 (l.take i ++ l.drop j) ∧ outs = [] := by
  refine .det (.of_Wo (fn := Try.f45) hΓ hm Try.func45 ord45 [] (by kernel_rfl) (Step.out ?_))
  repeat' first
    | (refine Step.mk ?_; conv => whnf)
    | (refine Vc.om ?_ ?_; first | omega | with_reducible rfl | with_reducible exact same_rfl)
    | (refine Vc.om ?_ ?_; (simp only [bytes_2, bytes_3, bytes_4, bytes_5, bytes_9, bytes_12, bytes_21, bytes_22, bytes_25, bytes_27, bytes_28, bytes_29, bytes_30, bytes_33, bytes_42, bytes_43, bytes_47, bytes_51, bytes_52, bytes_53, bytes_57, bytes_58, bytes_59, bytes_73, bytes_91, bytes_104, bytes_108, true_and, and_true] <;> omega))
    | with_reducible trivial
    | (refine Br.dT ?_ ?_; omega)
    | (refine Br.dF ?_ ?_; omega)
    | (refine Br.d (fun h => ?_) (fun h => ?_))
    | (refine Two.mk (Step.out ?_) (Step.out ?_))
    | (refine Cp.mk fun q hq => Step.out ?_)
  all_goals try omega
  · exact del_all stF [] stF_same l hij hj
  · exact del_end stF [] (fun _ => by simp [stF]) l hij (by omega)
end Kx
