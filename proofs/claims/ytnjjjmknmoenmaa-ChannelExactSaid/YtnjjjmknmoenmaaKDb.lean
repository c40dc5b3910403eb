/-
  slices.Insert of one element.
  No condition beyond those written in each theorem.
-/
import Derived.Test.YtnjjjmknmoenmaaKDa
import Derived.Test.YtnjjjmknmoenmaaFD
open Go Sx Go.Proofs
set_option linter.unusedSimpArgs false
set_option linter.unusedVariables false
namespace Kx
theorem ovl_ext : ExtOvl Try.prog 60 :=
  ⟨Try.f60, 28, 4, 43, _, Try.func60, by kernel_rfl, by kernel_rfl, by kernel_rfl, by kernel_rfl, slice_of hΓ rfl, (elem_of hΓ (e := 43) (sz := 2) (by kernel_rfl)).choose_spec.choose_spec.1⟩
theorem iteL_pk (c : Prop) [Decidable c] (a b : Pk) : iteL c (pkF a) (pkF b) = pkF (if c then a else b) := by
  rw [iteL_same (pkF_same _ _)]; split <;> rfl
theorem ins_get {α : Type} (l : List α) (x z : α) (i q : Nat) (hi : i ≤ l.length) : (l.take i ++ x :: l.drop i).getD q z = if q < i then l.getD q z else if q = i then x else l.getD (q - 1) z := by
  simp only [List.getD_eq_getElem?_getD, List.getElem?_append, List.length_take, List.getElem?_take, Nat.min_eq_left hi]
  split
  · rfl
  · rcases Nat.eq_or_lt_of_le (show i ≤ q by omega) with h | h
    · subst h; simp
    · rw [if_neg (by omega), show q - i = (q - i - 1) + 1 by omega, List.getElem?_cons_succ, List.getElem?_drop, show i + (q - i - 1) = q - 1 by omega]
theorem insp_ct (l : List Pk) (i : Nat) (x : Pk) (hi : i ≤ l.length) (hl : l.length ≤ 1000000) : Ct Try.prog 43 [pksO 43 l, i64 i, .ftab 43 2 1 fun i => selC [pkF x] i] fun r outs => r = pksO 43 (l.take i ++ x :: l.drop i) ∧ outs = [] := by
  have hov := ovl_ext
  refine .det (.of_Wo (fn := Try.f43) hΓ hm Try.func43 ord43 [] (by kernel_rfl) (Step.out ?_))
  repeat' first
    | (refine Step.mk ?_; conv => whnf)
    | (refine Vc.om ?_ ?_; first | omega | with_reducible rfl | with_reducible exact same_rfl)
    | (refine Vc.om ?_ ?_; (simp only [bytes_2, bytes_3, bytes_4, bytes_5, bytes_9, bytes_12, bytes_21, bytes_22, bytes_25, bytes_27, bytes_28, bytes_29, bytes_30, bytes_33, bytes_42, bytes_43, bytes_47, bytes_51, bytes_52, bytes_53, bytes_57, bytes_58, bytes_59, bytes_73, bytes_91, bytes_104, bytes_108, true_and, and_true] <;> omega))
    | with_reducible trivial
    | (refine Wr.i64 ?_ ?_; omega)
    | (refine Br.dT ?_ ?_; omega)
    | (refine Br.dF ?_ ?_; omega)
    | (refine Br.d (fun h => ?_) (fun h => ?_))
    | (refine Two.mk (Step.out ?_) (Step.out ?_))
    | (refine Cp.mk fun q hq => Step.out ?_)
    | (refine Ovl.mk (by assumption) (Step.out ?_))
  all_goals try omega
  all_goals refine ⟨?_, fun q hq => ?_⟩
  all_goals try (simp; omega)
  all_goals dsimp only
  all_goals
    rw [ins_get l x (0, []) i q hi]
    try simp only [selC, show [D.int IntKind.i64 0, D.str []] = pkF (0, []) from rfl, iteL_pk]
    simp only [List.length_append, List.length_cons, List.length_take, List.length_drop] at hq
    congr 1
    repeat' split
    all_goals first
      | rfl
      | omega
      | (congr 1; omega)
end Kx
