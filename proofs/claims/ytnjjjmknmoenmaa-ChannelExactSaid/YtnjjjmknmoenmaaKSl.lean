/-
  Lists of numbers: slices.IndexFunc, ContainsFunc, Grow, Clone, Concat; fresh.list.
  No condition beyond those written in each theorem.
-/
import Derived.Test.YtnjjjmknmoenmaaKDk
open Go Sx Go.Proofs
set_option linter.unusedSimpArgs false
set_option linter.unusedVariables false
namespace Kx
theorem iteL_int (k : IntKind) (c : Prop) [Decidable c] (x y : Int) : iteL c [D.int k x] [D.int k y] = [D.int k (if c then x else y)] := by cases k <;> rfl
theorem iteL1_int (k : IntKind) (c : Prop) [Decidable c] (x y : Int) : iteL1 c [D.int k x] [D.int k y] = [D.int k (if c then x else y)] := by cases k <;> rfl
theorem getD_app {α : Type} (a b : List α) (j : Nat) (z : α) : (a ++ b).getD j z = if j < a.length then a.getD j z else b.getD (j - a.length) z := by
  simp only [List.getD_eq_getElem?_getD, List.getElem?_append]
  split <;> rfl
theorem getD_setI {α : Type} (l : List α) (k i : Nat) (x z : α) (hi : i < l.length) : (l.set k x).getD i z = if i = k then x else l.getD i z := by
  simp only [List.getD_eq_getElem?_getD, List.getElem?_set]
  by_cases e : k = i
  · subst e; simp [hi]
  · rw [if_neg e, if_neg (Ne.symm e)]
theorem getD_mem {α : Type} {l : List α} {i : Nat} {z : α} (h : i < l.length) : l.getD i z ∈ l := by
  rw [List.getD_eq_getElem?_getD, List.getElem?_eq_getElem h]; exact List.getElem_mem h
def idx {α : Type} (p : α → Bool) : List α → Int → Int
  | [], _ => -1
  | x :: l, k => bif p x then k else idx p l (k + 1)
theorem idx_step {α : Type} (p : α → Bool) (l : List α) (z : α) (i : Nat) (h : i < l.length) : idx p (l.drop i) i = bif p (l.getD i z) then (i : Int) else idx p (l.drop (i + 1)) ((i : Int) + 1) := by
  rw [List.drop_eq_getElem_cons h]
  simp [idx, h]
theorem idx_any {α : Type} (p : α → Bool) : ∀ (l : List α) (k : Int), 0 ≤ k → decide (0 ≤ idx p l k) = l.any p
  | [], k, _ => by simp [idx]
  | x :: l, k, hk => by
    have ih := idx_any p l (k + 1) (by omega)
    rw [idx, List.any_cons]
    cases h : p x
    · rw [cond_false, Bool.false_or]; exact ih
    · rw [cond_true, Bool.true_or]; simpa using hk
theorem any_F {α : Type} {p : α → Bool} {l : List α} {z : α} (h : ∀ j, j < l.length → p (l.getD j z) = false) : l.any p = false := by
  rw [List.any_eq_false]
  intro x hx
  obtain ⟨j, hj, rfl⟩ := List.mem_iff_getElem.1 hx
  have := h j hj
  rw [List.getD_eq_getElem?_getD, List.getElem?_eq_getElem hj] at this
  simpa using this
theorem any_T {α : Type} {p : α → Bool} {l : List α} {z : α} {j : Nat} (hj : j < l.length) (h : p (l.getD j z) = true) : l.any p = true :=
  List.any_eq_true.2 ⟨_, getD_mem hj, h⟩
theorem idxf_ct (l : List Int) (f : Nat) (caps : List D) (p : Int → Bool) (hl : l.length ≤ 100000) (hc : immL caps = true) (hp : ∀ x ∈ l, Ct Try.prog f (i64 x :: caps) fun r _ => r = .bool (p x)) : Ct Try.prog 82 [ints l, .fn f caps] fun r outs => r = i64 (idx p l 0) ∧ outs = [] := by
  refine .det (.of_W (fn := Try.f82) hΓ hm Try.func82 [] [] (by kernel_rfl) (Step.out ?_))
  repeat' first
    | (refine Step.mk ?_; conv => whnf)
    | (refine adL_imm hc (Step.out ?_))
  refine CodeOK.loopW hΓ hm [] [] (by kernel_rfl) (α := Nat) (fun i => [(0, ints l), (1, .fn f caps), (7, i64 l.length), (8, i64 i)]) (fun i => []) 0 (fun i => i ≤ l.length ∧ idx p l 0 = idx p (l.drop i) i) (fun i => l.length - i) ?_ ?_
  · refine Again.by 0 ⟨Nat.zero_le _, rfl⟩ ?_
    repeat' first
      | (refine Step.mk ?_; conv => whnf)
      | (refine Vc.om ?_ ?_; first | omega | with_reducible rfl | with_reducible exact same_rfl)
      | (refine Vc.om ?_ ?_; (simp only [bytes_2, bytes_3, bytes_4, bytes_5, bytes_9, bytes_12, bytes_21, bytes_22, bytes_25, bytes_27, bytes_28, bytes_29, bytes_30, bytes_33, bytes_42, bytes_43, bytes_47, bytes_51, bytes_52, bytes_53, bytes_57, bytes_58, bytes_59, bytes_73, bytes_91, bytes_104, bytes_108, true_and, and_true] <;> omega))
      | with_reducible trivial
      | (refine Cho.l (Step.out ?_))
  · intro i hi
    repeat' first
      | (refine Step.mk ?_; conv => whnf)
      | (refine Vc.om ?_ ?_; first | omega | with_reducible rfl | with_reducible exact same_rfl)
      | with_reducible trivial
      | (refine Wr.i64 ?_ ?_; omega)
      | (refine forceL_of (Step.out ?_))
      | (refine lesL_imm hc (Step.out ?_))
      | (refine Met.by (hp _ ?_) ?_; rotate_left; (rintro q outs rfl))
      | (refine Br.d (fun h => ?_) (fun h => ?_))
      | (refine Br.mk (fun h => Step.out ?_) (fun h => Step.out ?_))
      | (refine Two.mk (Step.out ?_) (Step.out ?_))
      | (refine CallOK.of_ct (Step.out ?_))
    all_goals try simp only [Int.toNat_natCast] at *
    · rw [hi.2, idx_step p l 0 i (by omega), h, cond_true]
    · refine Again.by (i + 1) ⟨⟨by omega, by rw [hi.2, idx_step p l 0 i (by omega), h, cond_false]; rfl⟩, by omega⟩ ?_
      repeat' first
        | (refine Step.mk ?_; conv => whnf)
        | (refine Vc.om ?_ ?_; first | omega | with_reducible rfl | with_reducible exact same_rfl)
        | (refine Vc.om ?_ ?_; (simp only [bytes_2, bytes_3, bytes_4, bytes_5, bytes_9, bytes_12, bytes_21, bytes_22, bytes_25, bytes_27, bytes_28, bytes_29, bytes_30, bytes_33, bytes_42, bytes_43, bytes_47, bytes_51, bytes_52, bytes_53, bytes_57, bytes_58, bytes_59, bytes_73, bytes_91, bytes_104, bytes_108, true_and, and_true] <;> omega))
        | with_reducible trivial
        | (refine Cho.l (Step.out ?_))
    · exact getD_mem (by omega)
    · have e : i = l.length := by omega
      rw [hi.2, e, List.drop_length]; rfl
theorem conf_ct (l : List Int) (f : Nat) (caps : List D) (p : Int → Bool) (hl : l.length ≤ 100000) (hc : immL caps = true) (hp : ∀ x ∈ l, Ct Try.prog f (i64 x :: caps) fun r _ => r = .bool (p x)) : Ct Try.prog 72 [ints l, .fn f caps] fun r outs => r = .bool (l.any p) ∧ outs = [] := by
  refine .det (.of_W (fn := Try.f72) hΓ hm Try.func72 [] [] (by kernel_rfl) (Step.out ?_))
  repeat' first
    | (refine Step.mk ?_; conv => whnf)
    | with_reducible trivial
    | (refine adL_imm hc (Step.out ?_))
    | (refine lesL_imm hc (Step.out ?_))
    | (refine Met.by (idxf_ct l f caps p hl hc hp) ?_; rintro q outs ⟨rfl, rfl⟩)
    | (refine Two.mk (Step.out ?_) (Step.out ?_))
    | (refine CallOK.of_ct (Step.out ?_))
  exact idx_any p l 0 (by omega)
theorem clone_ct (l : List Int) (h0 : l.length ≤ 1000000) : Ct Try.prog 78 [ints l] fun r outs => r = intsO 3 l ∧ outs = [] := by
  refine .det (.of_W (fn := Try.f78) hΓ hm Try.func78 [] [] (by kernel_rfl) (Step.out ?_))
  repeat' first
    | (refine Step.mk ?_; conv => whnf)
    | (refine Vc.om ?_ ?_; (simp only [bytes_2, bytes_3, bytes_4, bytes_5, bytes_9, bytes_12, bytes_21, bytes_22, bytes_25, bytes_27, bytes_28, bytes_29, bytes_30, bytes_33, bytes_42, bytes_43, bytes_47, bytes_51, bytes_52, bytes_53, bytes_57, bytes_58, bytes_59, bytes_73, bytes_91, bytes_104, bytes_108, true_and, and_true] <;> omega))
    | (refine NilB.mk fun b hb => Step.out ?_)
    | with_reducible trivial
    | (refine Br.mk (fun h => Step.out ?_) (fun h => Step.out ?_))
    | (refine Two.mk (Step.out ?_) (Step.out ?_))
  all_goals first
    | trivial
    | exact hb h
    | with_reducible rfl
    | with_reducible exact same_rfl
    | omega
    | (exact ⟨by omega, fun i hi => by simp [iteL, selC]⟩)
theorem list_ct (l : List Int) (hl : l.length ≤ 1000000) : Ct Try.prog 64 [ints l] fun r outs => r = intsO 3 l ∧ outs = [] := by
  refine .det (.of_W (fn := Try.f64) hΓ hm Try.func64 [] [] (by kernel_rfl) (Step.out ?_))
  repeat' first
    | (refine Step.mk ?_; conv => whnf)
    | with_reducible trivial
    | with_reducible exact same_rfl
    | (refine Two.mk (Step.out ?_) (Step.out ?_))
    | (refine CallOK.of_ct (Step.out ?_))
    | (refine Met.by (g := 78) (clone_ct _ (by omega)) ?_; rintro q outs ⟨rfl, rfl⟩)
end Kx
