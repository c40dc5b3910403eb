/-
  Lists of texts and of packets: slices.IndexFunc, ContainsFunc, Clone; fresh.list.
  No condition beyond those written in each theorem.
-/
import Derived.Test.YtnjjjmknmoenmaaKDb
open Go Sx Go.Proofs
set_option linter.unusedSimpArgs false
set_option linter.unusedVariables false
namespace Kx
theorem idxfS_ct (l : List Str) (f : Nat) (caps : List D) (p : Str → Bool) (hl : l.length ≤ 100000) (hc : immL caps = true) (hp : ∀ x ∈ l, Ct Try.prog f (.str x :: caps) fun r _ => r = .bool (p x)) : Ct Try.prog 80 [strs l, .fn f caps] fun r outs => r = i64 (idx p l 0) ∧ outs = [] := by
  refine .det (.of_W (fn := Try.f80) hΓ hm Try.func80 [] [] (by kernel_rfl) (Step.out ?_))
  repeat' first
    | (refine Step.mk ?_; conv => whnf)
    | (refine adL_imm hc (Step.out ?_))
  refine CodeOK.loopW hΓ hm [] [] (by kernel_rfl) (α := Nat) (fun i => [(0, strs l), (1, .fn f caps), (7, i64 l.length), (8, i64 i)]) (fun i => []) 0 (fun i => i ≤ l.length ∧ idx p l 0 = idx p (l.drop i) i) (fun i => l.length - i) ?_ ?_
  · refine Again.by 0 ⟨Nat.zero_le _, rfl⟩ ?_
    repeat' first
      | (refine Step.mk ?_; conv => whnf)
      | (refine Vc.om ?_ ?_; first | omega | with_reducible rfl | with_reducible exact same_rfl)
      | (refine Vc.om ?_ ?_; (simp only [bytes_2, bytes_3, bytes_4, bytes_5, bytes_9, bytes_12, bytes_21, bytes_22, bytes_25, bytes_27, bytes_28, bytes_29, bytes_30, bytes_33, bytes_42, bytes_43, bytes_47, bytes_51, bytes_52, bytes_53, bytes_57, bytes_58, bytes_59, bytes_73, bytes_91, bytes_104, bytes_108, true_and, and_true] <;> omega))
      | with_reducible trivial
      | (refine Cho.l (Step.out ?_))
  · intro i hi
    repeat' first
      | (refine Step.mk ?_; conv => whnf)
      | (refine Vc.om ?_ ?_; first | omega | with_reducible rfl | with_reducible exact same_rfl)
      | with_reducible trivial
      | (refine Wr.i64 ?_ ?_; omega)
      | (refine forceL_of (Step.out ?_))
      | (refine lesL_imm hc (Step.out ?_))
      | (refine Met.by (hp _ ?_) ?_; rotate_left; (rintro q outs rfl))
      | (refine Br.d (fun h => ?_) (fun h => ?_))
      | (refine Br.mk (fun h => Step.out ?_) (fun h => Step.out ?_))
      | (refine Two.mk (Step.out ?_) (Step.out ?_))
      | (refine CallOK.of_ct (Step.out ?_))
    all_goals try simp only [Int.toNat_natCast] at *
    · rw [hi.2, idx_step p l [] i (by omega), h, cond_true]
    · refine Again.by (i + 1) ⟨⟨by omega, by rw [hi.2, idx_step p l [] i (by omega), h, cond_false]; rfl⟩, by omega⟩ ?_
      repeat' first
        | (refine Step.mk ?_; conv => whnf)
        | (refine Vc.om ?_ ?_; first | omega | with_reducible rfl | with_reducible exact same_rfl)
        | (refine Vc.om ?_ ?_; (simp only [bytes_2, bytes_3, bytes_4, bytes_5, bytes_9, bytes_12, bytes_21, bytes_22, bytes_25, bytes_27, bytes_28, bytes_29, bytes_30, bytes_33, bytes_42, bytes_43, bytes_47, bytes_51, bytes_52, bytes_53, bytes_57, bytes_58, bytes_59, bytes_73, bytes_91, bytes_104, bytes_108, true_and, and_true] <;> omega))
        | with_reducible trivial
        | (refine Cho.l (Step.out ?_))
    · exact getD_mem (by omega)
    · have e : i = l.length := by omega
      rw [hi.2, e, List.drop_length]; rfl
theorem confS_ct (l : List Str) (f : Nat) (caps : List D) (p : Str → Bool) (hl : l.length ≤ 100000) (hc : immL caps = true) (hp : ∀ x ∈ l, Ct Try.prog f (.str x :: caps) fun r _ => r = .bool (p x)) : Ct Try.prog 66 [strs l, .fn f caps] fun r outs => r = .bool (l.any p) ∧ outs = [] := by
  refine .det (.of_W (fn := Try.f66) hΓ hm Try.func66 [] [] (by kernel_rfl) (Step.out ?_))
  repeat' first
    | (refine Step.mk ?_; conv => whnf)
    | with_reducible trivial
    | (refine adL_imm hc (Step.out ?_))
    | (refine lesL_imm hc (Step.out ?_))
    | (refine Met.by (idxfS_ct l f caps p hl hc hp) ?_; rintro q outs ⟨rfl, rfl⟩)
    | (refine Two.mk (Step.out ?_) (Step.out ?_))
    | (refine CallOK.of_ct (Step.out ?_))
  exact idx_any p l 0 (by omega)
theorem cloneS_ct (l : List Str) (h0 : l.length ≤ 1000000) : Ct Try.prog 76 [strs l] fun r outs => r = strsO 9 l ∧ outs = [] := by
  refine .det (.of_W (fn := Try.f76) hΓ hm Try.func76 [] [] (by kernel_rfl) (Step.out ?_))
  repeat' first
    | (refine Step.mk ?_; conv => whnf)
    | (refine Vc.om ?_ ?_; (simp only [bytes_2, bytes_3, bytes_4, bytes_5, bytes_9, bytes_12, bytes_21, bytes_22, bytes_25, bytes_27, bytes_28, bytes_29, bytes_30, bytes_33, bytes_42, bytes_43, bytes_47, bytes_51, bytes_52, bytes_53, bytes_57, bytes_58, bytes_59, bytes_73, bytes_91, bytes_104, bytes_108, true_and, and_true] <;> omega))
    | (refine NilB.mk fun b hb => Step.out ?_)
    | with_reducible trivial
    | (refine Br.mk (fun h => Step.out ?_) (fun h => Step.out ?_))
    | (refine Two.mk (Step.out ?_) (Step.out ?_))
  all_goals first
    | trivial
    | exact hb h
    | with_reducible rfl
    | with_reducible exact same_rfl
    | omega
    | (exact ⟨by omega, fun i hi => by simp [iteL, selC]⟩)
theorem listS_ct (l : List Str) (hl : l.length ≤ 1000000) : Ct Try.prog 62 [strs l] fun r outs => r = strsO 9 l ∧ outs = [] := by
  refine .det (.of_W (fn := Try.f62) hΓ hm Try.func62 [] [] (by kernel_rfl) (Step.out ?_))
  repeat' first
    | (refine Step.mk ?_; conv => whnf)
    | with_reducible trivial
    | with_reducible exact same_rfl
    | (refine Two.mk (Step.out ?_) (Step.out ?_))
    | (refine CallOK.of_ct (Step.out ?_))
    | (refine Met.by (g := 76) (cloneS_ct _ (by omega)) ?_; rintro q outs ⟨rfl, rfl⟩)
theorem idxfP_ct (l : List Pk) (f : Nat) (caps : List D) (p : Pk → Bool) (hl : l.length ≤ 100000) (hc : immL caps = true) (hp : ∀ x ∈ l, Ct Try.prog f (.agg (pkF x) :: caps) fun r _ => r = .bool (p x)) : Ct Try.prog 81 [pks l, .fn f caps] fun r outs => r = i64 (idx p l 0) ∧ outs = [] := by
  refine .det (.of_W (fn := Try.f81) hΓ hm Try.func81 [] [] (by kernel_rfl) (Step.out ?_))
  repeat' first
    | (refine Step.mk ?_; conv => whnf)
    | (refine adL_imm hc (Step.out ?_))
  refine CodeOK.loopW hΓ hm [] [] (by kernel_rfl) (α := Nat) (fun i => [(0, pks l), (1, .fn f caps), (7, i64 l.length), (8, i64 i)]) (fun i => []) 0 (fun i => i ≤ l.length ∧ idx p l 0 = idx p (l.drop i) i) (fun i => l.length - i) ?_ ?_
  · refine Again.by 0 ⟨Nat.zero_le _, rfl⟩ ?_
    repeat' first
      | (refine Step.mk ?_; conv => whnf)
      | (refine Vc.om ?_ ?_; first | omega | with_reducible rfl | with_reducible exact same_rfl)
      | (refine Vc.om ?_ ?_; (simp only [bytes_2, bytes_3, bytes_4, bytes_5, bytes_9, bytes_12, bytes_21, bytes_22, bytes_25, bytes_27, bytes_28, bytes_29, bytes_30, bytes_33, bytes_42, bytes_43, bytes_47, bytes_51, bytes_52, bytes_53, bytes_57, bytes_58, bytes_59, bytes_73, bytes_91, bytes_104, bytes_108, true_and, and_true] <;> omega))
      | with_reducible trivial
      | (refine Cho.l (Step.out ?_))
  · intro i hi
    repeat' first
      | (refine Step.mk ?_; conv => whnf)
      | (refine Vc.om ?_ ?_; first | omega | with_reducible rfl | with_reducible exact same_rfl)
      | with_reducible trivial
      | (refine Wr.i64 ?_ ?_; omega)
      | (refine forceL_of (Step.out ?_))
      | (refine lesL_imm hc (Step.out ?_))
      | (refine Met.by (hp _ ?_) ?_; rotate_left; (rintro q outs rfl))
      | (refine Br.d (fun h => ?_) (fun h => ?_))
      | (refine Br.mk (fun h => Step.out ?_) (fun h => Step.out ?_))
      | (refine Two.mk (Step.out ?_) (Step.out ?_))
      | (refine CallOK.of_ct (Step.out ?_))
    all_goals try simp only [Int.toNat_natCast] at *
    · rw [hi.2, idx_step p l (0, []) i (by omega), h, cond_true]
    · refine Again.by (i + 1) ⟨⟨by omega, by rw [hi.2, idx_step p l (0, []) i (by omega), h, cond_false]; rfl⟩, by omega⟩ ?_
      repeat' first
        | (refine Step.mk ?_; conv => whnf)
        | (refine Vc.om ?_ ?_; first | omega | with_reducible rfl | with_reducible exact same_rfl)
        | (refine Vc.om ?_ ?_; (simp only [bytes_2, bytes_3, bytes_4, bytes_5, bytes_9, bytes_12, bytes_21, bytes_22, bytes_25, bytes_27, bytes_28, bytes_29, bytes_30, bytes_33, bytes_42, bytes_43, bytes_47, bytes_51, bytes_52, bytes_53, bytes_57, bytes_58, bytes_59, bytes_73, bytes_91, bytes_104, bytes_108, true_and, and_true] <;> omega))
        | with_reducible trivial
        | (refine Cho.l (Step.out ?_))
    · exact getD_mem (by omega)
    · have e : i = l.length := by omega
      rw [hi.2, e, List.drop_length]; rfl
theorem confP_ct (l : List Pk) (f : Nat) (caps : List D) (p : Pk → Bool) (hl : l.length ≤ 100000) (hc : immL caps = true) (hp : ∀ x ∈ l, Ct Try.prog f (.agg (pkF x) :: caps) fun r _ => r = .bool (p x)) : Ct Try.prog 70 [pks l, .fn f caps] fun r outs => r = .bool (l.any p) ∧ outs = [] := by
  refine .det (.of_W (fn := Try.f70) hΓ hm Try.func70 [] [] (by kernel_rfl) (Step.out ?_))
  repeat' first
    | (refine Step.mk ?_; conv => whnf)
    | with_reducible trivial
    | (refine adL_imm hc (Step.out ?_))
    | (refine lesL_imm hc (Step.out ?_))
    | (refine Met.by (idxfP_ct l f caps p hl hc hp) ?_; rintro q outs ⟨rfl, rfl⟩)
    | (refine Two.mk (Step.out ?_) (Step.out ?_))
    | (refine CallOK.of_ct (Step.out ?_))
  exact idx_any p l 0 (by omega)
theorem cloneP_ct (l : List Pk) (h0 : l.length ≤ 1000000) : Ct Try.prog 77 [pks l] fun r outs => r = pksO 43 l ∧ outs = [] := by
  refine .det (.of_W (fn := Try.f77) hΓ hm Try.func77 [] [] (by kernel_rfl) (Step.out ?_))
  repeat' first
    | (refine Step.mk ?_; conv => whnf)
    | (refine Vc.om ?_ ?_; (simp only [bytes_2, bytes_3, bytes_4, bytes_5, bytes_9, bytes_12, bytes_21, bytes_22, bytes_25, bytes_27, bytes_28, bytes_29, bytes_30, bytes_33, bytes_42, bytes_43, bytes_47, bytes_51, bytes_52, bytes_53, bytes_57, bytes_58, bytes_59, bytes_73, bytes_91, bytes_104, bytes_108, true_and, and_true] <;> omega))
    | (refine NilB.mk fun b hb => Step.out ?_)
    | with_reducible trivial
    | (refine Br.mk (fun h => Step.out ?_) (fun h => Step.out ?_))
    | (refine Two.mk (Step.out ?_) (Step.out ?_))
  all_goals first
    | trivial
    | exact hb h
    | with_reducible rfl
    | with_reducible exact same_rfl
    | omega
    | (exact ⟨by omega, fun i hi => by simp [iteL, selC, pkF]⟩)
theorem listP_ct (l : List Pk) (hl : l.length ≤ 1000000) : Ct Try.prog 63 [pks l] fun r outs => r = pksO 43 l ∧ outs = [] := by
  refine .det (.of_W (fn := Try.f63) hΓ hm Try.func63 [] [] (by kernel_rfl) (Step.out ?_))
  repeat' first
    | (refine Step.mk ?_; conv => whnf)
    | with_reducible trivial
    | with_reducible exact same_rfl
    | (refine Two.mk (Step.out ?_) (Step.out ?_))
    | (refine CallOK.of_ct (Step.out ?_))
    | (refine Met.by (g := 77) (cloneP_ct _ (by omega)) ?_; rintro q outs ⟨rfl, rfl⟩)
end Kx
