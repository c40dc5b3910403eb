/-
  Distances: what the program computes of two bytes.
  No condition beyond those written in each theorem.
-/
import Derived.Test.YtkmdpliokmfboaaKVk
open Go Sx Go.Proofs
set_option linter.unusedSimpArgs false
set_option linter.unusedVariables false
namespace Kx
/-- The bytes at two places differ. -/
def costN (a b : Str) (i j : Nat) : Nat := if a.getD (i - 1) 0 = b.getD (j - 1) 0 then 0 else 1
def swapB (a b : Str) (i j : Nat) : Bool := decide (1 < i) && decide (1 < j) && decide (a.getD (i - 1) 0 = b.getD (j - 2) 0) && decide (a.getD (i - 2) 0 = b.getD (j - 1) 0)
theorem toN_eq {x y : UInt8} : (x.toNat : Int) = (y.toNat : Int) ↔ x = y := ⟨byte_eq, fun h => by rw [h]⟩
theorem sub1 (i : Nat) : ((i : Int) - 1).toNat = i - 1 := by omega
theorem sub2 (i : Nat) : ((i : Int) - 2).toNat = i - 2 := by omega
theorem lt1 (i : Nat) : (1 < (i : Int)) ↔ 1 < i := by omega
theorem swaps_ct (a b : Str) (i j : Nat) (hi : i ≤ a.length) (hj : j ≤ b.length) (ha : a.length ≤ 64) (hb : b.length ≤ 64) : Ct Try.prog 37 [.str a, .str b, i64 i, i64 j] fun r outs => r = .bool (swapB a b i j) ∧ outs = [] := by
  refine .det (.of_W (fn := Try.f37) hΓ hm Try.func37 ord37 [] (by kernel_rfl) (Step.out ?_))
  repeat' first
    | (refine Step.mk ?_; conv => whnf)
    | (refine Vc.om ?_ ?_; first | omega | with_reducible rfl | with_reducible exact same_rfl | (simp only [bytes_2, bytes_3, bytes_4, bytes_5, bytes_9, bytes_12, bytes_21, bytes_22, bytes_25, bytes_29, bytes_31, bytes_40, bytes_41, bytes_43, bytes_45, bytes_46, bytes_47, bytes_48, bytes_49, bytes_52, bytes_53, bytes_60, bytes_63, bytes_67, bytes_75, bytes_79, true_and, and_true] <;> omega))
    | (refine NilB.mk fun b hb => Step.out ?_)
    | with_reducible trivial
    | exact noSh_bool _
    | exact noSh_lit _
    | exact noSh_int _ _
    | exact noSh_str _
    | with_reducible rfl
    | with_reducible exact same_rfl
    | (refine Wr.i64 ?_ ?_; omega)
    | (refine Wr.u8 ?_ ?_; omega)
    | (refine Wr.i32 ?_ ?_; omega)
    | (with_reducible refine Br.tt ?_)
    | (with_reducible refine Br.ff ?_)
    | (refine Br.dT ?_ ?_; omega)
    | (refine Br.dF ?_ ?_; omega)
    | (refine Br.d (fun h => ?_) (fun h => ?_))
    | (refine Br.swap ?_)
    | (refine Br.bnot ?_)
    | (refine Br.mk (fun h => Step.out ?_) (fun h => Step.out ?_))
    | (refine Two.mk (Step.out ?_) (Step.out ?_))
    | (refine Cp.mk fun q hq => Step.out ?_)
    | (refine Ovl.mk (by assumption) (Step.out ?_))
    | (refine CallOK.of_ct (Step.out ?_))
    | (refine CallQ.of_ct (Step.out ?_))
    | (refine Vc.mk ?_ (Step.out ?_))
  all_goals
    simp only [sub1, sub2, toN_eq, lt1] at *
    simp [swapB, -List.getD_eq_getElem?_getD, *]
theorem cost_ct (a b : Str) (i j : Nat) (hi : 1 ≤ i ∧ i ≤ a.length) (hj : 1 ≤ j ∧ j ≤ b.length) (ha : a.length ≤ 64) (hb : b.length ≤ 64) : Ct Try.prog 36 [.str a, .str b, i64 i, i64 j] fun r outs => r = i64 (costN a b i j) ∧ outs = [] := by
  refine .det (.of_W (fn := Try.f36) hΓ hm Try.func36 ord36 [] (by kernel_rfl) (Step.out ?_))
  repeat' first
    | (refine Step.mk ?_; conv => whnf)
    | (refine Vc.om ?_ ?_; first | omega | with_reducible rfl | with_reducible exact same_rfl | (simp only [bytes_2, bytes_3, bytes_4, bytes_5, bytes_9, bytes_12, bytes_21, bytes_22, bytes_25, bytes_29, bytes_31, bytes_40, bytes_41, bytes_43, bytes_45, bytes_46, bytes_47, bytes_48, bytes_49, bytes_52, bytes_53, bytes_60, bytes_63, bytes_67, bytes_75, bytes_79, true_and, and_true] <;> omega))
    | (refine NilB.mk fun b hb => Step.out ?_)
    | with_reducible trivial
    | exact noSh_bool _
    | exact noSh_lit _
    | exact noSh_int _ _
    | exact noSh_str _
    | with_reducible rfl
    | with_reducible exact same_rfl
    | (refine Wr.i64 ?_ ?_; omega)
    | (refine Wr.u8 ?_ ?_; omega)
    | (refine Wr.i32 ?_ ?_; omega)
    | (with_reducible refine Br.tt ?_)
    | (with_reducible refine Br.ff ?_)
    | (refine Br.dT ?_ ?_; omega)
    | (refine Br.dF ?_ ?_; omega)
    | (refine Br.d (fun h => ?_) (fun h => ?_))
    | (refine Br.swap ?_)
    | (refine Br.bnot ?_)
    | (refine Br.mk (fun h => Step.out ?_) (fun h => Step.out ?_))
    | (refine Two.mk (Step.out ?_) (Step.out ?_))
    | (refine Cp.mk fun q hq => Step.out ?_)
    | (refine Ovl.mk (by assumption) (Step.out ?_))
    | (refine CallOK.of_ct (Step.out ?_))
    | (refine CallQ.of_ct (Step.out ?_))
    | (refine Vc.mk ?_ (Step.out ?_))
  all_goals
    simp only [sub1, toN_eq] at *
    simp [costN, -List.getD_eq_getElem?_getD, *]
theorem check_ct (a b : Str) (ha : a.length ≤ 1000000000) (hb : b.length ≤ 1000000000) : Ct Try.prog 35 [.str a, .str b] fun r outs => r = i64 (if 64 < a.length ∨ 64 < b.length then 1 else 0) ∧ outs = [] := by
  refine .det (.of_W (fn := Try.f35) hΓ hm Try.func35 [] [] (by kernel_rfl) (Step.out ?_))
  repeat' first
    | (refine Step.mk ?_; conv => whnf)
    | (refine Vc.om ?_ ?_; first | omega | with_reducible rfl | with_reducible exact same_rfl | (simp only [bytes_2, bytes_3, bytes_4, bytes_5, bytes_9, bytes_12, bytes_21, bytes_22, bytes_25, bytes_29, bytes_31, bytes_40, bytes_41, bytes_43, bytes_45, bytes_46, bytes_47, bytes_48, bytes_49, bytes_52, bytes_53, bytes_60, bytes_63, bytes_67, bytes_75, bytes_79, true_and, and_true] <;> omega))
    | (refine NilB.mk fun b hb => Step.out ?_)
    | with_reducible trivial
    | exact noSh_bool _
    | exact noSh_lit _
    | exact noSh_int _ _
    | exact noSh_str _
    | with_reducible rfl
    | with_reducible exact same_rfl
    | (refine Wr.i64 ?_ ?_; omega)
    | (refine Wr.u8 ?_ ?_; omega)
    | (refine Wr.i32 ?_ ?_; omega)
    | (with_reducible refine Br.tt ?_)
    | (with_reducible refine Br.ff ?_)
    | (refine Br.dT ?_ ?_; omega)
    | (refine Br.dF ?_ ?_; omega)
    | (refine Br.d (fun h => ?_) (fun h => ?_))
    | (refine Br.swap ?_)
    | (refine Br.bnot ?_)
    | (refine Br.mk (fun h => Step.out ?_) (fun h => Step.out ?_))
    | (refine Two.mk (Step.out ?_) (Step.out ?_))
    | (refine Cp.mk fun q hq => Step.out ?_)
    | (refine Ovl.mk (by assumption) (Step.out ?_))
    | (refine CallOK.of_ct (Step.out ?_))
    | (refine CallQ.of_ct (Step.out ?_))
    | (refine Vc.mk ?_ (Step.out ?_))
  all_goals split <;> omega
end Kx
