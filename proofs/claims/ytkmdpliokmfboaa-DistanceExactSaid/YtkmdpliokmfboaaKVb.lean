/-
  The tables of distances.
  No condition beyond those written in each theorem.
-/
import Derived.Test.YtkmdpliokmfboaaKVa
import Derived.Test.YtkmdpliokmfboaaKVm
open Go Sx Go.Proofs
set_option linter.unusedSimpArgs false
set_option linter.unusedVariables false
namespace Kx
/-- The distance of two beginnings. -/
def tbl (a b : Str) (i j : Nat) : Nat := ds (a.take i).reverse (b.take j).reverse
theorem take_rev (a : Str) (i : Nat) (h : i < a.length) : (a.take (i + 1)).reverse = a.getD i 0 :: (a.take i).reverse := by
  rw [take_step a 0 i h, List.reverse_append]; rfl
theorem tbl_0 (a b : Str) (i j : Nat) (hi : i ≤ a.length) (hj : j ≤ b.length) (h : i = 0 ∨ j = 0) : tbl a b i j = i + j := by
  rcases h with rfl | rfl
  · simp only [tbl, List.take_zero, List.reverse_nil, ds_nil, List.length_reverse, List.length_take]; omega
  · simp only [tbl, List.take_zero, List.reverse_nil, ds_nil', List.length_reverse, List.length_take]; omega
theorem tbl_step (a b : Str) (i j : Nat) (hi : 1 ≤ i ∧ i ≤ a.length) (hj : 1 ≤ j ∧ j ≤ b.length) :
    tbl a b i j = if swapB a b i j = true then min (min (tbl a b (i - 1) (j - 1) + costN a b i j) (min (tbl a b (i - 1) j + 1) (tbl a b i (j - 1) + 1))) (tbl a b (i - 2) (j - 2) + 1)
      else min (tbl a b (i - 1) (j - 1) + costN a b i j) (min (tbl a b (i - 1) j + 1) (tbl a b i (j - 1) + 1)) := by
  obtain ⟨i, rfl⟩ : ∃ k, i = k + 1 := ⟨i - 1, by omega⟩
  obtain ⟨j, rfl⟩ : ∃ k, j = k + 1 := ⟨j - 1, by omega⟩
  have hM : dsM (a.getD i 0) (b.getD j 0) (a.take i).reverse (b.take j).reverse = min (tbl a b i j + costN a b (i + 1) (j + 1)) (min (tbl a b i (j + 1) + 1) (tbl a b (i + 1) j + 1)) := by
    simp only [dsM, tbl, costN, Nat.add_sub_cancel, take_rev a i (by omega), take_rev b j (by omega)]
  have e0 : tbl a b (i + 1) (j + 1) = ds (a.getD i 0 :: (a.take i).reverse) (b.getD j 0 :: (b.take j).reverse) := by
    rw [tbl, take_rev a i (by omega), take_rev b j (by omega)]
  simp only [Nat.add_sub_cancel]
  rw [← hM, e0, ds_cons]
  cases i with
  | zero => simp [swapB]
  | succ i =>
    cases j with
    | zero => simp [swapB]
    | succ j =>
      rw [take_rev a i (by omega), take_rev b j (by omega)]
      dsimp only
      have hs : swapB a b (i + 1 + 1) (j + 1 + 1) = true ↔ a.getD (i + 1) 0 = b.getD j 0 ∧ a.getD i 0 = b.getD (j + 1) 0 := by
        simp [swapB, -List.getD_eq_getElem?_getD]
      rw [show i + 1 + 1 - 2 = i by omega, show j + 1 + 1 - 2 = j by omega]
      by_cases h : swapB a b (i + 1 + 1) (j + 1 + 1) = true
      · rw [if_pos (hs.1 h), if_pos h]; rfl
      · rw [if_neg (fun q => h (hs.2 q)), if_neg h]
theorem tbl_le (a b : Str) (i j : Nat) : tbl a b i j ≤ i + j := by
  have := ds_max (a.take i).reverse (b.take j).reverse
  simp only [List.length_reverse, List.length_take] at this
  unfold tbl; omega
def rowD (a b : Str) (i : Nat) : D := .tab 1 (b.length + 1) fun j => [i64 (tbl a b i j)]
def tabD (a b : Str) : D := .tab 1 (a.length + 1) fun i => [rowD a b i]
theorem row_step (a b : Str) (i j n : Nat) (v : Int) (h : v = tbl a b i j) : n = n ∧ ∀ q, q < n → iteL (q = j) (setL [i64 (if j < j then (tbl a b i j : Int) else 0)] 0 [i64 v]) [i64 (if q < j then (tbl a b i q : Int) else 0)] = [i64 (if q < j + 1 then (tbl a b i q : Int) else 0)] := by
  refine ⟨rfl, fun q hq => ?_⟩
  show [i64 (if q = j then v else if q < j then (tbl a b i q : Int) else 0)] = _
  by_cases e : q = j
  · subst e; rw [if_pos rfl, if_pos (Nat.lt_succ_self _), h]
  · rw [if_neg e]
    by_cases l : q < j
    · rw [if_pos l, if_pos (by omega)]
    · rw [if_neg l, if_neg (by omega)]
set_option maxHeartbeats 4000000 in
theorem table_ct (a b : Str) (ha : a.length ≤ 64) (hb : b.length ≤ 64) : Ct Try.prog 38 [.str a, .str b] fun r outs => r = tabD a b ∧ outs = [] := by
  refine .det (.of_W (fn := Try.f38) hΓ hm Try.func38 ord38 [16] (by kernel_rfl) (Step.out ?_))
  repeat' first
    | (refine Step.mk ?_; conv => whnf)
    | (refine Vc.om ?_ ?_; first | omega | with_reducible rfl | with_reducible exact same_rfl | (simp only [bytes_2, bytes_3, bytes_4, bytes_5, bytes_9, bytes_12, bytes_21, bytes_22, bytes_25, bytes_29, bytes_31, bytes_40, bytes_41, bytes_43, bytes_45, bytes_46, bytes_47, bytes_48, bytes_49, bytes_52, bytes_53, bytes_60, bytes_63, bytes_67, bytes_75, bytes_79, true_and, and_true] <;> omega))
    | (refine NilB.mk fun b hb => Step.out ?_)
    | with_reducible trivial
    | exact noSh_bool _
    | exact noSh_lit _
    | exact noSh_int _ _
    | exact noSh_str _
    | with_reducible rfl
    | with_reducible exact same_rfl
    | (refine Wr.i64 ?_ ?_; omega)
    | (refine Wr.u8 ?_ ?_; omega)
    | (refine Wr.i32 ?_ ?_; omega)
    | (with_reducible refine Br.tt ?_)
    | (with_reducible refine Br.ff ?_)
    | (refine Br.dT ?_ ?_; omega)
    | (refine Br.dF ?_ ?_; omega)
    | (refine Br.d (fun h => ?_) (fun h => ?_))
    | (refine Br.swap ?_)
    | (refine Br.bnot ?_)
    | (refine Br.mk (fun h => Step.out ?_) (fun h => Step.out ?_))
    | (refine Two.mk (Step.out ?_) (Step.out ?_))
    | (refine Cp.mk fun q hq => Step.out ?_)
    | (refine Ovl.mk (by assumption) (Step.out ?_))
    | (refine CallOK.of_ct (Step.out ?_))
    | (refine CallQ.of_ct (Step.out ?_))
    | (refine Met.by (g := 36) (cost_ct _ _ _ _ (by omega) (by omega) (by omega) (by omega)) ?_; rintro q outs ⟨rfl, rfl⟩)
    | (refine Met.by (g := 37) (swaps_ct _ _ _ _ (by omega) (by omega) (by omega) (by omega)) ?_; rintro q outs ⟨rfl, rfl⟩)
    | (refine Vc.mk ?_ (Step.out ?_))
  refine CodeOK.loopW hΓ hm ord38 [16] (by kernel_rfl) (α := Nat) (fun i => [(0, .str a), (1, .str b), (5, .own 0), (13, i64 ((a.length : Int) + 1)), (14, i64 i)]) (fun i => [(0, .hot 22 (a.length + 1) (fun q => [rowD a b q]) i .any)]) 1 (fun i => i ≤ a.length + 1) (fun i => a.length + 1 - i) ?_ ?_
  · refine Again.by 0 (Nat.zero_le _) ?_
    repeat' first
      | (refine Step.mk ?_; conv => whnf)
      | (refine Vc.om ?_ ?_; first | omega | with_reducible rfl | with_reducible exact same_rfl | (simp only [bytes_2, bytes_3, bytes_4, bytes_5, bytes_9, bytes_12, bytes_21, bytes_22, bytes_25, bytes_29, bytes_31, bytes_40, bytes_41, bytes_43, bytes_45, bytes_46, bytes_47, bytes_48, bytes_49, bytes_52, bytes_53, bytes_60, bytes_63, bytes_67, bytes_75, bytes_79, true_and, and_true] <;> omega))
      | (refine NilB.mk fun b hb => Step.out ?_)
      | with_reducible trivial
      | exact noSh_bool _
      | exact noSh_lit _
      | exact noSh_int _ _
      | exact noSh_str _
      | with_reducible rfl
      | with_reducible exact same_rfl
      | (refine Wr.i64 ?_ ?_; omega)
      | (refine Wr.u8 ?_ ?_; omega)
      | (refine Wr.i32 ?_ ?_; omega)
      | (with_reducible refine Br.tt ?_)
      | (with_reducible refine Br.ff ?_)
      | (refine Br.dT ?_ ?_; omega)
      | (refine Br.dF ?_ ?_; omega)
      | (refine Br.d (fun h => ?_) (fun h => ?_))
      | (refine Br.swap ?_)
      | (refine Br.bnot ?_)
      | (refine Br.mk (fun h => Step.out ?_) (fun h => Step.out ?_))
      | (refine Two.mk (Step.out ?_) (Step.out ?_))
      | (refine Cp.mk fun q hq => Step.out ?_)
      | (refine Ovl.mk (by assumption) (Step.out ?_))
      | (refine CallOK.of_ct (Step.out ?_))
      | (refine CallQ.of_ct (Step.out ?_))
      | (refine Met.by (g := 36) (cost_ct _ _ _ _ (by omega) (by omega) (by omega) (by omega)) ?_; rintro q outs ⟨rfl, rfl⟩)
      | (refine Met.by (g := 37) (swaps_ct _ _ _ _ (by omega) (by omega) (by omega) (by omega)) ?_; rintro q outs ⟨rfl, rfl⟩)
      | (refine Vc.mk ?_ (Step.out ?_))
    exact ⟨by omega, fun j _ h => absurd h (Nat.not_lt_zero j)⟩
  · intro i hi
    repeat' first
      | (refine Step.mk ?_; conv => whnf)
      | (refine Vc.om ?_ ?_; first | omega | with_reducible rfl | with_reducible exact same_rfl | (simp only [bytes_2, bytes_3, bytes_4, bytes_5, bytes_9, bytes_12, bytes_21, bytes_22, bytes_25, bytes_29, bytes_31, bytes_40, bytes_41, bytes_43, bytes_45, bytes_46, bytes_47, bytes_48, bytes_49, bytes_52, bytes_53, bytes_60, bytes_63, bytes_67, bytes_75, bytes_79, true_and, and_true] <;> omega))
      | (refine NilB.mk fun b hb => Step.out ?_)
      | with_reducible trivial
      | exact noSh_bool _
      | exact noSh_lit _
      | exact noSh_int _ _
      | exact noSh_str _
      | with_reducible rfl
      | with_reducible exact same_rfl
      | (refine Wr.i64 ?_ ?_; omega)
      | (refine Wr.u8 ?_ ?_; omega)
      | (refine Wr.i32 ?_ ?_; omega)
      | (with_reducible refine Br.tt ?_)
      | (with_reducible refine Br.ff ?_)
      | (refine Br.dT ?_ ?_; omega)
      | (refine Br.dF ?_ ?_; omega)
      | (refine Br.d (fun h => ?_) (fun h => ?_))
      | (refine Br.swap ?_)
      | (refine Br.bnot ?_)
      | (refine Br.mk (fun h => Step.out ?_) (fun h => Step.out ?_))
      | (refine Two.mk (Step.out ?_) (Step.out ?_))
      | (refine Cp.mk fun q hq => Step.out ?_)
      | (refine Ovl.mk (by assumption) (Step.out ?_))
      | (refine CallOK.of_ct (Step.out ?_))
      | (refine CallQ.of_ct (Step.out ?_))
      | (refine Met.by (g := 36) (cost_ct _ _ _ _ (by omega) (by omega) (by omega) (by omega)) ?_; rintro q outs ⟨rfl, rfl⟩)
      | (refine Met.by (g := 37) (swaps_ct _ _ _ _ (by omega) (by omega) (by omega) (by omega)) ?_; rintro q outs ⟨rfl, rfl⟩)
      | (refine Vc.mk ?_ (Step.out ?_))
    · refine CodeOK.loopW hΓ hm ord38 [] (by kernel_rfl) (α := Nat) (fun j => [(0, .str a), (1, .str b), (5, .own 0), (6, i64 i), (13, i64 ((a.length : Int) + 1)), (14, i64 i), (28, i64 ((b.length : Int) + 1)), (29, i64 j)]) (fun j => [(0, .hot 22 (a.length + 1) (fun q => [rowD a b q]) i (.own 1)), (1, .arr 3 1 (b.length + 1) fun q => [i64 (if q < j then (tbl a b i q : Int) else 0)])]) 2 (fun j => j ≤ b.length + 1) (fun j => b.length + 1 - j) ?_ ?_
      · refine Again.by 0 (Nat.zero_le _) ?_
        repeat' first
          | (refine Step.mk ?_; conv => whnf)
          | (refine Vc.om ?_ ?_; first | omega | with_reducible rfl | with_reducible exact same_rfl | (simp only [bytes_2, bytes_3, bytes_4, bytes_5, bytes_9, bytes_12, bytes_21, bytes_22, bytes_25, bytes_29, bytes_31, bytes_40, bytes_41, bytes_43, bytes_45, bytes_46, bytes_47, bytes_48, bytes_49, bytes_52, bytes_53, bytes_60, bytes_63, bytes_67, bytes_75, bytes_79, true_and, and_true] <;> omega))
          | (refine NilB.mk fun b hb => Step.out ?_)
          | with_reducible trivial
          | exact noSh_bool _
          | exact noSh_lit _
          | exact noSh_int _ _
          | exact noSh_str _
          | with_reducible rfl
          | with_reducible exact same_rfl
          | (refine Wr.i64 ?_ ?_; omega)
          | (refine Wr.u8 ?_ ?_; omega)
          | (refine Wr.i32 ?_ ?_; omega)
          | (with_reducible refine Br.tt ?_)
          | (with_reducible refine Br.ff ?_)
          | (refine Br.dT ?_ ?_; omega)
          | (refine Br.dF ?_ ?_; omega)
          | (refine Br.d (fun h => ?_) (fun h => ?_))
          | (refine Br.swap ?_)
          | (refine Br.bnot ?_)
          | (refine Br.mk (fun h => Step.out ?_) (fun h => Step.out ?_))
          | (refine Two.mk (Step.out ?_) (Step.out ?_))
          | (refine Cp.mk fun q hq => Step.out ?_)
          | (refine Ovl.mk (by assumption) (Step.out ?_))
          | (refine CallOK.of_ct (Step.out ?_))
          | (refine CallQ.of_ct (Step.out ?_))
          | (refine Met.by (g := 36) (cost_ct _ _ _ _ (by omega) (by omega) (by omega) (by omega)) ?_; rintro q outs ⟨rfl, rfl⟩)
          | (refine Met.by (g := 37) (swaps_ct _ _ _ _ (by omega) (by omega) (by omega) (by omega)) ?_; rintro q outs ⟨rfl, rfl⟩)
          | (refine Vc.mk ?_ (Step.out ?_))
        · exact ⟨rfl, by omega, fun j _ _ => rfl⟩
        · exact ⟨by omega, fun q _ => rfl⟩
      · intro j hj
        have h1 := tbl_le a b ((i : Int) - 1).toNat ((j : Int) - 1).toNat
        have h2 := tbl_le a b ((i : Int) - 1).toNat (j : Int).toNat
        have h3 := tbl_le a b i ((j : Int) - 1).toNat
        have h4 := tbl_le a b ((i : Int) - 2).toNat ((j : Int) - 2).toNat
        have h5 : costN a b i j ≤ 1 := by unfold costN; split <;> omega
        have hsw : swapB a b i j = true → 2 ≤ i ∧ 2 ≤ j := fun h => by
          simp only [swapB, Bool.and_eq_true, decide_eq_true_eq] at h; omega
        repeat' first
          | (refine Step.mk ?_; conv => whnf)
          | (refine Vc.om ?_ ?_; first | omega | with_reducible rfl | with_reducible exact same_rfl | (simp only [bytes_2, bytes_3, bytes_4, bytes_5, bytes_9, bytes_12, bytes_21, bytes_22, bytes_25, bytes_29, bytes_31, bytes_40, bytes_41, bytes_43, bytes_45, bytes_46, bytes_47, bytes_48, bytes_49, bytes_52, bytes_53, bytes_60, bytes_63, bytes_67, bytes_75, bytes_79, true_and, and_true] <;> omega))
          | (refine NilB.mk fun b hb => Step.out ?_)
          | with_reducible trivial
          | exact noSh_bool _
          | exact noSh_lit _
          | exact noSh_int _ _
          | exact noSh_str _
          | with_reducible rfl
          | with_reducible exact same_rfl
          | (refine Wr.i64 ?_ ?_; omega)
          | (refine Wr.u8 ?_ ?_; omega)
          | (refine Wr.i32 ?_ ?_; omega)
          | (with_reducible refine Br.tt ?_)
          | (with_reducible refine Br.ff ?_)
          | (refine Br.dT ?_ ?_; omega)
          | (refine Br.dF ?_ ?_; omega)
          | (refine Vc.om ?_ ?_; focus ((have := hsw ‹_›; omega); done))
          | (refine Wr.i64 ?_ ?_; focus ((have := hsw ‹_›; omega); done))
          | (refine Wr.u8 ?_ ?_; focus ((have := hsw ‹_›; omega); done))
          | (refine Br.dT ?_ ?_; focus ((have := hsw ‹_›; omega); done))
          | (refine Br.dF ?_ ?_; focus ((have := hsw ‹_›; omega); done))
          | (refine Br.d (fun h => ?_) (fun h => ?_))
          | (refine Br.swap ?_)
          | (refine Br.bnot ?_)
          | (refine Br.mk (fun h => Step.out ?_) (fun h => Step.out ?_))
          | (refine Two.mk (Step.out ?_) (Step.out ?_))
          | (refine Cp.mk fun q hq => Step.out ?_)
          | (refine Ovl.mk (by assumption) (Step.out ?_))
          | (refine CallOK.of_ct (Step.out ?_))
          | (refine CallQ.of_ct (Step.out ?_))
          | (refine Met.by (g := 36) (cost_ct _ _ _ _ (by omega) (by omega) (by omega) (by omega)) ?_; rintro q outs ⟨rfl, rfl⟩)
          | (refine Met.by (g := 37) (swaps_ct _ _ _ _ (by omega) (by omega) (by omega) (by omega)) ?_; rintro q outs ⟨rfl, rfl⟩)
          | (refine Vc.mk ?_ (Step.out ?_))
        all_goals try
          refine Again.by (j + 1) ⟨by omega, by omega⟩ ?_
          repeat' first
            | (refine Step.mk ?_; conv => whnf)
            | (refine Vc.om ?_ ?_; first | omega | with_reducible rfl | with_reducible exact same_rfl | (simp only [bytes_2, bytes_3, bytes_4, bytes_5, bytes_9, bytes_12, bytes_21, bytes_22, bytes_25, bytes_29, bytes_31, bytes_40, bytes_41, bytes_43, bytes_45, bytes_46, bytes_47, bytes_48, bytes_49, bytes_52, bytes_53, bytes_60, bytes_63, bytes_67, bytes_75, bytes_79, true_and, and_true] <;> omega))
            | (refine NilB.mk fun b hb => Step.out ?_)
            | with_reducible trivial
            | exact noSh_bool _
            | exact noSh_lit _
            | exact noSh_int _ _
            | exact noSh_str _
            | with_reducible rfl
            | with_reducible exact same_rfl
            | (refine Wr.i64 ?_ ?_; omega)
            | (refine Wr.u8 ?_ ?_; omega)
            | (refine Wr.i32 ?_ ?_; omega)
            | (with_reducible refine Br.tt ?_)
            | (with_reducible refine Br.ff ?_)
            | (refine Br.dT ?_ ?_; omega)
            | (refine Br.dF ?_ ?_; omega)
            | (refine Br.d (fun h => ?_) (fun h => ?_))
            | (refine Br.swap ?_)
            | (refine Br.bnot ?_)
            | (refine Br.mk (fun h => Step.out ?_) (fun h => Step.out ?_))
            | (refine Two.mk (Step.out ?_) (Step.out ?_))
            | (refine Cp.mk fun q hq => Step.out ?_)
            | (refine Ovl.mk (by assumption) (Step.out ?_))
            | (refine CallOK.of_ct (Step.out ?_))
            | (refine CallQ.of_ct (Step.out ?_))
            | (refine Met.by (g := 36) (cost_ct _ _ _ _ (by omega) (by omega) (by omega) (by omega)) ?_; rintro q outs ⟨rfl, rfl⟩)
            | (refine Met.by (g := 37) (swaps_ct _ _ _ _ (by omega) (by omega) (by omega) (by omega)) ?_; rintro q outs ⟨rfl, rfl⟩)
            | (refine Vc.mk ?_ (Step.out ?_))
          · exact ⟨rfl, by omega, fun _ _ _ => rfl⟩
          · refine row_step a b i j _ _ ?_
            simp only [sub1, sub2, Int.toNat_natCast] at *
            first
              | (have := tbl_0 a b i j (by omega) (by omega) (by omega); omega)
              | (have := tbl_step a b i j (by omega) (by omega); rw [if_pos ‹_›] at this; rw [if_pos (by omega)]; omega)
              | (have := tbl_step a b i j (by omega) (by omega); rw [if_neg (by rw [‹swapB _ _ _ _ = false›]; simp)] at this; rw [if_pos (by omega)]; omega)
        · refine Again.by (i + 1) ⟨by omega, by omega⟩ ?_
          repeat' first
            | (refine Step.mk ?_; conv => whnf)
            | (refine Vc.om ?_ ?_; first | omega | with_reducible rfl | with_reducible exact same_rfl | (simp only [bytes_2, bytes_3, bytes_4, bytes_5, bytes_9, bytes_12, bytes_21, bytes_22, bytes_25, bytes_29, bytes_31, bytes_40, bytes_41, bytes_43, bytes_45, bytes_46, bytes_47, bytes_48, bytes_49, bytes_52, bytes_53, bytes_60, bytes_63, bytes_67, bytes_75, bytes_79, true_and, and_true] <;> omega))
            | (refine NilB.mk fun b hb => Step.out ?_)
            | with_reducible trivial
            | exact noSh_bool _
            | exact noSh_lit _
            | exact noSh_int _ _
            | exact noSh_str _
            | with_reducible rfl
            | with_reducible exact same_rfl
            | (refine Wr.i64 ?_ ?_; omega)
            | (refine Wr.u8 ?_ ?_; omega)
            | (refine Wr.i32 ?_ ?_; omega)
            | (with_reducible refine Br.tt ?_)
            | (with_reducible refine Br.ff ?_)
            | (refine Br.dT ?_ ?_; omega)
            | (refine Br.dF ?_ ?_; omega)
            | (refine Br.d (fun h => ?_) (fun h => ?_))
            | (refine Br.swap ?_)
            | (refine Br.bnot ?_)
            | (refine Br.mk (fun h => Step.out ?_) (fun h => Step.out ?_))
            | (refine Two.mk (Step.out ?_) (Step.out ?_))
            | (refine Cp.mk fun q hq => Step.out ?_)
            | (refine Ovl.mk (by assumption) (Step.out ?_))
            | (refine CallOK.of_ct (Step.out ?_))
            | (refine CallQ.of_ct (Step.out ?_))
            | (refine Met.by (g := 36) (cost_ct _ _ _ _ (by omega) (by omega) (by omega) (by omega)) ?_; rintro q outs ⟨rfl, rfl⟩)
            | (refine Met.by (g := 37) (swaps_ct _ _ _ _ (by omega) (by omega) (by omega) (by omega)) ?_; rintro q outs ⟨rfl, rfl⟩)
            | (refine Vc.mk ?_ (Step.out ?_))
          · exact ⟨rfl, rfl, by omega, fun _ _ _ => rfl⟩
          · exact ⟨rfl, fun q hq => by show [i64 (if q < j then _ else _)] = _; rw [if_pos (by omega)]⟩
    · refine CodeOK.cutW hΓ hm ord38 [] (by kernel_rfl) (α := Unit) (fun z => [(4, .own 0)]) (fun z => [(0, .arr 22 1 (a.length + 1) fun q => [rowD a b q])]) 1 (fun z => True) ?_ ?_
      · repeat' first
          | (refine Step.mk ?_; conv => whnf)
          | (refine Vc.om ?_ ?_; first | omega | with_reducible rfl | with_reducible exact same_rfl | (simp only [bytes_2, bytes_3, bytes_4, bytes_5, bytes_9, bytes_12, bytes_21, bytes_22, bytes_25, bytes_29, bytes_31, bytes_40, bytes_41, bytes_43, bytes_45, bytes_46, bytes_47, bytes_48, bytes_49, bytes_52, bytes_53, bytes_60, bytes_63, bytes_67, bytes_75, bytes_79, true_and, and_true] <;> omega))
          | (refine NilB.mk fun b hb => Step.out ?_)
          | with_reducible trivial
          | exact noSh_bool _
          | exact noSh_lit _
          | exact noSh_int _ _
          | exact noSh_str _
          | with_reducible rfl
          | with_reducible exact same_rfl
          | (refine Wr.i64 ?_ ?_; omega)
          | (refine Wr.u8 ?_ ?_; omega)
          | (refine Wr.i32 ?_ ?_; omega)
          | (with_reducible refine Br.tt ?_)
          | (with_reducible refine Br.ff ?_)
          | (refine Br.dT ?_ ?_; omega)
          | (refine Br.dF ?_ ?_; omega)
          | (refine Br.d (fun h => ?_) (fun h => ?_))
          | (refine Br.swap ?_)
          | (refine Br.bnot ?_)
          | (refine Br.mk (fun h => Step.out ?_) (fun h => Step.out ?_))
          | (refine Two.mk (Step.out ?_) (Step.out ?_))
          | (refine Cp.mk fun q hq => Step.out ?_)
          | (refine Ovl.mk (by assumption) (Step.out ?_))
          | (refine CallOK.of_ct (Step.out ?_))
          | (refine CallQ.of_ct (Step.out ?_))
          | (refine Met.by (g := 36) (cost_ct _ _ _ _ (by omega) (by omega) (by omega) (by omega)) ?_; rintro q outs ⟨rfl, rfl⟩)
          | (refine Met.by (g := 37) (swaps_ct _ _ _ _ (by omega) (by omega) (by omega) (by omega)) ?_; rintro q outs ⟨rfl, rfl⟩)
          | (refine Vc.mk ?_ (Step.out ?_))
        refine Again.by () trivial ?_
        repeat' first
          | (refine Step.mk ?_; conv => whnf)
          | (refine Vc.om ?_ ?_; first | omega | with_reducible rfl | with_reducible exact same_rfl | (simp only [bytes_2, bytes_3, bytes_4, bytes_5, bytes_9, bytes_12, bytes_21, bytes_22, bytes_25, bytes_29, bytes_31, bytes_40, bytes_41, bytes_43, bytes_45, bytes_46, bytes_47, bytes_48, bytes_49, bytes_52, bytes_53, bytes_60, bytes_63, bytes_67, bytes_75, bytes_79, true_and, and_true] <;> omega))
          | (refine NilB.mk fun b hb => Step.out ?_)
          | with_reducible trivial
          | exact noSh_bool _
          | exact noSh_lit _
          | exact noSh_int _ _
          | exact noSh_str _
          | with_reducible rfl
          | with_reducible exact same_rfl
          | (refine Wr.i64 ?_ ?_; omega)
          | (refine Wr.u8 ?_ ?_; omega)
          | (refine Wr.i32 ?_ ?_; omega)
          | (with_reducible refine Br.tt ?_)
          | (with_reducible refine Br.ff ?_)
          | (refine Br.dT ?_ ?_; omega)
          | (refine Br.dF ?_ ?_; omega)
          | (refine Br.d (fun h => ?_) (fun h => ?_))
          | (refine Br.swap ?_)
          | (refine Br.bnot ?_)
          | (refine Br.mk (fun h => Step.out ?_) (fun h => Step.out ?_))
          | (refine Two.mk (Step.out ?_) (Step.out ?_))
          | (refine Cp.mk fun q hq => Step.out ?_)
          | (refine Ovl.mk (by assumption) (Step.out ?_))
          | (refine CallOK.of_ct (Step.out ?_))
          | (refine CallQ.of_ct (Step.out ?_))
          | (refine Met.by (g := 36) (cost_ct _ _ _ _ (by omega) (by omega) (by omega) (by omega)) ?_; rintro q outs ⟨rfl, rfl⟩)
          | (refine Met.by (g := 37) (swaps_ct _ _ _ _ (by omega) (by omega) (by omega) (by omega)) ?_; rintro q outs ⟨rfl, rfl⟩)
          | (refine Vc.mk ?_ (Step.out ?_))
        exact ⟨rfl, by omega, fun _ _ => rfl⟩
      · intro _ _
        repeat' first
          | (refine Step.mk ?_; conv => whnf)
          | (refine Vc.om ?_ ?_; first | omega | with_reducible rfl | with_reducible exact same_rfl | (simp only [bytes_2, bytes_3, bytes_4, bytes_5, bytes_9, bytes_12, bytes_21, bytes_22, bytes_25, bytes_29, bytes_31, bytes_40, bytes_41, bytes_43, bytes_45, bytes_46, bytes_47, bytes_48, bytes_49, bytes_52, bytes_53, bytes_60, bytes_63, bytes_67, bytes_75, bytes_79, true_and, and_true] <;> omega))
          | (refine NilB.mk fun b hb => Step.out ?_)
          | with_reducible trivial
          | exact noSh_bool _
          | exact noSh_lit _
          | exact noSh_int _ _
          | exact noSh_str _
          | with_reducible rfl
          | with_reducible exact same_rfl
          | (refine Wr.i64 ?_ ?_; omega)
          | (refine Wr.u8 ?_ ?_; omega)
          | (refine Wr.i32 ?_ ?_; omega)
          | (with_reducible refine Br.tt ?_)
          | (with_reducible refine Br.ff ?_)
          | (refine Br.dT ?_ ?_; omega)
          | (refine Br.dF ?_ ?_; omega)
          | (refine Br.d (fun h => ?_) (fun h => ?_))
          | (refine Br.swap ?_)
          | (refine Br.bnot ?_)
          | (refine Br.mk (fun h => Step.out ?_) (fun h => Step.out ?_))
          | (refine Two.mk (Step.out ?_) (Step.out ?_))
          | (refine Cp.mk fun q hq => Step.out ?_)
          | (refine Ovl.mk (by assumption) (Step.out ?_))
          | (refine CallOK.of_ct (Step.out ?_))
          | (refine CallQ.of_ct (Step.out ?_))
          | (refine Met.by (g := 36) (cost_ct _ _ _ _ (by omega) (by omega) (by omega) (by omega)) ?_; rintro q outs ⟨rfl, rfl⟩)
          | (refine Met.by (g := 37) (swaps_ct _ _ _ _ (by omega) (by omega) (by omega) (by omega)) ?_; rintro q outs ⟨rfl, rfl⟩)
          | (refine Vc.mk ?_ (Step.out ?_))
set_option maxHeartbeats 4000000 in
theorem rtable_ct (a b : Str) (ha : a.length ≤ 64) (hb : b.length ≤ 64) : Ct Try.prog 40 [.str a, .str b] fun r outs => r = tabD a b ∧ outs = [] := by
  refine .det (.of_W (fn := Try.f40) hΓ hm Try.func40 ord40 [18] (by kernel_rfl) (Step.out ?_))
  repeat' first
    | (refine Step.mk ?_; conv => whnf)
    | (refine Vc.om ?_ ?_; first | omega | with_reducible rfl | with_reducible exact same_rfl | (simp only [bytes_2, bytes_3, bytes_4, bytes_5, bytes_9, bytes_12, bytes_21, bytes_22, bytes_25, bytes_29, bytes_31, bytes_40, bytes_41, bytes_43, bytes_45, bytes_46, bytes_47, bytes_48, bytes_49, bytes_52, bytes_53, bytes_60, bytes_63, bytes_67, bytes_75, bytes_79, true_and, and_true] <;> omega))
    | (refine NilB.mk fun b hb => Step.out ?_)
    | with_reducible trivial
    | exact noSh_bool _
    | exact noSh_lit _
    | exact noSh_int _ _
    | exact noSh_str _
    | with_reducible rfl
    | with_reducible exact same_rfl
    | (refine Wr.i64 ?_ ?_; omega)
    | (refine Wr.u8 ?_ ?_; omega)
    | (refine Wr.i32 ?_ ?_; omega)
    | (with_reducible refine Br.tt ?_)
    | (with_reducible refine Br.ff ?_)
    | (refine Br.dT ?_ ?_; omega)
    | (refine Br.dF ?_ ?_; omega)
    | (refine Br.d (fun h => ?_) (fun h => ?_))
    | (refine Br.swap ?_)
    | (refine Br.bnot ?_)
    | (refine Br.mk (fun h => Step.out ?_) (fun h => Step.out ?_))
    | (refine Two.mk (Step.out ?_) (Step.out ?_))
    | (refine Cp.mk fun q hq => Step.out ?_)
    | (refine Ovl.mk (by assumption) (Step.out ?_))
    | (refine CallOK.of_ct (Step.out ?_))
    | (refine CallQ.of_ct (Step.out ?_))
    | (refine Vc.mk ?_ (Step.out ?_))
  refine CodeOK.loopW hΓ hm ord40 [18] (by kernel_rfl) (α := Nat) (fun i => [(0, .str a), (1, .str b), (5, .own 0), (6, i64 i)]) (fun i => [(0, .hot 22 (a.length + 1) (fun q => [rowD a b q]) i .any)]) 1 (fun i => i ≤ a.length + 1) (fun i => a.length + 1 - i) ?_ ?_
  · refine Again.by 0 (Nat.zero_le _) ?_
    repeat' first
      | (refine Step.mk ?_; conv => whnf)
      | (refine Vc.om ?_ ?_; first | omega | with_reducible rfl | with_reducible exact same_rfl | (simp only [bytes_2, bytes_3, bytes_4, bytes_5, bytes_9, bytes_12, bytes_21, bytes_22, bytes_25, bytes_29, bytes_31, bytes_40, bytes_41, bytes_43, bytes_45, bytes_46, bytes_47, bytes_48, bytes_49, bytes_52, bytes_53, bytes_60, bytes_63, bytes_67, bytes_75, bytes_79, true_and, and_true] <;> omega))
      | (refine NilB.mk fun b hb => Step.out ?_)
      | with_reducible trivial
      | exact noSh_bool _
      | exact noSh_lit _
      | exact noSh_int _ _
      | exact noSh_str _
      | with_reducible rfl
      | with_reducible exact same_rfl
      | (refine Wr.i64 ?_ ?_; omega)
      | (refine Wr.u8 ?_ ?_; omega)
      | (refine Wr.i32 ?_ ?_; omega)
      | (with_reducible refine Br.tt ?_)
      | (with_reducible refine Br.ff ?_)
      | (refine Br.dT ?_ ?_; omega)
      | (refine Br.dF ?_ ?_; omega)
      | (refine Br.d (fun h => ?_) (fun h => ?_))
      | (refine Br.swap ?_)
      | (refine Br.bnot ?_)
      | (refine Br.mk (fun h => Step.out ?_) (fun h => Step.out ?_))
      | (refine Two.mk (Step.out ?_) (Step.out ?_))
      | (refine Cp.mk fun q hq => Step.out ?_)
      | (refine Ovl.mk (by assumption) (Step.out ?_))
      | (refine CallOK.of_ct (Step.out ?_))
      | (refine CallQ.of_ct (Step.out ?_))
      | (refine Vc.mk ?_ (Step.out ?_))
    exact ⟨by omega, fun j _ h => absurd h (Nat.not_lt_zero j)⟩
  · intro i hi
    repeat' first
      | (refine Step.mk ?_; conv => whnf)
      | (refine Vc.om ?_ ?_; first | omega | with_reducible rfl | with_reducible exact same_rfl | (simp only [bytes_2, bytes_3, bytes_4, bytes_5, bytes_9, bytes_12, bytes_21, bytes_22, bytes_25, bytes_29, bytes_31, bytes_40, bytes_41, bytes_43, bytes_45, bytes_46, bytes_47, bytes_48, bytes_49, bytes_52, bytes_53, bytes_60, bytes_63, bytes_67, bytes_75, bytes_79, true_and, and_true] <;> omega))
      | (refine NilB.mk fun b hb => Step.out ?_)
      | with_reducible trivial
      | exact noSh_bool _
      | exact noSh_lit _
      | exact noSh_int _ _
      | exact noSh_str _
      | with_reducible rfl
      | with_reducible exact same_rfl
      | (refine Wr.i64 ?_ ?_; omega)
      | (refine Wr.u8 ?_ ?_; omega)
      | (refine Wr.i32 ?_ ?_; omega)
      | (with_reducible refine Br.tt ?_)
      | (with_reducible refine Br.ff ?_)
      | (refine Br.dT ?_ ?_; omega)
      | (refine Br.dF ?_ ?_; omega)
      | (refine Br.d (fun h => ?_) (fun h => ?_))
      | (refine Br.swap ?_)
      | (refine Br.bnot ?_)
      | (refine Br.mk (fun h => Step.out ?_) (fun h => Step.out ?_))
      | (refine Two.mk (Step.out ?_) (Step.out ?_))
      | (refine Cp.mk fun q hq => Step.out ?_)
      | (refine Ovl.mk (by assumption) (Step.out ?_))
      | (refine CallOK.of_ct (Step.out ?_))
      | (refine CallQ.of_ct (Step.out ?_))
      | (refine Vc.mk ?_ (Step.out ?_))
    · refine CodeOK.loopW hΓ hm ord40 [] (by kernel_rfl) (α := Nat) (fun j => [(0, .str a), (1, .str b), (5, .own 0), (6, i64 i), (7, i64 j)]) (fun j => [(0, .hot 22 (a.length + 1) (fun q => [rowD a b q]) i (.own 1)), (1, .arr 3 1 (b.length + 1) fun q => [i64 (if q < j then (tbl a b i q : Int) else 0)])]) 2 (fun j => j ≤ b.length + 1) (fun j => b.length + 1 - j) ?_ ?_
      · refine Again.by 0 (Nat.zero_le _) ?_
        repeat' first
          | (refine Step.mk ?_; conv => whnf)
          | (refine Vc.om ?_ ?_; first | omega | with_reducible rfl | with_reducible exact same_rfl | (simp only [bytes_2, bytes_3, bytes_4, bytes_5, bytes_9, bytes_12, bytes_21, bytes_22, bytes_25, bytes_29, bytes_31, bytes_40, bytes_41, bytes_43, bytes_45, bytes_46, bytes_47, bytes_48, bytes_49, bytes_52, bytes_53, bytes_60, bytes_63, bytes_67, bytes_75, bytes_79, true_and, and_true] <;> omega))
          | (refine NilB.mk fun b hb => Step.out ?_)
          | with_reducible trivial
          | exact noSh_bool _
          | exact noSh_lit _
          | exact noSh_int _ _
          | exact noSh_str _
          | with_reducible rfl
          | with_reducible exact same_rfl
          | (refine Wr.i64 ?_ ?_; omega)
          | (refine Wr.u8 ?_ ?_; omega)
          | (refine Wr.i32 ?_ ?_; omega)
          | (with_reducible refine Br.tt ?_)
          | (with_reducible refine Br.ff ?_)
          | (refine Br.dT ?_ ?_; omega)
          | (refine Br.dF ?_ ?_; omega)
          | (refine Br.d (fun h => ?_) (fun h => ?_))
          | (refine Br.swap ?_)
          | (refine Br.bnot ?_)
          | (refine Br.mk (fun h => Step.out ?_) (fun h => Step.out ?_))
          | (refine Two.mk (Step.out ?_) (Step.out ?_))
          | (refine Cp.mk fun q hq => Step.out ?_)
          | (refine Ovl.mk (by assumption) (Step.out ?_))
          | (refine CallOK.of_ct (Step.out ?_))
          | (refine CallQ.of_ct (Step.out ?_))
          | (refine Vc.mk ?_ (Step.out ?_))
        · exact ⟨rfl, by omega, fun j _ _ => rfl⟩
        · exact ⟨by omega, fun q _ => rfl⟩
      · intro j hj
        have h1 := tbl_le a b ((i : Int) - 1).toNat ((j : Int) - 1).toNat
        have h2 := tbl_le a b ((i : Int) - 1).toNat (j : Int).toNat
        have h3 := tbl_le a b i ((j : Int) - 1).toNat
        have h4 := tbl_le a b ((i : Int) - 2).toNat ((j : Int) - 2).toNat
        repeat' first
          | (refine Step.mk ?_; conv => whnf)
          | (refine Vc.om ?_ ?_; first | omega | with_reducible rfl | with_reducible exact same_rfl | (simp only [bytes_2, bytes_3, bytes_4, bytes_5, bytes_9, bytes_12, bytes_21, bytes_22, bytes_25, bytes_29, bytes_31, bytes_40, bytes_41, bytes_43, bytes_45, bytes_46, bytes_47, bytes_48, bytes_49, bytes_52, bytes_53, bytes_60, bytes_63, bytes_67, bytes_75, bytes_79, true_and, and_true] <;> omega))
          | (refine NilB.mk fun b hb => Step.out ?_)
          | with_reducible trivial
          | exact noSh_bool _
          | exact noSh_lit _
          | exact noSh_int _ _
          | exact noSh_str _
          | with_reducible rfl
          | with_reducible exact same_rfl
          | (refine Wr.i64 ?_ ?_; omega)
          | (refine Wr.u8 ?_ ?_; omega)
          | (refine Wr.i32 ?_ ?_; omega)
          | (with_reducible refine Br.tt ?_)
          | (with_reducible refine Br.ff ?_)
          | (refine Br.dT ?_ ?_; omega)
          | (refine Br.dF ?_ ?_; omega)
          | (refine Br.d (fun h => ?_) (fun h => ?_))
          | (refine Br.swap ?_)
          | (refine Br.bnot ?_)
          | (refine Br.mk (fun h => Step.out ?_) (fun h => Step.out ?_))
          | (refine Two.mk (Step.out ?_) (Step.out ?_))
          | (refine Cp.mk fun q hq => Step.out ?_)
          | (refine Ovl.mk (by assumption) (Step.out ?_))
          | (refine CallOK.of_ct (Step.out ?_))
          | (refine CallQ.of_ct (Step.out ?_))
          | (refine Vc.mk ?_ (Step.out ?_))
        all_goals try
          refine Again.by (j + 1) ⟨by omega, by omega⟩ ?_
          repeat' first
            | (refine Step.mk ?_; conv => whnf)
            | (refine Vc.om ?_ ?_; first | omega | with_reducible rfl | with_reducible exact same_rfl | (simp only [bytes_2, bytes_3, bytes_4, bytes_5, bytes_9, bytes_12, bytes_21, bytes_22, bytes_25, bytes_29, bytes_31, bytes_40, bytes_41, bytes_43, bytes_45, bytes_46, bytes_47, bytes_48, bytes_49, bytes_52, bytes_53, bytes_60, bytes_63, bytes_67, bytes_75, bytes_79, true_and, and_true] <;> omega))
            | (refine NilB.mk fun b hb => Step.out ?_)
            | with_reducible trivial
            | exact noSh_bool _
            | exact noSh_lit _
            | exact noSh_int _ _
            | exact noSh_str _
            | with_reducible rfl
            | with_reducible exact same_rfl
            | (refine Wr.i64 ?_ ?_; omega)
            | (refine Wr.u8 ?_ ?_; omega)
            | (refine Wr.i32 ?_ ?_; omega)
            | (with_reducible refine Br.tt ?_)
            | (with_reducible refine Br.ff ?_)
            | (refine Br.dT ?_ ?_; omega)
            | (refine Br.dF ?_ ?_; omega)
            | (refine Br.d (fun h => ?_) (fun h => ?_))
            | (refine Br.swap ?_)
            | (refine Br.bnot ?_)
            | (refine Br.mk (fun h => Step.out ?_) (fun h => Step.out ?_))
            | (refine Two.mk (Step.out ?_) (Step.out ?_))
            | (refine Cp.mk fun q hq => Step.out ?_)
            | (refine Ovl.mk (by assumption) (Step.out ?_))
            | (refine CallOK.of_ct (Step.out ?_))
            | (refine CallQ.of_ct (Step.out ?_))
            | (refine Vc.mk ?_ (Step.out ?_))
          · exact ⟨rfl, by omega, fun _ _ _ => rfl⟩
          · refine row_step a b i j _ _ ?_
            simp only [sub1, sub2, Int.toNat_natCast, toN_eq, lt1] at *
            first
              | (have := tbl_0 a b i j (by omega) (by omega) (by omega); omega)
              | (have := tbl_step a b i j (by omega) (by omega)
                 rw [if_pos (by omega)]
                 clear h1 h2 h3 h4
                 simp only [swapB, costN, Bool.and_eq_true, decide_eq_true_eq] at this
                 repeat' split at this
                 all_goals first
                   | omega
                   | (exfalso; clear this; simp_all; done))
        · refine Again.by (i + 1) ⟨by omega, by omega⟩ ?_
          repeat' first
            | (refine Step.mk ?_; conv => whnf)
            | (refine Vc.om ?_ ?_; first | omega | with_reducible rfl | with_reducible exact same_rfl | (simp only [bytes_2, bytes_3, bytes_4, bytes_5, bytes_9, bytes_12, bytes_21, bytes_22, bytes_25, bytes_29, bytes_31, bytes_40, bytes_41, bytes_43, bytes_45, bytes_46, bytes_47, bytes_48, bytes_49, bytes_52, bytes_53, bytes_60, bytes_63, bytes_67, bytes_75, bytes_79, true_and, and_true] <;> omega))
            | (refine NilB.mk fun b hb => Step.out ?_)
            | with_reducible trivial
            | exact noSh_bool _
            | exact noSh_lit _
            | exact noSh_int _ _
            | exact noSh_str _
            | with_reducible rfl
            | with_reducible exact same_rfl
            | (refine Wr.i64 ?_ ?_; omega)
            | (refine Wr.u8 ?_ ?_; omega)
            | (refine Wr.i32 ?_ ?_; omega)
            | (with_reducible refine Br.tt ?_)
            | (with_reducible refine Br.ff ?_)
            | (refine Br.dT ?_ ?_; omega)
            | (refine Br.dF ?_ ?_; omega)
            | (refine Br.d (fun h => ?_) (fun h => ?_))
            | (refine Br.swap ?_)
            | (refine Br.bnot ?_)
            | (refine Br.mk (fun h => Step.out ?_) (fun h => Step.out ?_))
            | (refine Two.mk (Step.out ?_) (Step.out ?_))
            | (refine Cp.mk fun q hq => Step.out ?_)
            | (refine Ovl.mk (by assumption) (Step.out ?_))
            | (refine CallOK.of_ct (Step.out ?_))
            | (refine CallQ.of_ct (Step.out ?_))
            | (refine Vc.mk ?_ (Step.out ?_))
          · exact ⟨rfl, rfl, by omega, fun _ _ _ => rfl⟩
          · exact ⟨rfl, fun q hq => by show [i64 (if q < j then _ else _)] = _; rw [if_pos (by omega)]⟩
    · refine CodeOK.cutW hΓ hm ord40 [] (by kernel_rfl) (α := Unit) (fun z => [(4, .own 0)]) (fun z => [(0, .arr 22 1 (a.length + 1) fun q => [rowD a b q])]) 1 (fun z => True) ?_ ?_
      · repeat' first
          | (refine Step.mk ?_; conv => whnf)
          | (refine Vc.om ?_ ?_; first | omega | with_reducible rfl | with_reducible exact same_rfl | (simp only [bytes_2, bytes_3, bytes_4, bytes_5, bytes_9, bytes_12, bytes_21, bytes_22, bytes_25, bytes_29, bytes_31, bytes_40, bytes_41, bytes_43, bytes_45, bytes_46, bytes_47, bytes_48, bytes_49, bytes_52, bytes_53, bytes_60, bytes_63, bytes_67, bytes_75, bytes_79, true_and, and_true] <;> omega))
          | (refine NilB.mk fun b hb => Step.out ?_)
          | with_reducible trivial
          | exact noSh_bool _
          | exact noSh_lit _
          | exact noSh_int _ _
          | exact noSh_str _
          | with_reducible rfl
          | with_reducible exact same_rfl
          | (refine Wr.i64 ?_ ?_; omega)
          | (refine Wr.u8 ?_ ?_; omega)
          | (refine Wr.i32 ?_ ?_; omega)
          | (with_reducible refine Br.tt ?_)
          | (with_reducible refine Br.ff ?_)
          | (refine Br.dT ?_ ?_; omega)
          | (refine Br.dF ?_ ?_; omega)
          | (refine Br.d (fun h => ?_) (fun h => ?_))
          | (refine Br.swap ?_)
          | (refine Br.bnot ?_)
          | (refine Br.mk (fun h => Step.out ?_) (fun h => Step.out ?_))
          | (refine Two.mk (Step.out ?_) (Step.out ?_))
          | (refine Cp.mk fun q hq => Step.out ?_)
          | (refine Ovl.mk (by assumption) (Step.out ?_))
          | (refine CallOK.of_ct (Step.out ?_))
          | (refine CallQ.of_ct (Step.out ?_))
          | (refine Vc.mk ?_ (Step.out ?_))
        refine Again.by () trivial ?_
        repeat' first
          | (refine Step.mk ?_; conv => whnf)
          | (refine Vc.om ?_ ?_; first | omega | with_reducible rfl | with_reducible exact same_rfl | (simp only [bytes_2, bytes_3, bytes_4, bytes_5, bytes_9, bytes_12, bytes_21, bytes_22, bytes_25, bytes_29, bytes_31, bytes_40, bytes_41, bytes_43, bytes_45, bytes_46, bytes_47, bytes_48, bytes_49, bytes_52, bytes_53, bytes_60, bytes_63, bytes_67, bytes_75, bytes_79, true_and, and_true] <;> omega))
          | (refine NilB.mk fun b hb => Step.out ?_)
          | with_reducible trivial
          | exact noSh_bool _
          | exact noSh_lit _
          | exact noSh_int _ _
          | exact noSh_str _
          | with_reducible rfl
          | with_reducible exact same_rfl
          | (refine Wr.i64 ?_ ?_; omega)
          | (refine Wr.u8 ?_ ?_; omega)
          | (refine Wr.i32 ?_ ?_; omega)
          | (with_reducible refine Br.tt ?_)
          | (with_reducible refine Br.ff ?_)
          | (refine Br.dT ?_ ?_; omega)
          | (refine Br.dF ?_ ?_; omega)
          | (refine Br.d (fun h => ?_) (fun h => ?_))
          | (refine Br.swap ?_)
          | (refine Br.bnot ?_)
          | (refine Br.mk (fun h => Step.out ?_) (fun h => Step.out ?_))
          | (refine Two.mk (Step.out ?_) (Step.out ?_))
          | (refine Cp.mk fun q hq => Step.out ?_)
          | (refine Ovl.mk (by assumption) (Step.out ?_))
          | (refine CallOK.of_ct (Step.out ?_))
          | (refine CallQ.of_ct (Step.out ?_))
          | (refine Vc.mk ?_ (Step.out ?_))
        exact ⟨rfl, by omega, fun _ _ => rfl⟩
      · intro _ _
        repeat' first
          | (refine Step.mk ?_; conv => whnf)
          | (refine Vc.om ?_ ?_; first | omega | with_reducible rfl | with_reducible exact same_rfl | (simp only [bytes_2, bytes_3, bytes_4, bytes_5, bytes_9, bytes_12, bytes_21, bytes_22, bytes_25, bytes_29, bytes_31, bytes_40, bytes_41, bytes_43, bytes_45, bytes_46, bytes_47, bytes_48, bytes_49, bytes_52, bytes_53, bytes_60, bytes_63, bytes_67, bytes_75, bytes_79, true_and, and_true] <;> omega))
          | (refine NilB.mk fun b hb => Step.out ?_)
          | with_reducible trivial
          | exact noSh_bool _
          | exact noSh_lit _
          | exact noSh_int _ _
          | exact noSh_str _
          | with_reducible rfl
          | with_reducible exact same_rfl
          | (refine Wr.i64 ?_ ?_; omega)
          | (refine Wr.u8 ?_ ?_; omega)
          | (refine Wr.i32 ?_ ?_; omega)
          | (with_reducible refine Br.tt ?_)
          | (with_reducible refine Br.ff ?_)
          | (refine Br.dT ?_ ?_; omega)
          | (refine Br.dF ?_ ?_; omega)
          | (refine Br.d (fun h => ?_) (fun h => ?_))
          | (refine Br.swap ?_)
          | (refine Br.bnot ?_)
          | (refine Br.mk (fun h => Step.out ?_) (fun h => Step.out ?_))
          | (refine Two.mk (Step.out ?_) (Step.out ?_))
          | (refine Cp.mk fun q hq => Step.out ?_)
          | (refine Ovl.mk (by assumption) (Step.out ?_))
          | (refine CallOK.of_ct (Step.out ?_))
          | (refine CallQ.of_ct (Step.out ?_))
          | (refine Vc.mk ?_ (Step.out ?_))
end Kx
