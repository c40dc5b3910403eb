/-
  The distance.
  No condition beyond those written in each theorem.
-/
import Derived.Test.YtkmdpliokmfboaaKVb
open Go Sx Go.Proofs
set_option linter.unusedSimpArgs false
set_option linter.unusedVariables false
namespace Kx
def errL (a b : Str) : Int := if 64 < a.length ∨ 64 < b.length then 1 else 0
def dist (a b : Str) : Nat := ds a.reverse b.reverse
theorem tbl_all (a b : Str) : tbl a b a.length b.length = dist a b := by unfold tbl dist; rw [List.take_of_length_le (Nat.le_refl _), List.take_of_length_le (Nat.le_refl _)]
def ed (a b : Str) : Int := if 64 < a.length ∨ 64 < b.length then 0 else dist a b
theorem redit_ct (a b : Str) (ha : a.length ≤ 1000000000) (hb : b.length ≤ 1000000000) : Ct Try.prog 19 [.str a, .str b] fun r outs => r = .tup [i64 (ed a b), i64 (errL a b)] ∧ outs = [] := by
  refine .det (.of_W (fn := Try.f19) hΓ hm Try.func19 [] [] (by kernel_rfl) (Step.out ?_))
  repeat' first
    | (refine Step.mk ?_; conv => whnf)
    | (refine Vc.om ?_ ?_; first | omega | with_reducible rfl | with_reducible exact same_rfl | (simp only [bytes_2, bytes_3, bytes_4, bytes_5, bytes_9, bytes_12, bytes_21, bytes_22, bytes_25, bytes_29, bytes_31, bytes_40, bytes_41, bytes_43, bytes_45, bytes_46, bytes_47, bytes_48, bytes_49, bytes_52, bytes_53, bytes_60, bytes_63, bytes_67, bytes_75, bytes_79, true_and, and_true] <;> omega))
    | (refine NilB.mk fun b hb => Step.out ?_)
    | with_reducible trivial
    | exact noSh_bool _
    | exact noSh_lit _
    | exact noSh_int _ _
    | exact noSh_str _
    | with_reducible rfl
    | with_reducible exact same_rfl
    | (refine Wr.i64 ?_ ?_; omega)
    | (refine Wr.u8 ?_ ?_; omega)
    | (refine Wr.i32 ?_ ?_; omega)
    | (with_reducible refine Br.tt ?_)
    | (with_reducible refine Br.ff ?_)
    | (refine Br.dT ?_ ?_; omega)
    | (refine Br.dF ?_ ?_; omega)
    | (refine Br.d (fun h => ?_) (fun h => ?_))
    | (refine Br.swap ?_)
    | (refine Br.bnot ?_)
    | (refine Br.mk (fun h => Step.out ?_) (fun h => Step.out ?_))
    | (refine Two.mk (Step.out ?_) (Step.out ?_))
    | (refine Cp.mk fun q hq => Step.out ?_)
    | (refine Ovl.mk (by assumption) (Step.out ?_))
    | (refine CallOK.of_ct (Step.out ?_))
    | (refine CallQ.of_ct (Step.out ?_))
    | (refine Met.by (g := 40) (rtable_ct _ _ (by omega) (by omega)) ?_; rintro q outs ⟨rfl, rfl⟩)
    | (refine Vc.mk ?_ (Step.out ?_))
  · rw [ed, if_pos (by omega)]
  · rw [errL, if_pos (by omega)]
  · rw [ed, if_pos (by omega)]
  · rw [errL, if_pos (by omega)]
  · rw [ed, if_neg (by omega)]; exact congrArg _ (tbl_all a b)
  · rw [errL, if_neg (by omega)]
abbrev Row := Nat → Int
def rowV (f : Row) : Box := .vec 65 fun q => i64 (f q)
theorem vset {f f' : Row} {off : Nat} {v : Int} (h : ∀ q, f' q = if q = off then v else f q) : ∀ i, i < 65 → D.ite (i = off) (i64 v) (i64 (f i)) = i64 (f' i) ∧ (i64 (f' i)).immB = true := fun i _ => ⟨by rw [h]; rfl, rfl⟩
theorem vset2 {f f' : Row} {off : Nat} {u v : Int} (h : ∀ q, f' q = if q = off then v else f q) : ∀ i, i < 65 → D.ite (i = off) (i64 v) (D.ite (i = off) (i64 u) (i64 (f i))) = i64 (f' i) ∧ (i64 (f' i)).immB = true := fun i _ => ⟨by
  rw [h]
  show i64 (if i = off then v else if i = off then u else f i) = _
  by_cases e : i = off
  · rw [if_pos e, if_pos e]
  · rw [if_neg e, if_neg e, if_neg e], rfl⟩
set_option maxHeartbeats 4000000 in
theorem edit_ct (a b : Str) (ha : a.length ≤ 1000000000) (hb : b.length ≤ 1000000000) : Ct Try.prog 15 [.str a, .str b] fun r outs => r = .tup [i64 (ed a b), i64 (errL a b)] ∧ outs = [] := by
  refine .det (.of_W (fn := Try.f15) hΓ hm Try.func15 ord15 [] (by kernel_rfl) (Step.out ?_))
  repeat' first
    | (refine Step.mk ?_; conv => whnf)
    | (refine Vc.om ?_ ?_; first | omega | with_reducible rfl | with_reducible exact same_rfl | (simp only [bytes_2, bytes_3, bytes_4, bytes_5, bytes_9, bytes_12, bytes_21, bytes_22, bytes_25, bytes_29, bytes_31, bytes_40, bytes_41, bytes_43, bytes_45, bytes_46, bytes_47, bytes_48, bytes_49, bytes_52, bytes_53, bytes_60, bytes_63, bytes_67, bytes_75, bytes_79, true_and, and_true] <;> omega))
    | (refine NilB.mk fun b hb => Step.out ?_)
    | with_reducible trivial
    | exact noSh_bool _
    | exact noSh_lit _
    | exact noSh_int _ _
    | exact noSh_str _
    | with_reducible rfl
    | with_reducible exact same_rfl
    | (refine Wr.i64 ?_ ?_; omega)
    | (refine Wr.u8 ?_ ?_; omega)
    | (refine Wr.i32 ?_ ?_; omega)
    | (with_reducible refine Br.tt ?_)
    | (with_reducible refine Br.ff ?_)
    | (refine Br.dT ?_ ?_; omega)
    | (refine Br.dF ?_ ?_; omega)
    | (refine Br.d (fun h => ?_) (fun h => ?_))
    | (refine Br.swap ?_)
    | (refine Br.bnot ?_)
    | (refine Br.mk (fun h => Step.out ?_) (fun h => Step.out ?_))
    | (refine Two.mk (Step.out ?_) (Step.out ?_))
    | (refine Cp.mk fun q hq => Step.out ?_)
    | (refine Ovl.mk (by assumption) (Step.out ?_))
    | (refine CallOK.of_ct (Step.out ?_))
    | (refine CallQ.of_ct (Step.out ?_))
    | (refine Met.by (g := 35) (check_ct _ _ (by omega) (by omega)) ?_; rintro q outs ⟨rfl, rfl⟩)
    | (refine Met.by (g := 36) (cost_ct _ _ _ _ (by omega) (by omega) (by omega) (by omega)) ?_; rintro q outs ⟨rfl, rfl⟩)
    | (refine Met.by (g := 37) (swaps_ct _ _ _ _ (by omega) (by omega) (by omega) (by omega)) ?_; rintro q outs ⟨rfl, rfl⟩)
    | (refine Vc.mk ?_ (Step.out ?_))
  · have hl : a.length ≤ 64 ∧ b.length ≤ 64 := by split at h <;> omega
    clear h
    refine CodeOK.loopW hΓ hm ord15 [] (by kernel_rfl) (α := Nat) (fun j => [(0, .str a), (1, .str b), (7, .loc 0 0), (8, .loc 1 0), (9, .loc 2 0), (21, i64 ((b.length : Int) + 1)), (22, i64 j)]) (fun j => [(0, rowV fun _ => 0), (1, rowV fun _ => 0), (2, rowV fun q => if q < j then (q : Int) else 0)]) 3 (fun j => j ≤ b.length + 1) (fun j => b.length + 1 - j) ?_ ?_
    · refine Again.by 0 (Nat.zero_le _) ?_
      repeat' first
        | (refine Step.mk ?_; conv => whnf)
        | (refine Vc.om ?_ ?_; first | omega | with_reducible rfl | with_reducible exact same_rfl | (simp only [bytes_2, bytes_3, bytes_4, bytes_5, bytes_9, bytes_12, bytes_21, bytes_22, bytes_25, bytes_29, bytes_31, bytes_40, bytes_41, bytes_43, bytes_45, bytes_46, bytes_47, bytes_48, bytes_49, bytes_52, bytes_53, bytes_60, bytes_63, bytes_67, bytes_75, bytes_79, true_and, and_true] <;> omega))
        | (refine NilB.mk fun b hb => Step.out ?_)
        | with_reducible trivial
        | exact noSh_bool _
        | exact noSh_lit _
        | exact noSh_int _ _
        | exact noSh_str _
        | with_reducible rfl
        | with_reducible exact same_rfl
        | (refine Wr.i64 ?_ ?_; omega)
        | (refine Wr.u8 ?_ ?_; omega)
        | (refine Wr.i32 ?_ ?_; omega)
        | (with_reducible refine Br.tt ?_)
        | (with_reducible refine Br.ff ?_)
        | (refine Br.dT ?_ ?_; omega)
        | (refine Br.dF ?_ ?_; omega)
        | (refine Br.d (fun h => ?_) (fun h => ?_))
        | (refine Br.swap ?_)
        | (refine Br.bnot ?_)
        | (refine Br.mk (fun h => Step.out ?_) (fun h => Step.out ?_))
        | (refine Two.mk (Step.out ?_) (Step.out ?_))
        | (refine Cp.mk fun q hq => Step.out ?_)
        | (refine Ovl.mk (by assumption) (Step.out ?_))
        | (refine CallOK.of_ct (Step.out ?_))
        | (refine CallQ.of_ct (Step.out ?_))
        | (refine Met.by (g := 35) (check_ct _ _ (by omega) (by omega)) ?_; rintro q outs ⟨rfl, rfl⟩)
        | (refine Met.by (g := 36) (cost_ct _ _ _ _ (by omega) (by omega) (by omega) (by omega)) ?_; rintro q outs ⟨rfl, rfl⟩)
        | (refine Met.by (g := 37) (swaps_ct _ _ _ _ (by omega) (by omega) (by omega) (by omega)) ?_; rintro q outs ⟨rfl, rfl⟩)
        | (refine Vc.mk ?_ (Step.out ?_))
      all_goals exact fun i _ => ⟨rfl, rfl⟩
    · intro j hj
      repeat' first
        | (refine Step.mk ?_; conv => whnf)
        | (refine Vc.om ?_ ?_; first | omega | with_reducible rfl | with_reducible exact same_rfl | (simp only [bytes_2, bytes_3, bytes_4, bytes_5, bytes_9, bytes_12, bytes_21, bytes_22, bytes_25, bytes_29, bytes_31, bytes_40, bytes_41, bytes_43, bytes_45, bytes_46, bytes_47, bytes_48, bytes_49, bytes_52, bytes_53, bytes_60, bytes_63, bytes_67, bytes_75, bytes_79, true_and, and_true] <;> omega))
        | (refine NilB.mk fun b hb => Step.out ?_)
        | with_reducible trivial
        | exact noSh_bool _
        | exact noSh_lit _
        | exact noSh_int _ _
        | exact noSh_str _
        | with_reducible rfl
        | with_reducible exact same_rfl
        | (refine Wr.i64 ?_ ?_; omega)
        | (refine Wr.u8 ?_ ?_; omega)
        | (refine Wr.i32 ?_ ?_; omega)
        | (with_reducible refine Br.tt ?_)
        | (with_reducible refine Br.ff ?_)
        | (refine Br.dT ?_ ?_; omega)
        | (refine Br.dF ?_ ?_; omega)
        | (refine Vc.om ?_ ?_; focus ((show _ + _ * 1 < _; omega); done))
        | (refine Wr.i64 ?_ ?_; focus ((show _ + _ * 1 < _; omega); done))
        | (refine Wr.u8 ?_ ?_; focus ((show _ + _ * 1 < _; omega); done))
        | (refine Br.dT ?_ ?_; focus ((show _ + _ * 1 < _; omega); done))
        | (refine Br.dF ?_ ?_; focus ((show _ + _ * 1 < _; omega); done))
        | (refine Br.d (fun h => ?_) (fun h => ?_))
        | (refine Br.swap ?_)
        | (refine Br.bnot ?_)
        | (refine Br.mk (fun h => Step.out ?_) (fun h => Step.out ?_))
        | (refine Two.mk (Step.out ?_) (Step.out ?_))
        | (refine Cp.mk fun q hq => Step.out ?_)
        | (refine Ovl.mk (by assumption) (Step.out ?_))
        | (refine CallOK.of_ct (Step.out ?_))
        | (refine CallQ.of_ct (Step.out ?_))
        | (refine Met.by (g := 35) (check_ct _ _ (by omega) (by omega)) ?_; rintro q outs ⟨rfl, rfl⟩)
        | (refine Met.by (g := 36) (cost_ct _ _ _ _ (by omega) (by omega) (by omega) (by omega)) ?_; rintro q outs ⟨rfl, rfl⟩)
        | (refine Met.by (g := 37) (swaps_ct _ _ _ _ (by omega) (by omega) (by omega) (by omega)) ?_; rintro q outs ⟨rfl, rfl⟩)
        | (refine Vc.mk ?_ (Step.out ?_))
      · refine Again.by (j + 1) ⟨by omega, by omega⟩ ?_
        repeat' first
          | (refine Step.mk ?_; conv => whnf)
          | (refine Vc.om ?_ ?_; first | omega | with_reducible rfl | with_reducible exact same_rfl | (simp only [bytes_2, bytes_3, bytes_4, bytes_5, bytes_9, bytes_12, bytes_21, bytes_22, bytes_25, bytes_29, bytes_31, bytes_40, bytes_41, bytes_43, bytes_45, bytes_46, bytes_47, bytes_48, bytes_49, bytes_52, bytes_53, bytes_60, bytes_63, bytes_67, bytes_75, bytes_79, true_and, and_true] <;> omega))
          | (refine NilB.mk fun b hb => Step.out ?_)
          | with_reducible trivial
          | exact noSh_bool _
          | exact noSh_lit _
          | exact noSh_int _ _
          | exact noSh_str _
          | with_reducible rfl
          | with_reducible exact same_rfl
          | (refine Wr.i64 ?_ ?_; omega)
          | (refine Wr.u8 ?_ ?_; omega)
          | (refine Wr.i32 ?_ ?_; omega)
          | (with_reducible refine Br.tt ?_)
          | (with_reducible refine Br.ff ?_)
          | (refine Br.dT ?_ ?_; omega)
          | (refine Br.dF ?_ ?_; omega)
          | (refine Br.d (fun h => ?_) (fun h => ?_))
          | (refine Br.swap ?_)
          | (refine Br.bnot ?_)
          | (refine Br.mk (fun h => Step.out ?_) (fun h => Step.out ?_))
          | (refine Two.mk (Step.out ?_) (Step.out ?_))
          | (refine Cp.mk fun q hq => Step.out ?_)
          | (refine Ovl.mk (by assumption) (Step.out ?_))
          | (refine CallOK.of_ct (Step.out ?_))
          | (refine CallQ.of_ct (Step.out ?_))
          | (refine Met.by (g := 35) (check_ct _ _ (by omega) (by omega)) ?_; rintro q outs ⟨rfl, rfl⟩)
          | (refine Met.by (g := 36) (cost_ct _ _ _ _ (by omega) (by omega) (by omega) (by omega)) ?_; rintro q outs ⟨rfl, rfl⟩)
          | (refine Met.by (g := 37) (swaps_ct _ _ _ _ (by omega) (by omega) (by omega) (by omega)) ?_; rintro q outs ⟨rfl, rfl⟩)
          | (refine Vc.mk ?_ (Step.out ?_))
        · exact fun i _ => ⟨rfl, rfl⟩
        · exact fun i _ => ⟨rfl, rfl⟩
        · refine vset (f := fun q => if q < j then (q : Int) else 0) (fun q => ?_)
          show (if q < j + 1 then (q : Int) else 0) = if q = 0 + j * 1 then (j : Int) else if q < j then (q : Int) else 0
          (repeat' split) <;> omega
      · refine CodeOK.loopW hΓ hm ord15 [13] (by kernel_rfl) (α := Nat × Row × Row × Row) (fun z => [(0, .str a), (1, .str b), (7, .loc 0 0), (8, .loc 1 0), (9, .loc 2 0), (11, i64 z.1)]) (fun z => [(0, rowV z.2.1), (1, rowV z.2.2.1), (2, rowV z.2.2.2)]) 3 (fun z => (1 ≤ z.1 ∧ z.1 ≤ a.length + 1) ∧ (∀ q, q ≤ b.length → z.2.2.2 q = tbl a b (z.1 - 1) q) ∧ (2 ≤ z.1 → ∀ q, q ≤ b.length → z.2.2.1 q = tbl a b (z.1 - 2) q)) (fun z => a.length + 1 - z.1) ?_ ?_
        · refine Again.by (1, (fun _ => 0), (fun _ => 0), fun q => if q < j then (q : Int) else 0) ⟨⟨Nat.le_refl _, by dsimp only; omega⟩, fun q hq => ?_, fun h => by dsimp only at h; omega⟩ ?_
          · dsimp only
            rw [if_pos (by omega), tbl_0 a b _ q (by omega) hq (.inl rfl)]; simp
          · dsimp only
            repeat' first
              | (refine Step.mk ?_; conv => whnf)
              | (refine Vc.om ?_ ?_; first | omega | with_reducible rfl | with_reducible exact same_rfl | (simp only [bytes_2, bytes_3, bytes_4, bytes_5, bytes_9, bytes_12, bytes_21, bytes_22, bytes_25, bytes_29, bytes_31, bytes_40, bytes_41, bytes_43, bytes_45, bytes_46, bytes_47, bytes_48, bytes_49, bytes_52, bytes_53, bytes_60, bytes_63, bytes_67, bytes_75, bytes_79, true_and, and_true] <;> omega))
              | (refine NilB.mk fun b hb => Step.out ?_)
              | with_reducible trivial
              | exact noSh_bool _
              | exact noSh_lit _
              | exact noSh_int _ _
              | exact noSh_str _
              | with_reducible rfl
              | with_reducible exact same_rfl
              | (refine Wr.i64 ?_ ?_; omega)
              | (refine Wr.u8 ?_ ?_; omega)
              | (refine Wr.i32 ?_ ?_; omega)
              | (with_reducible refine Br.tt ?_)
              | (with_reducible refine Br.ff ?_)
              | (refine Br.dT ?_ ?_; omega)
              | (refine Br.dF ?_ ?_; omega)
              | (refine Br.d (fun h => ?_) (fun h => ?_))
              | (refine Br.swap ?_)
              | (refine Br.bnot ?_)
              | (refine Br.mk (fun h => Step.out ?_) (fun h => Step.out ?_))
              | (refine Two.mk (Step.out ?_) (Step.out ?_))
              | (refine Cp.mk fun q hq => Step.out ?_)
              | (refine Ovl.mk (by assumption) (Step.out ?_))
              | (refine CallOK.of_ct (Step.out ?_))
              | (refine CallQ.of_ct (Step.out ?_))
              | (refine Met.by (g := 35) (check_ct _ _ (by omega) (by omega)) ?_; rintro q outs ⟨rfl, rfl⟩)
              | (refine Met.by (g := 36) (cost_ct _ _ _ _ (by omega) (by omega) (by omega) (by omega)) ?_; rintro q outs ⟨rfl, rfl⟩)
              | (refine Met.by (g := 37) (swaps_ct _ _ _ _ (by omega) (by omega) (by omega) (by omega)) ?_; rintro q outs ⟨rfl, rfl⟩)
              | (refine Vc.mk ?_ (Step.out ?_))
            all_goals exact fun i _ => ⟨rfl, rfl⟩
        · intro ⟨i, F, B, R⟩ ⟨hi, hR, hB⟩
          dsimp only at hi hR hB ⊢
          repeat' first
            | (refine Step.mk ?_; conv => whnf)
            | (refine Vc.om ?_ ?_; first | omega | with_reducible rfl | with_reducible exact same_rfl | (simp only [bytes_2, bytes_3, bytes_4, bytes_5, bytes_9, bytes_12, bytes_21, bytes_22, bytes_25, bytes_29, bytes_31, bytes_40, bytes_41, bytes_43, bytes_45, bytes_46, bytes_47, bytes_48, bytes_49, bytes_52, bytes_53, bytes_60, bytes_63, bytes_67, bytes_75, bytes_79, true_and, and_true] <;> omega))
            | (refine NilB.mk fun b hb => Step.out ?_)
            | with_reducible trivial
            | exact noSh_bool _
            | exact noSh_lit _
            | exact noSh_int _ _
            | exact noSh_str _
            | with_reducible rfl
            | with_reducible exact same_rfl
            | (refine Wr.i64 ?_ ?_; omega)
            | (refine Wr.u8 ?_ ?_; omega)
            | (refine Wr.i32 ?_ ?_; omega)
            | (with_reducible refine Br.tt ?_)
            | (with_reducible refine Br.ff ?_)
            | (refine Br.dT ?_ ?_; omega)
            | (refine Br.dF ?_ ?_; omega)
            | (refine Vc.om ?_ ?_; focus ((show _ + _ * 1 < _; omega); done))
            | (refine Wr.i64 ?_ ?_; focus ((show _ + _ * 1 < _; omega); done))
            | (refine Wr.u8 ?_ ?_; focus ((show _ + _ * 1 < _; omega); done))
            | (refine Br.dT ?_ ?_; focus ((show _ + _ * 1 < _; omega); done))
            | (refine Br.dF ?_ ?_; focus ((show _ + _ * 1 < _; omega); done))
            | (refine Br.d (fun h => ?_) (fun h => ?_))
            | (refine Br.swap ?_)
            | (refine Br.bnot ?_)
            | (refine Br.mk (fun h => Step.out ?_) (fun h => Step.out ?_))
            | (refine Two.mk (Step.out ?_) (Step.out ?_))
            | (refine Cp.mk fun q hq => Step.out ?_)
            | (refine Ovl.mk (by assumption) (Step.out ?_))
            | (refine CallOK.of_ct (Step.out ?_))
            | (refine CallQ.of_ct (Step.out ?_))
            | (refine Met.by (g := 35) (check_ct _ _ (by omega) (by omega)) ?_; rintro q outs ⟨rfl, rfl⟩)
            | (refine Met.by (g := 36) (cost_ct _ _ _ _ (by omega) (by omega) (by omega) (by omega)) ?_; rintro q outs ⟨rfl, rfl⟩)
            | (refine Met.by (g := 37) (swaps_ct _ _ _ _ (by omega) (by omega) (by omega) (by omega)) ?_; rintro q outs ⟨rfl, rfl⟩)
            | (refine Vc.mk ?_ (Step.out ?_))
          · refine CodeOK.cutW hΓ hm ord15 [13] (by kernel_rfl) (α := Row × Row × Row) (fun z => [(0, .str a), (1, .str b), (7, .loc 0 0), (8, .loc 1 0), (9, .loc 2 0), (11, i64 i)]) (fun z => [(0, rowV z.1), (1, rowV z.2.1), (2, rowV z.2.2)]) 3 (fun z => (∀ q, q ≤ b.length → z.2.2 q = tbl a b i q) ∧ (∀ q, q ≤ b.length → z.2.1 q = tbl a b (i - 1) q)) ?_ ?_
            · repeat' first
                | (refine Step.mk ?_; conv => whnf)
                | (refine Vc.om ?_ ?_; first | omega | with_reducible rfl | with_reducible exact same_rfl | (simp only [bytes_2, bytes_3, bytes_4, bytes_5, bytes_9, bytes_12, bytes_21, bytes_22, bytes_25, bytes_29, bytes_31, bytes_40, bytes_41, bytes_43, bytes_45, bytes_46, bytes_47, bytes_48, bytes_49, bytes_52, bytes_53, bytes_60, bytes_63, bytes_67, bytes_75, bytes_79, true_and, and_true] <;> omega))
                | (refine NilB.mk fun b hb => Step.out ?_)
                | with_reducible trivial
                | exact noSh_bool _
                | exact noSh_lit _
                | exact noSh_int _ _
                | exact noSh_str _
                | with_reducible rfl
                | with_reducible exact same_rfl
                | (refine Wr.i64 ?_ ?_; omega)
                | (refine Wr.u8 ?_ ?_; omega)
                | (refine Wr.i32 ?_ ?_; omega)
                | (with_reducible refine Br.tt ?_)
                | (with_reducible refine Br.ff ?_)
                | (refine Br.dT ?_ ?_; omega)
                | (refine Br.dF ?_ ?_; omega)
                | (refine Br.d (fun h => ?_) (fun h => ?_))
                | (refine Br.swap ?_)
                | (refine Br.bnot ?_)
                | (refine Br.mk (fun h => Step.out ?_) (fun h => Step.out ?_))
                | (refine Two.mk (Step.out ?_) (Step.out ?_))
                | (refine Cp.mk fun q hq => Step.out ?_)
                | (refine Ovl.mk (by assumption) (Step.out ?_))
                | (refine CallOK.of_ct (Step.out ?_))
                | (refine CallQ.of_ct (Step.out ?_))
                | (refine Met.by (g := 35) (check_ct _ _ (by omega) (by omega)) ?_; rintro q outs ⟨rfl, rfl⟩)
                | (refine Met.by (g := 36) (cost_ct _ _ _ _ (by omega) (by omega) (by omega) (by omega)) ?_; rintro q outs ⟨rfl, rfl⟩)
                | (refine Met.by (g := 37) (swaps_ct _ _ _ _ (by omega) (by omega) (by omega) (by omega)) ?_; rintro q outs ⟨rfl, rfl⟩)
                | (refine Vc.mk ?_ (Step.out ?_))
              refine CodeOK.cutW hΓ hm ord15 [] (by kernel_rfl) (α := Unit) (fun z => [(0, .str a), (1, .str b), (7, .loc 0 0), (8, .loc 1 0), (9, .loc 2 0), (11, i64 i)]) (fun z => [(0, rowV B), (1, rowV R), (2, rowV F)]) 3 (fun z => True) ?_ ?_
              · repeat' first
                  | (refine Step.mk ?_; conv => whnf)
                  | (refine Vc.om ?_ ?_; first | omega | with_reducible rfl | with_reducible exact same_rfl | (simp only [bytes_2, bytes_3, bytes_4, bytes_5, bytes_9, bytes_12, bytes_21, bytes_22, bytes_25, bytes_29, bytes_31, bytes_40, bytes_41, bytes_43, bytes_45, bytes_46, bytes_47, bytes_48, bytes_49, bytes_52, bytes_53, bytes_60, bytes_63, bytes_67, bytes_75, bytes_79, true_and, and_true] <;> omega))
                  | (refine NilB.mk fun b hb => Step.out ?_)
                  | with_reducible trivial
                  | exact noSh_bool _
                  | exact noSh_lit _
                  | exact noSh_int _ _
                  | exact noSh_str _
                  | with_reducible rfl
                  | with_reducible exact same_rfl
                  | (refine Wr.i64 ?_ ?_; omega)
                  | (refine Wr.u8 ?_ ?_; omega)
                  | (refine Wr.i32 ?_ ?_; omega)
                  | (with_reducible refine Br.tt ?_)
                  | (with_reducible refine Br.ff ?_)
                  | (refine Br.dT ?_ ?_; omega)
                  | (refine Br.dF ?_ ?_; omega)
                  | (refine Br.d (fun h => ?_) (fun h => ?_))
                  | (refine Br.swap ?_)
                  | (refine Br.bnot ?_)
                  | (refine Br.mk (fun h => Step.out ?_) (fun h => Step.out ?_))
                  | (refine Two.mk (Step.out ?_) (Step.out ?_))
                  | (refine Cp.mk fun q hq => Step.out ?_)
                  | (refine Ovl.mk (by assumption) (Step.out ?_))
                  | (refine CallOK.of_ct (Step.out ?_))
                  | (refine CallQ.of_ct (Step.out ?_))
                  | (refine Met.by (g := 35) (check_ct _ _ (by omega) (by omega)) ?_; rintro q outs ⟨rfl, rfl⟩)
                  | (refine Met.by (g := 36) (cost_ct _ _ _ _ (by omega) (by omega) (by omega) (by omega)) ?_; rintro q outs ⟨rfl, rfl⟩)
                  | (refine Met.by (g := 37) (swaps_ct _ _ _ _ (by omega) (by omega) (by omega) (by omega)) ?_; rintro q outs ⟨rfl, rfl⟩)
                  | (refine Vc.mk ?_ (Step.out ?_))
                all_goals refine Again.by () trivial ?_
                all_goals
                  repeat' first
                    | (refine Step.mk ?_; conv => whnf)
                    | (refine Vc.om ?_ ?_; first | omega | with_reducible rfl | with_reducible exact same_rfl | (simp only [bytes_2, bytes_3, bytes_4, bytes_5, bytes_9, bytes_12, bytes_21, bytes_22, bytes_25, bytes_29, bytes_31, bytes_40, bytes_41, bytes_43, bytes_45, bytes_46, bytes_47, bytes_48, bytes_49, bytes_52, bytes_53, bytes_60, bytes_63, bytes_67, bytes_75, bytes_79, true_and, and_true] <;> omega))
                    | (refine NilB.mk fun b hb => Step.out ?_)
                    | with_reducible trivial
                    | exact noSh_bool _
                    | exact noSh_lit _
                    | exact noSh_int _ _
                    | exact noSh_str _
                    | with_reducible rfl
                    | with_reducible exact same_rfl
                    | (refine Wr.i64 ?_ ?_; omega)
                    | (refine Wr.u8 ?_ ?_; omega)
                    | (refine Wr.i32 ?_ ?_; omega)
                    | (with_reducible refine Br.tt ?_)
                    | (with_reducible refine Br.ff ?_)
                    | (refine Br.dT ?_ ?_; omega)
                    | (refine Br.dF ?_ ?_; omega)
                    | (refine Br.d (fun h => ?_) (fun h => ?_))
                    | (refine Br.swap ?_)
                    | (refine Br.bnot ?_)
                    | (refine Br.mk (fun h => Step.out ?_) (fun h => Step.out ?_))
                    | (refine Two.mk (Step.out ?_) (Step.out ?_))
                    | (refine Cp.mk fun q hq => Step.out ?_)
                    | (refine Ovl.mk (by assumption) (Step.out ?_))
                    | (refine CallOK.of_ct (Step.out ?_))
                    | (refine CallQ.of_ct (Step.out ?_))
                    | (refine Met.by (g := 35) (check_ct _ _ (by omega) (by omega)) ?_; rintro q outs ⟨rfl, rfl⟩)
                    | (refine Met.by (g := 36) (cost_ct _ _ _ _ (by omega) (by omega) (by omega) (by omega)) ?_; rintro q outs ⟨rfl, rfl⟩)
                    | (refine Met.by (g := 37) (swaps_ct _ _ _ _ (by omega) (by omega) (by omega) (by omega)) ?_; rintro q outs ⟨rfl, rfl⟩)
                    | (refine Vc.mk ?_ (Step.out ?_))
                all_goals exact fun i _ => ⟨rfl, rfl⟩
              · intro _ _
                repeat' first
                  | (refine Step.mk ?_; conv => whnf)
                  | (refine Vc.om ?_ ?_; first | omega | with_reducible rfl | with_reducible exact same_rfl | (simp only [bytes_2, bytes_3, bytes_4, bytes_5, bytes_9, bytes_12, bytes_21, bytes_22, bytes_25, bytes_29, bytes_31, bytes_40, bytes_41, bytes_43, bytes_45, bytes_46, bytes_47, bytes_48, bytes_49, bytes_52, bytes_53, bytes_60, bytes_63, bytes_67, bytes_75, bytes_79, true_and, and_true] <;> omega))
                  | (refine NilB.mk fun b hb => Step.out ?_)
                  | with_reducible trivial
                  | exact noSh_bool _
                  | exact noSh_lit _
                  | exact noSh_int _ _
                  | exact noSh_str _
                  | with_reducible rfl
                  | with_reducible exact same_rfl
                  | (refine Wr.i64 ?_ ?_; omega)
                  | (refine Wr.u8 ?_ ?_; omega)
                  | (refine Wr.i32 ?_ ?_; omega)
                  | (with_reducible refine Br.tt ?_)
                  | (with_reducible refine Br.ff ?_)
                  | (refine Br.dT ?_ ?_; omega)
                  | (refine Br.dF ?_ ?_; omega)
                  | (refine Vc.om ?_ ?_; focus ((show _ + _ * 1 < _; omega); done))
                  | (refine Wr.i64 ?_ ?_; focus ((show _ + _ * 1 < _; omega); done))
                  | (refine Wr.u8 ?_ ?_; focus ((show _ + _ * 1 < _; omega); done))
                  | (refine Br.dT ?_ ?_; focus ((show _ + _ * 1 < _; omega); done))
                  | (refine Br.dF ?_ ?_; focus ((show _ + _ * 1 < _; omega); done))
                  | (refine Br.d (fun h => ?_) (fun h => ?_))
                  | (refine Br.swap ?_)
                  | (refine Br.bnot ?_)
                  | (refine Br.mk (fun h => Step.out ?_) (fun h => Step.out ?_))
                  | (refine Two.mk (Step.out ?_) (Step.out ?_))
                  | (refine Cp.mk fun q hq => Step.out ?_)
                  | (refine Ovl.mk (by assumption) (Step.out ?_))
                  | (refine CallOK.of_ct (Step.out ?_))
                  | (refine CallQ.of_ct (Step.out ?_))
                  | (refine Met.by (g := 35) (check_ct _ _ (by omega) (by omega)) ?_; rintro q outs ⟨rfl, rfl⟩)
                  | (refine Met.by (g := 36) (cost_ct _ _ _ _ (by omega) (by omega) (by omega) (by omega)) ?_; rintro q outs ⟨rfl, rfl⟩)
                  | (refine Met.by (g := 37) (swaps_ct _ _ _ _ (by omega) (by omega) (by omega) (by omega)) ?_; rintro q outs ⟨rfl, rfl⟩)
                  | (refine Vc.mk ?_ (Step.out ?_))
                refine CodeOK.loopW hΓ hm ord15 [] (by kernel_rfl) (α := Nat × Row) (fun z => [(0, .str a), (1, .str b), (7, .loc 0 0), (8, .loc 1 0), (9, .loc 2 0), (11, i64 i), (12, i64 z.1)]) (fun z => [(0, rowV B), (1, rowV R), (2, rowV z.2)]) 3 (fun z => (1 ≤ z.1 ∧ z.1 ≤ b.length + 1) ∧ (∀ q, q < z.1 → z.2 q = tbl a b i q)) (fun z => b.length + 1 - z.1) ?_ ?_
                · refine Again.by (1, fun q => if q = 0 then (i : Int) else F q) ⟨⟨Nat.le_refl _, by dsimp only; omega⟩, fun q hq => ?_⟩ ?_
                  · obtain rfl : q = 0 := by dsimp only at hq; omega
                    dsimp only
                    rw [if_pos rfl, tbl_0 a b i 0 (by omega) (by omega) (.inr rfl)]; simp
                  · dsimp only
                    repeat' first
                      | (refine Step.mk ?_; conv => whnf)
                      | (refine Vc.om ?_ ?_; first | omega | with_reducible rfl | with_reducible exact same_rfl | (simp only [bytes_2, bytes_3, bytes_4, bytes_5, bytes_9, bytes_12, bytes_21, bytes_22, bytes_25, bytes_29, bytes_31, bytes_40, bytes_41, bytes_43, bytes_45, bytes_46, bytes_47, bytes_48, bytes_49, bytes_52, bytes_53, bytes_60, bytes_63, bytes_67, bytes_75, bytes_79, true_and, and_true] <;> omega))
                      | (refine NilB.mk fun b hb => Step.out ?_)
                      | with_reducible trivial
                      | exact noSh_bool _
                      | exact noSh_lit _
                      | exact noSh_int _ _
                      | exact noSh_str _
                      | with_reducible rfl
                      | with_reducible exact same_rfl
                      | (refine Wr.i64 ?_ ?_; omega)
                      | (refine Wr.u8 ?_ ?_; omega)
                      | (refine Wr.i32 ?_ ?_; omega)
                      | (with_reducible refine Br.tt ?_)
                      | (with_reducible refine Br.ff ?_)
                      | (refine Br.dT ?_ ?_; omega)
                      | (refine Br.dF ?_ ?_; omega)
                      | (refine Br.d (fun h => ?_) (fun h => ?_))
                      | (refine Br.swap ?_)
                      | (refine Br.bnot ?_)
                      | (refine Br.mk (fun h => Step.out ?_) (fun h => Step.out ?_))
                      | (refine Two.mk (Step.out ?_) (Step.out ?_))
                      | (refine Cp.mk fun q hq => Step.out ?_)
                      | (refine Ovl.mk (by assumption) (Step.out ?_))
                      | (refine CallOK.of_ct (Step.out ?_))
                      | (refine CallQ.of_ct (Step.out ?_))
                      | (refine Met.by (g := 35) (check_ct _ _ (by omega) (by omega)) ?_; rintro q outs ⟨rfl, rfl⟩)
                      | (refine Met.by (g := 36) (cost_ct _ _ _ _ (by omega) (by omega) (by omega) (by omega)) ?_; rintro q outs ⟨rfl, rfl⟩)
                      | (refine Met.by (g := 37) (swaps_ct _ _ _ _ (by omega) (by omega) (by omega) (by omega)) ?_; rintro q outs ⟨rfl, rfl⟩)
                      | (refine Vc.mk ?_ (Step.out ?_))
                    · exact fun i _ => ⟨rfl, rfl⟩
                    · exact fun i _ => ⟨rfl, rfl⟩
                    · exact vset (f := F) fun q => by
                        show (if q = 0 then (i : Int) else F q) = if q = 0 + 0 * 1 then (i : Int) else F q
                        rfl
                · intro ⟨j, G⟩ ⟨hj, hG⟩
                  dsimp only at hj hG ⊢
                  have hs : (Γ.get 3).size = 1 := rfl
                  have g1 : ∀ q, q ≤ b.length → R (0 + q * (Γ.get 3).size) = tbl a b (i - 1) q := fun q hq => by
                    rw [hs, Nat.zero_add, Nat.mul_one]; exact hR q hq
                  have g2 : ∀ q, q < j → G (0 + q * (Γ.get 3).size) = tbl a b i q := fun q hq => by
                    rw [hs, Nat.zero_add, Nat.mul_one]; exact hG q hq
                  have g3 : 2 ≤ i → ∀ q, q ≤ b.length → B (0 + q * (Γ.get 3).size) = tbl a b (i - 2) q := fun h q hq => by
                    rw [hs, Nat.zero_add, Nat.mul_one]; exact hB h q hq
                  have b1 : j ≤ b.length → R (0 + ((j : Int) - 1).toNat * (Γ.get 3).size) = tbl a b (i - 1) (j - 1) := fun h => by rw [g1 _ (by omega), sub1]
                  have b2 : j ≤ b.length → R (0 + (j : Int).toNat * (Γ.get 3).size) = tbl a b (i - 1) j := fun h => g1 _ (by omega)
                  have b3 : G (0 + ((j : Int) - 1).toNat * (Γ.get 3).size) = tbl a b i (j - 1) := by rw [g2 _ (by omega), sub1]
                  have b4 : swapB a b i j = true → j ≤ b.length → B (0 + ((j : Int) - 2).toNat * (Γ.get 3).size) = tbl a b (i - 2) (j - 2) := fun h hj => by
                    simp only [swapB, Bool.and_eq_true, decide_eq_true_eq] at h
                    rw [g3 (by omega) _ (by omega), sub2]
                  have c1 := tbl_le a b (i - 1) (j - 1)
                  have c2 := tbl_le a b (i - 1) j
                  have c3 := tbl_le a b i (j - 1)
                  have c4 := tbl_le a b (i - 2) (j - 2)
                  have c5 : costN a b i j ≤ 1 := by unfold costN; split <;> omega
                  have hsw : swapB a b i j = true → 2 ≤ i ∧ 2 ≤ j := fun h => by
                    simp only [swapB, Bool.and_eq_true, decide_eq_true_eq] at h; omega
                  repeat' first
                    | (refine Step.mk ?_; conv => whnf)
                    | (refine Vc.om ?_ ?_; first | omega | with_reducible rfl | with_reducible exact same_rfl | (simp only [bytes_2, bytes_3, bytes_4, bytes_5, bytes_9, bytes_12, bytes_21, bytes_22, bytes_25, bytes_29, bytes_31, bytes_40, bytes_41, bytes_43, bytes_45, bytes_46, bytes_47, bytes_48, bytes_49, bytes_52, bytes_53, bytes_60, bytes_63, bytes_67, bytes_75, bytes_79, true_and, and_true] <;> omega))
                    | (refine NilB.mk fun b hb => Step.out ?_)
                    | with_reducible trivial
                    | exact noSh_bool _
                    | exact noSh_lit _
                    | exact noSh_int _ _
                    | exact noSh_str _
                    | with_reducible rfl
                    | with_reducible exact same_rfl
                    | (refine Wr.i64 ?_ ?_; omega)
                    | (refine Wr.u8 ?_ ?_; omega)
                    | (refine Wr.i32 ?_ ?_; omega)
                    | (with_reducible refine Br.tt ?_)
                    | (with_reducible refine Br.ff ?_)
                    | (refine Br.dT ?_ ?_; omega)
                    | (refine Br.dF ?_ ?_; omega)
                    | (refine Vc.om ?_ ?_; focus ((show _ + _ * 1 < _; omega); done))
                    | (refine Wr.i64 ?_ ?_; focus ((show _ + _ * 1 < _; omega); done))
                    | (refine Wr.u8 ?_ ?_; focus ((show _ + _ * 1 < _; omega); done))
                    | (refine Br.dT ?_ ?_; focus ((show _ + _ * 1 < _; omega); done))
                    | (refine Br.dF ?_ ?_; focus ((show _ + _ * 1 < _; omega); done))
                    | (refine Vc.om ?_ ?_; focus ((have := b1 (by omega); have := b2 (by omega); omega); done))
                    | (refine Wr.i64 ?_ ?_; focus ((have := b1 (by omega); have := b2 (by omega); omega); done))
                    | (refine Wr.u8 ?_ ?_; focus ((have := b1 (by omega); have := b2 (by omega); omega); done))
                    | (refine Br.dT ?_ ?_; focus ((have := b1 (by omega); have := b2 (by omega); omega); done))
                    | (refine Br.dF ?_ ?_; focus ((have := b1 (by omega); have := b2 (by omega); omega); done))
                    | (refine Vc.om ?_ ?_; focus ((have := hsw ‹_›; omega); done))
                    | (refine Wr.i64 ?_ ?_; focus ((have := hsw ‹_›; omega); done))
                    | (refine Wr.u8 ?_ ?_; focus ((have := hsw ‹_›; omega); done))
                    | (refine Br.dT ?_ ?_; focus ((have := hsw ‹_›; omega); done))
                    | (refine Br.dF ?_ ?_; focus ((have := hsw ‹_›; omega); done))
                    | (refine Vc.om ?_ ?_; focus ((have := hsw ‹_›; have := b4 ‹_› (by omega); omega); done))
                    | (refine Wr.i64 ?_ ?_; focus ((have := hsw ‹_›; have := b4 ‹_› (by omega); omega); done))
                    | (refine Wr.u8 ?_ ?_; focus ((have := hsw ‹_›; have := b4 ‹_› (by omega); omega); done))
                    | (refine Br.dT ?_ ?_; focus ((have := hsw ‹_›; have := b4 ‹_› (by omega); omega); done))
                    | (refine Br.dF ?_ ?_; focus ((have := hsw ‹_›; have := b4 ‹_› (by omega); omega); done))
                    | (refine Vc.om ?_ ?_; focus ((have := hsw ‹_›; show _ + _ * 1 < _; omega); done))
                    | (refine Wr.i64 ?_ ?_; focus ((have := hsw ‹_›; show _ + _ * 1 < _; omega); done))
                    | (refine Wr.u8 ?_ ?_; focus ((have := hsw ‹_›; show _ + _ * 1 < _; omega); done))
                    | (refine Br.dT ?_ ?_; focus ((have := hsw ‹_›; show _ + _ * 1 < _; omega); done))
                    | (refine Br.dF ?_ ?_; focus ((have := hsw ‹_›; show _ + _ * 1 < _; omega); done))
                    | (refine Br.d (fun h => ?_) (fun h => ?_))
                    | (refine Br.swap ?_)
                    | (refine Br.bnot ?_)
                    | (refine Br.mk (fun h => Step.out ?_) (fun h => Step.out ?_))
                    | (refine Two.mk (Step.out ?_) (Step.out ?_))
                    | (refine Cp.mk fun q hq => Step.out ?_)
                    | (refine Ovl.mk (by assumption) (Step.out ?_))
                    | (refine CallOK.of_ct (Step.out ?_))
                    | (refine CallQ.of_ct (Step.out ?_))
                    | (refine Met.by (g := 35) (check_ct _ _ (by omega) (by omega)) ?_; rintro q outs ⟨rfl, rfl⟩)
                    | (refine Met.by (g := 36) (cost_ct _ _ _ _ (by omega) (by omega) (by omega) (by omega)) ?_; rintro q outs ⟨rfl, rfl⟩)
                    | (refine Met.by (g := 37) (swaps_ct _ _ _ _ (by omega) (by omega) (by omega) (by omega)) ?_; rintro q outs ⟨rfl, rfl⟩)
                    | (refine Vc.mk ?_ (Step.out ?_))
                  · have hst := tbl_step a b i j (by omega) (by omega)
                    rw [if_pos ‹_›] at hst
                    have e0 : 0 + (j : Int).toNat * (Γ.get 3).size = j := by rw [hs]; omega
                    refine Again.by (j + 1, fun q => if q = j then (tbl a b i j : Int) else G q) ⟨⟨⟨by dsimp only; omega, by dsimp only; omega⟩, fun q hq => ?_⟩, by dsimp only; omega⟩ ?_
                    · dsimp only at hq ⊢
                      by_cases e : q = j
                      · rw [if_pos e, e]
                      · rw [if_neg e]; exact hG q (by omega)
                    · dsimp only
                      repeat' first
                        | (refine Step.mk ?_; conv => whnf)
                        | (refine Vc.om ?_ ?_; first | omega | with_reducible rfl | with_reducible exact same_rfl | (simp only [bytes_2, bytes_3, bytes_4, bytes_5, bytes_9, bytes_12, bytes_21, bytes_22, bytes_25, bytes_29, bytes_31, bytes_40, bytes_41, bytes_43, bytes_45, bytes_46, bytes_47, bytes_48, bytes_49, bytes_52, bytes_53, bytes_60, bytes_63, bytes_67, bytes_75, bytes_79, true_and, and_true] <;> omega))
                        | (refine NilB.mk fun b hb => Step.out ?_)
                        | with_reducible trivial
                        | exact noSh_bool _
                        | exact noSh_lit _
                        | exact noSh_int _ _
                        | exact noSh_str _
                        | with_reducible rfl
                        | with_reducible exact same_rfl
                        | (refine Wr.i64 ?_ ?_; omega)
                        | (refine Wr.u8 ?_ ?_; omega)
                        | (refine Wr.i32 ?_ ?_; omega)
                        | (with_reducible refine Br.tt ?_)
                        | (with_reducible refine Br.ff ?_)
                        | (refine Br.dT ?_ ?_; omega)
                        | (refine Br.dF ?_ ?_; omega)
                        | (refine Br.d (fun h => ?_) (fun h => ?_))
                        | (refine Br.swap ?_)
                        | (refine Br.bnot ?_)
                        | (refine Br.mk (fun h => Step.out ?_) (fun h => Step.out ?_))
                        | (refine Two.mk (Step.out ?_) (Step.out ?_))
                        | (refine Cp.mk fun q hq => Step.out ?_)
                        | (refine Ovl.mk (by assumption) (Step.out ?_))
                        | (refine CallOK.of_ct (Step.out ?_))
                        | (refine CallQ.of_ct (Step.out ?_))
                        | (refine Met.by (g := 35) (check_ct _ _ (by omega) (by omega)) ?_; rintro q outs ⟨rfl, rfl⟩)
                        | (refine Met.by (g := 36) (cost_ct _ _ _ _ (by omega) (by omega) (by omega) (by omega)) ?_; rintro q outs ⟨rfl, rfl⟩)
                        | (refine Met.by (g := 37) (swaps_ct _ _ _ _ (by omega) (by omega) (by omega) (by omega)) ?_; rintro q outs ⟨rfl, rfl⟩)
                        | (refine Vc.mk ?_ (Step.out ?_))
                      · exact fun i _ => ⟨rfl, rfl⟩
                      · exact fun i _ => ⟨rfl, rfl⟩
                      · refine vset2 (f := G) fun q => ?_
                        rw [b1 (by omega), b2 (by omega), b3, b4 ‹_› (by omega), e0, if_pos rfl]
                        by_cases e : q = j
                        · rw [if_pos e, if_pos e]; omega
                        · rw [if_neg e, if_neg e]
                  · have hst := tbl_step a b i j (by omega) (by omega)
                    rw [if_neg (by rw [‹swapB _ _ _ _ = false›]; simp)] at hst
                    have e0 : 0 + (j : Int).toNat * (Γ.get 3).size = j := by rw [hs]; omega
                    refine Again.by (j + 1, fun q => if q = j then (tbl a b i j : Int) else G q) ⟨⟨⟨by dsimp only; omega, by dsimp only; omega⟩, fun q hq => ?_⟩, by dsimp only; omega⟩ ?_
                    · dsimp only at hq ⊢
                      by_cases e : q = j
                      · rw [if_pos e, e]
                      · rw [if_neg e]; exact hG q (by omega)
                    · dsimp only
                      repeat' first
                        | (refine Step.mk ?_; conv => whnf)
                        | (refine Vc.om ?_ ?_; first | omega | with_reducible rfl | with_reducible exact same_rfl | (simp only [bytes_2, bytes_3, bytes_4, bytes_5, bytes_9, bytes_12, bytes_21, bytes_22, bytes_25, bytes_29, bytes_31, bytes_40, bytes_41, bytes_43, bytes_45, bytes_46, bytes_47, bytes_48, bytes_49, bytes_52, bytes_53, bytes_60, bytes_63, bytes_67, bytes_75, bytes_79, true_and, and_true] <;> omega))
                        | (refine NilB.mk fun b hb => Step.out ?_)
                        | with_reducible trivial
                        | exact noSh_bool _
                        | exact noSh_lit _
                        | exact noSh_int _ _
                        | exact noSh_str _
                        | with_reducible rfl
                        | with_reducible exact same_rfl
                        | (refine Wr.i64 ?_ ?_; omega)
                        | (refine Wr.u8 ?_ ?_; omega)
                        | (refine Wr.i32 ?_ ?_; omega)
                        | (with_reducible refine Br.tt ?_)
                        | (with_reducible refine Br.ff ?_)
                        | (refine Br.dT ?_ ?_; omega)
                        | (refine Br.dF ?_ ?_; omega)
                        | (refine Br.d (fun h => ?_) (fun h => ?_))
                        | (refine Br.swap ?_)
                        | (refine Br.bnot ?_)
                        | (refine Br.mk (fun h => Step.out ?_) (fun h => Step.out ?_))
                        | (refine Two.mk (Step.out ?_) (Step.out ?_))
                        | (refine Cp.mk fun q hq => Step.out ?_)
                        | (refine Ovl.mk (by assumption) (Step.out ?_))
                        | (refine CallOK.of_ct (Step.out ?_))
                        | (refine CallQ.of_ct (Step.out ?_))
                        | (refine Met.by (g := 35) (check_ct _ _ (by omega) (by omega)) ?_; rintro q outs ⟨rfl, rfl⟩)
                        | (refine Met.by (g := 36) (cost_ct _ _ _ _ (by omega) (by omega) (by omega) (by omega)) ?_; rintro q outs ⟨rfl, rfl⟩)
                        | (refine Met.by (g := 37) (swaps_ct _ _ _ _ (by omega) (by omega) (by omega) (by omega)) ?_; rintro q outs ⟨rfl, rfl⟩)
                        | (refine Vc.mk ?_ (Step.out ?_))
                      · exact fun i _ => ⟨rfl, rfl⟩
                      · exact fun i _ => ⟨rfl, rfl⟩
                      · refine vset (f := G) fun q => ?_
                        rw [b1 (by omega), b2 (by omega), b3, e0]
                        by_cases e : q = j
                        · rw [if_pos e, if_pos e]; omega
                        · rw [if_neg e, if_neg e]
                  · refine Again.by (B, R, G) ⟨fun q hq => hG q (by omega), hR⟩ ?_
                    dsimp only
                    repeat' first
                      | (refine Step.mk ?_; conv => whnf)
                      | (refine Vc.om ?_ ?_; first | omega | with_reducible rfl | with_reducible exact same_rfl | (simp only [bytes_2, bytes_3, bytes_4, bytes_5, bytes_9, bytes_12, bytes_21, bytes_22, bytes_25, bytes_29, bytes_31, bytes_40, bytes_41, bytes_43, bytes_45, bytes_46, bytes_47, bytes_48, bytes_49, bytes_52, bytes_53, bytes_60, bytes_63, bytes_67, bytes_75, bytes_79, true_and, and_true] <;> omega))
                      | (refine NilB.mk fun b hb => Step.out ?_)
                      | with_reducible trivial
                      | exact noSh_bool _
                      | exact noSh_lit _
                      | exact noSh_int _ _
                      | exact noSh_str _
                      | with_reducible rfl
                      | with_reducible exact same_rfl
                      | (refine Wr.i64 ?_ ?_; omega)
                      | (refine Wr.u8 ?_ ?_; omega)
                      | (refine Wr.i32 ?_ ?_; omega)
                      | (with_reducible refine Br.tt ?_)
                      | (with_reducible refine Br.ff ?_)
                      | (refine Br.dT ?_ ?_; omega)
                      | (refine Br.dF ?_ ?_; omega)
                      | (refine Br.d (fun h => ?_) (fun h => ?_))
                      | (refine Br.swap ?_)
                      | (refine Br.bnot ?_)
                      | (refine Br.mk (fun h => Step.out ?_) (fun h => Step.out ?_))
                      | (refine Two.mk (Step.out ?_) (Step.out ?_))
                      | (refine Cp.mk fun q hq => Step.out ?_)
                      | (refine Ovl.mk (by assumption) (Step.out ?_))
                      | (refine CallOK.of_ct (Step.out ?_))
                      | (refine CallQ.of_ct (Step.out ?_))
                      | (refine Met.by (g := 35) (check_ct _ _ (by omega) (by omega)) ?_; rintro q outs ⟨rfl, rfl⟩)
                      | (refine Met.by (g := 36) (cost_ct _ _ _ _ (by omega) (by omega) (by omega) (by omega)) ?_; rintro q outs ⟨rfl, rfl⟩)
                      | (refine Met.by (g := 37) (swaps_ct _ _ _ _ (by omega) (by omega) (by omega) (by omega)) ?_; rintro q outs ⟨rfl, rfl⟩)
                      | (refine Vc.mk ?_ (Step.out ?_))
                    all_goals exact fun i _ => ⟨rfl, rfl⟩
            · intro ⟨B', R', G⟩ ⟨h1, h2⟩
              dsimp only at h1 h2 ⊢
              repeat' first
                | (refine Step.mk ?_; conv => whnf)
                | (refine Vc.om ?_ ?_; first | omega | with_reducible rfl | with_reducible exact same_rfl | (simp only [bytes_2, bytes_3, bytes_4, bytes_5, bytes_9, bytes_12, bytes_21, bytes_22, bytes_25, bytes_29, bytes_31, bytes_40, bytes_41, bytes_43, bytes_45, bytes_46, bytes_47, bytes_48, bytes_49, bytes_52, bytes_53, bytes_60, bytes_63, bytes_67, bytes_75, bytes_79, true_and, and_true] <;> omega))
                | (refine NilB.mk fun b hb => Step.out ?_)
                | with_reducible trivial
                | exact noSh_bool _
                | exact noSh_lit _
                | exact noSh_int _ _
                | exact noSh_str _
                | with_reducible rfl
                | with_reducible exact same_rfl
                | (refine Wr.i64 ?_ ?_; omega)
                | (refine Wr.u8 ?_ ?_; omega)
                | (refine Wr.i32 ?_ ?_; omega)
                | (with_reducible refine Br.tt ?_)
                | (with_reducible refine Br.ff ?_)
                | (refine Br.dT ?_ ?_; omega)
                | (refine Br.dF ?_ ?_; omega)
                | (refine Br.d (fun h => ?_) (fun h => ?_))
                | (refine Br.swap ?_)
                | (refine Br.bnot ?_)
                | (refine Br.mk (fun h => Step.out ?_) (fun h => Step.out ?_))
                | (refine Two.mk (Step.out ?_) (Step.out ?_))
                | (refine Cp.mk fun q hq => Step.out ?_)
                | (refine Ovl.mk (by assumption) (Step.out ?_))
                | (refine CallOK.of_ct (Step.out ?_))
                | (refine CallQ.of_ct (Step.out ?_))
                | (refine Met.by (g := 35) (check_ct _ _ (by omega) (by omega)) ?_; rintro q outs ⟨rfl, rfl⟩)
                | (refine Met.by (g := 36) (cost_ct _ _ _ _ (by omega) (by omega) (by omega) (by omega)) ?_; rintro q outs ⟨rfl, rfl⟩)
                | (refine Met.by (g := 37) (swaps_ct _ _ _ _ (by omega) (by omega) (by omega) (by omega)) ?_; rintro q outs ⟨rfl, rfl⟩)
                | (refine Vc.mk ?_ (Step.out ?_))
              refine Again.by (i + 1, B', R', G) ⟨⟨⟨by dsimp only; omega, by dsimp only; omega⟩, fun q hq => ?_, fun _ q hq => ?_⟩, by dsimp only; omega⟩ ?_
              · exact h1 q hq
              · exact h2 q hq
              · dsimp only
                repeat' first
                  | (refine Step.mk ?_; conv => whnf)
                  | (refine Vc.om ?_ ?_; first | omega | with_reducible rfl | with_reducible exact same_rfl | (simp only [bytes_2, bytes_3, bytes_4, bytes_5, bytes_9, bytes_12, bytes_21, bytes_22, bytes_25, bytes_29, bytes_31, bytes_40, bytes_41, bytes_43, bytes_45, bytes_46, bytes_47, bytes_48, bytes_49, bytes_52, bytes_53, bytes_60, bytes_63, bytes_67, bytes_75, bytes_79, true_and, and_true] <;> omega))
                  | (refine NilB.mk fun b hb => Step.out ?_)
                  | with_reducible trivial
                  | exact noSh_bool _
                  | exact noSh_lit _
                  | exact noSh_int _ _
                  | exact noSh_str _
                  | with_reducible rfl
                  | with_reducible exact same_rfl
                  | (refine Wr.i64 ?_ ?_; omega)
                  | (refine Wr.u8 ?_ ?_; omega)
                  | (refine Wr.i32 ?_ ?_; omega)
                  | (with_reducible refine Br.tt ?_)
                  | (with_reducible refine Br.ff ?_)
                  | (refine Br.dT ?_ ?_; omega)
                  | (refine Br.dF ?_ ?_; omega)
                  | (refine Br.d (fun h => ?_) (fun h => ?_))
                  | (refine Br.swap ?_)
                  | (refine Br.bnot ?_)
                  | (refine Br.mk (fun h => Step.out ?_) (fun h => Step.out ?_))
                  | (refine Two.mk (Step.out ?_) (Step.out ?_))
                  | (refine Cp.mk fun q hq => Step.out ?_)
                  | (refine Ovl.mk (by assumption) (Step.out ?_))
                  | (refine CallOK.of_ct (Step.out ?_))
                  | (refine CallQ.of_ct (Step.out ?_))
                  | (refine Met.by (g := 35) (check_ct _ _ (by omega) (by omega)) ?_; rintro q outs ⟨rfl, rfl⟩)
                  | (refine Met.by (g := 36) (cost_ct _ _ _ _ (by omega) (by omega) (by omega) (by omega)) ?_; rintro q outs ⟨rfl, rfl⟩)
                  | (refine Met.by (g := 37) (swaps_ct _ _ _ _ (by omega) (by omega) (by omega) (by omega)) ?_; rintro q outs ⟨rfl, rfl⟩)
                  | (refine Vc.mk ?_ (Step.out ?_))
                all_goals exact fun i _ => ⟨rfl, rfl⟩
          · rw [ed, if_neg (by omega)]
            show R (0 + b.length * 1) = _
            rw [hR _ (by omega), ← tbl_all]
            congr 2 <;> omega
          · rw [errL, if_neg (by omega)]
  · split at h
    · rw [ed, if_pos ‹_›]
    · omega
  · rfl
end Kx
