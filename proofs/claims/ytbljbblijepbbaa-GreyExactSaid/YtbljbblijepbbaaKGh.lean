/-
  Decisions dealt.
  No condition beyond those written in each theorem.
-/
import Derived.Test.YtbljbblijepbbaaKGg
open Go Sx Go.Proofs
set_option linter.unusedSimpArgs false
set_option linter.unusedVariables false
namespace Kx
theorem app2 {α : Type} (F : α → List D) (z : α) (hF : ∀ (c : Prop) [Decidable c] (x y : α), iteL c (F x) (F y) = F (if c then x else y)) (l : List α) (x y : α) :
    l.length + 1 + 1 = (l ++ [x] ++ [y]).length ∧ ∀ i, i < (l ++ [x] ++ [y]).length → iteL (i < l.length + 1) (iteL (i < l.length) (F (l.getD i z)) (selC [F x] (i - l.length))) (selC [F y] (i - (l.length + 1))) = F ((l ++ [x] ++ [y]).getD i z) := by
  refine ⟨by simp, fun i hi => ?_⟩
  have hi : i < l.length + 1 + 1 := by simpa using hi
  rw [show selC [F x] (i - l.length) = F x from rfl, show selC [F y] (i - (l.length + 1)) = F y from rfl, hF, hF, getD_app, getD_app, List.length_append]
  congr 1
  by_cases h1 : i < l.length
  · rw [if_pos (by omega), if_pos h1, if_pos (by simp; omega), if_pos h1]
  · by_cases h2 : i < l.length + 1
    · rw [if_pos h2, if_neg h1, if_pos (by simpa using h2), if_neg h1, show i - l.length = 0 by omega]; rfl
    · rw [if_neg h2, if_neg (by simpa using h2), show i - (l.length + [x].length) = 0 by simp; omega]; rfl
def desO (l : List De) : D := .ftab 43 7 l.length fun i => De.f (l.getD i De.z)
theorem decs_ct (d : Dk) (n m o : Int) (hn : 0 ≤ n ∧ n ≤ 3) (hmm : 0 ≤ m ∧ m ≤ 4) : Ct Try.prog 17 [d.b, i64 n, i64 m, i64 o] fun r outs => ∃ (l : List De) (d' : Dk), UpD 3 0 0 0 l ∧ r = desO l ∧ outs = [Dk.b d'] := by
  refine .some2 (.of_W (fn := Try.f17) hΓ hm Try.func17 ord17 [] (by kernel_rfl) (Step.out ?_))
  repeat' first
    | (refine Step.mk ?_; conv => whnf)
    | (refine Vc.om ?_ ?_; first | omega | with_reducible rfl | with_reducible exact same_rfl | (simp only [bytes_2, bytes_3, bytes_4, bytes_5, bytes_9, bytes_12, bytes_21, bytes_22, bytes_25, bytes_27, bytes_28, bytes_30, bytes_32, bytes_33, bytes_36, bytes_37, bytes_38, bytes_39, bytes_41, bytes_42, bytes_43, bytes_44, bytes_45, bytes_46, bytes_52, bytes_56, bytes_58, bytes_60, bytes_67, bytes_68, bytes_69, bytes_70, bytes_71, bytes_72, bytes_73, bytes_74, bytes_75, bytes_76, bytes_77, bytes_81, bytes_84, bytes_85, bytes_87, bytes_95, bytes_96, bytes_111, bytes_115, true_and, and_true] <;> omega))
    | (refine NilB.mk fun b hb => Step.out ?_)
    | with_reducible trivial
    | exact noSh_bool _
    | exact noSh_lit _
    | exact noSh_int _ _
    | exact noSh_str _
    | with_reducible rfl
    | with_reducible exact same_rfl
    | (refine Wr.i64 ?_ ?_; omega)
    | (refine Wr.u8 ?_ ?_; omega)
    | (refine Wr.i32 ?_ ?_; omega)
    | (with_reducible refine Br.tt ?_)
    | (with_reducible refine Br.ff ?_)
    | (refine Br.dT ?_ ?_; omega)
    | (refine Br.dF ?_ ?_; omega)
    | (refine Br.d (fun h => ?_) (fun h => ?_))
    | (refine Br.swap ?_)
    | (refine Br.bnot ?_)
    | (refine Br.mk (fun h => Step.out ?_) (fun h => Step.out ?_))
    | (refine Two.mk (Step.out ?_) (Step.out ?_))
    | (refine Cp.mk fun q hq => Step.out ?_)
    | (refine Ovl.mk (by assumption) (Step.out ?_))
    | (refine CallOK.io1 (g := 14) (Step.out ?_))
    | (refine CallOK.io1 (g := 43) (Step.out ?_))
    | (refine CallOK.of_ct (Step.out ?_))
    | (refine CallQ.of_ct (Step.out ?_))
    | (refine Met.by (g := 14) (next_ct _ _) ?_; rintro q outs ⟨x, d, hx, rfl, rfl⟩)
    | (refine Met.by (g := 43) (one_ct _ _) ?_; rintro q outs ⟨x, d, hx, rfl, rfl⟩)
    | (refine Vc.mk ?_ (Step.out ?_))
  refine CodeOK.loopW hΓ hm ord17 [] (by kernel_rfl) (α := Dk × List De × Int) (fun z => [(0, .loc 0 0), (1, i64 n), (2, i64 m), (3, i64 o), (9, .own 1), (10, i64 z.2.2)]) (fun z => [(0, .var z.1.ls), (1, .arr 43 7 z.2.1.length fun j => De.f (z.2.1.getD j De.z))]) 2 (fun z => 0 ≤ z.2.2 ∧ z.2.2 ≤ n ∧ UpD z.2.2 0 0 0 z.2.1) (fun z => (n - z.2.2).toNat) ?_ ?_
  · refine Again.by (d, [], 0) ⟨by dsimp only; omega, by dsimp only; omega, ⟨by simp, by simp, by simp, by simp⟩⟩ ?_
    repeat' first
      | (refine Step.mk ?_; conv => whnf)
      | (refine Vc.om ?_ ?_; first | omega | with_reducible rfl | with_reducible exact same_rfl | (simp only [bytes_2, bytes_3, bytes_4, bytes_5, bytes_9, bytes_12, bytes_21, bytes_22, bytes_25, bytes_27, bytes_28, bytes_30, bytes_32, bytes_33, bytes_36, bytes_37, bytes_38, bytes_39, bytes_41, bytes_42, bytes_43, bytes_44, bytes_45, bytes_46, bytes_52, bytes_56, bytes_58, bytes_60, bytes_67, bytes_68, bytes_69, bytes_70, bytes_71, bytes_72, bytes_73, bytes_74, bytes_75, bytes_76, bytes_77, bytes_81, bytes_84, bytes_85, bytes_87, bytes_95, bytes_96, bytes_111, bytes_115, true_and, and_true] <;> omega))
      | (refine NilB.mk fun b hb => Step.out ?_)
      | with_reducible trivial
      | exact noSh_bool _
      | exact noSh_lit _
      | exact noSh_int _ _
      | exact noSh_str _
      | with_reducible rfl
      | with_reducible exact same_rfl
      | (refine Wr.i64 ?_ ?_; omega)
      | (refine Wr.u8 ?_ ?_; omega)
      | (refine Wr.i32 ?_ ?_; omega)
      | (with_reducible refine Br.tt ?_)
      | (with_reducible refine Br.ff ?_)
      | (refine Br.dT ?_ ?_; omega)
      | (refine Br.dF ?_ ?_; omega)
      | (refine Br.d (fun h => ?_) (fun h => ?_))
      | (refine Br.swap ?_)
      | (refine Br.bnot ?_)
      | (refine Br.mk (fun h => Step.out ?_) (fun h => Step.out ?_))
      | (refine Two.mk (Step.out ?_) (Step.out ?_))
      | (refine Cp.mk fun q hq => Step.out ?_)
      | (refine Ovl.mk (by assumption) (Step.out ?_))
      | (refine CallOK.io1 (g := 14) (Step.out ?_))
      | (refine CallOK.io1 (g := 43) (Step.out ?_))
      | (refine CallOK.of_ct (Step.out ?_))
      | (refine CallQ.of_ct (Step.out ?_))
      | (refine Met.by (g := 14) (next_ct _ _) ?_; rintro q outs ⟨x, d, hx, rfl, rfl⟩)
      | (refine Met.by (g := 43) (one_ct _ _) ?_; rintro q outs ⟨x, d, hx, rfl, rfl⟩)
      | (refine Vc.mk ?_ (Step.out ?_))
    all_goals rfl
  · intro ⟨d, l, r⟩ ⟨h1, h2, h3⟩
    dsimp only at h1 h2 h3 ⊢
    repeat' first
      | (refine Step.mk ?_; conv => whnf)
      | (refine Vc.om ?_ ?_; first | omega | with_reducible rfl | with_reducible exact same_rfl | (simp only [bytes_2, bytes_3, bytes_4, bytes_5, bytes_9, bytes_12, bytes_21, bytes_22, bytes_25, bytes_27, bytes_28, bytes_30, bytes_32, bytes_33, bytes_36, bytes_37, bytes_38, bytes_39, bytes_41, bytes_42, bytes_43, bytes_44, bytes_45, bytes_46, bytes_52, bytes_56, bytes_58, bytes_60, bytes_67, bytes_68, bytes_69, bytes_70, bytes_71, bytes_72, bytes_73, bytes_74, bytes_75, bytes_76, bytes_77, bytes_81, bytes_84, bytes_85, bytes_87, bytes_95, bytes_96, bytes_111, bytes_115, true_and, and_true] <;> omega))
      | (refine NilB.mk fun b hb => Step.out ?_)
      | with_reducible trivial
      | exact noSh_bool _
      | exact noSh_lit _
      | exact noSh_int _ _
      | exact noSh_str _
      | with_reducible rfl
      | with_reducible exact same_rfl
      | (refine Wr.i64 ?_ ?_; omega)
      | (refine Wr.u8 ?_ ?_; omega)
      | (refine Wr.i32 ?_ ?_; omega)
      | (with_reducible refine Br.tt ?_)
      | (with_reducible refine Br.ff ?_)
      | (refine Br.dT ?_ ?_; omega)
      | (refine Br.dF ?_ ?_; omega)
      | (refine Br.d (fun h => ?_) (fun h => ?_))
      | (refine Br.swap ?_)
      | (refine Br.bnot ?_)
      | (refine Br.mk (fun h => Step.out ?_) (fun h => Step.out ?_))
      | (refine Two.mk (Step.out ?_) (Step.out ?_))
      | (refine Cp.mk fun q hq => Step.out ?_)
      | (refine Ovl.mk (by assumption) (Step.out ?_))
      | (refine CallOK.io1 (g := 14) (Step.out ?_))
      | (refine CallOK.io1 (g := 43) (Step.out ?_))
      | (refine CallOK.of_ct (Step.out ?_))
      | (refine CallQ.of_ct (Step.out ?_))
      | (refine Met.by (g := 14) (next_ct _ _) ?_; rintro q outs ⟨x, d, hx, rfl, rfl⟩)
      | (refine Met.by (g := 43) (one_ct _ _) ?_; rintro q outs ⟨x, d, hx, rfl, rfl⟩)
      | (refine Vc.mk ?_ (Step.out ?_))
    · refine CodeOK.loopW hΓ hm ord17 [] (by kernel_rfl) (α := Dk × List De × Int) (fun z => [(0, .loc 0 0), (1, i64 n), (2, i64 m), (3, i64 o), (9, .own 1), (10, i64 r), (11, i64 z.2.2)]) (fun z => [(0, .var z.1.ls), (1, .arr 43 7 z.2.1.length fun j => De.f (z.2.1.getD j De.z))]) 2 (fun z => 1 ≤ z.2.2 ∧ z.2.2 ≤ m + 1 ∧ UpD r z.2.2 0 0 z.2.1) (fun z => (m + 1 - z.2.2).toNat) ?_ ?_
      · refine Again.by (d, l, 1) ⟨by dsimp only; omega, by dsimp only; omega, h3.mono (by decide) (by dsimp only; omega) (by dsimp only; omega)⟩ ?_
        repeat' first
          | (refine Step.mk ?_; conv => whnf)
          | (refine Vc.om ?_ ?_; first | omega | with_reducible rfl | with_reducible exact same_rfl | (simp only [bytes_2, bytes_3, bytes_4, bytes_5, bytes_9, bytes_12, bytes_21, bytes_22, bytes_25, bytes_27, bytes_28, bytes_30, bytes_32, bytes_33, bytes_36, bytes_37, bytes_38, bytes_39, bytes_41, bytes_42, bytes_43, bytes_44, bytes_45, bytes_46, bytes_52, bytes_56, bytes_58, bytes_60, bytes_67, bytes_68, bytes_69, bytes_70, bytes_71, bytes_72, bytes_73, bytes_74, bytes_75, bytes_76, bytes_77, bytes_81, bytes_84, bytes_85, bytes_87, bytes_95, bytes_96, bytes_111, bytes_115, true_and, and_true] <;> omega))
          | (refine NilB.mk fun b hb => Step.out ?_)
          | with_reducible trivial
          | exact noSh_bool _
          | exact noSh_lit _
          | exact noSh_int _ _
          | exact noSh_str _
          | with_reducible rfl
          | with_reducible exact same_rfl
          | (refine Wr.i64 ?_ ?_; omega)
          | (refine Wr.u8 ?_ ?_; omega)
          | (refine Wr.i32 ?_ ?_; omega)
          | (with_reducible refine Br.tt ?_)
          | (with_reducible refine Br.ff ?_)
          | (refine Br.dT ?_ ?_; omega)
          | (refine Br.dF ?_ ?_; omega)
          | (refine Br.d (fun h => ?_) (fun h => ?_))
          | (refine Br.swap ?_)
          | (refine Br.bnot ?_)
          | (refine Br.mk (fun h => Step.out ?_) (fun h => Step.out ?_))
          | (refine Two.mk (Step.out ?_) (Step.out ?_))
          | (refine Cp.mk fun q hq => Step.out ?_)
          | (refine Ovl.mk (by assumption) (Step.out ?_))
          | (refine CallOK.io1 (g := 14) (Step.out ?_))
          | (refine CallOK.io1 (g := 43) (Step.out ?_))
          | (refine CallOK.of_ct (Step.out ?_))
          | (refine CallQ.of_ct (Step.out ?_))
          | (refine Met.by (g := 14) (next_ct _ _) ?_; rintro q outs ⟨x, d, hx, rfl, rfl⟩)
          | (refine Met.by (g := 43) (one_ct _ _) ?_; rintro q outs ⟨x, d, hx, rfl, rfl⟩)
          | (refine Vc.mk ?_ (Step.out ?_))
        all_goals exact ⟨rfl, fun _ _ => rfl⟩
      · intro ⟨d, l, i⟩ ⟨h4, h5, h6⟩
        dsimp only at h4 h5 h6 ⊢
        repeat' first
          | (refine Step.mk ?_; conv => whnf)
          | (refine Vc.om ?_ ?_; first | omega | with_reducible rfl | with_reducible exact same_rfl | (simp only [bytes_2, bytes_3, bytes_4, bytes_5, bytes_9, bytes_12, bytes_21, bytes_22, bytes_25, bytes_27, bytes_28, bytes_30, bytes_32, bytes_33, bytes_36, bytes_37, bytes_38, bytes_39, bytes_41, bytes_42, bytes_43, bytes_44, bytes_45, bytes_46, bytes_52, bytes_56, bytes_58, bytes_60, bytes_67, bytes_68, bytes_69, bytes_70, bytes_71, bytes_72, bytes_73, bytes_74, bytes_75, bytes_76, bytes_77, bytes_81, bytes_84, bytes_85, bytes_87, bytes_95, bytes_96, bytes_111, bytes_115, true_and, and_true] <;> omega))
          | (refine NilB.mk fun b hb => Step.out ?_)
          | with_reducible trivial
          | exact noSh_bool _
          | exact noSh_lit _
          | exact noSh_int _ _
          | exact noSh_str _
          | with_reducible rfl
          | with_reducible exact same_rfl
          | (refine Wr.i64 ?_ ?_; omega)
          | (refine Wr.u8 ?_ ?_; omega)
          | (refine Wr.i32 ?_ ?_; omega)
          | (with_reducible refine Br.tt ?_)
          | (with_reducible refine Br.ff ?_)
          | (refine Br.dT ?_ ?_; omega)
          | (refine Br.dF ?_ ?_; omega)
          | (refine Br.d (fun h => ?_) (fun h => ?_))
          | (refine Br.swap ?_)
          | (refine Br.bnot ?_)
          | (refine Br.mk (fun h => Step.out ?_) (fun h => Step.out ?_))
          | (refine Two.mk (Step.out ?_) (Step.out ?_))
          | (refine Cp.mk fun q hq => Step.out ?_)
          | (refine Ovl.mk (by assumption) (Step.out ?_))
          | (refine CallOK.io1 (g := 14) (Step.out ?_))
          | (refine CallOK.io1 (g := 43) (Step.out ?_))
          | (refine CallOK.of_ct (Step.out ?_))
          | (refine CallQ.of_ct (Step.out ?_))
          | (refine Met.by (g := 14) (next_ct _ _) ?_; rintro q outs ⟨x, d, hx, rfl, rfl⟩)
          | (refine Met.by (g := 43) (one_ct _ _) ?_; rintro q outs ⟨x, d, hx, rfl, rfl⟩)
          | (refine Vc.mk ?_ (Step.out ?_))
        · refine CodeOK.loopW hΓ hm ord17 [] (by kernel_rfl) (α := Dk × List De × Int) (fun z => [(0, .loc 0 0), (1, i64 n), (2, i64 m), (3, i64 o), (9, .own 1), (10, i64 r), (11, i64 i), (12, i64 z.2.2)]) (fun z => [(0, .var z.1.ls), (1, .arr 43 7 z.2.1.length fun j => De.f (z.2.1.getD j De.z))]) 2 (fun z => r < z.2.2 ∧ z.2.2 ≤ n ∧ UpD r i z.2.2 0 z.2.1) (fun z => (n - z.2.2).toNat) ?_ ?_
          · refine Again.by (d, l, r + 1) ⟨by dsimp only; omega, by dsimp only; omega, h6.mono (by decide) (by dsimp only; omega) (by dsimp only; omega)⟩ ?_
            repeat' first
              | (refine Step.mk ?_; conv => whnf)
              | (refine Vc.om ?_ ?_; first | omega | with_reducible rfl | with_reducible exact same_rfl | (simp only [bytes_2, bytes_3, bytes_4, bytes_5, bytes_9, bytes_12, bytes_21, bytes_22, bytes_25, bytes_27, bytes_28, bytes_30, bytes_32, bytes_33, bytes_36, bytes_37, bytes_38, bytes_39, bytes_41, bytes_42, bytes_43, bytes_44, bytes_45, bytes_46, bytes_52, bytes_56, bytes_58, bytes_60, bytes_67, bytes_68, bytes_69, bytes_70, bytes_71, bytes_72, bytes_73, bytes_74, bytes_75, bytes_76, bytes_77, bytes_81, bytes_84, bytes_85, bytes_87, bytes_95, bytes_96, bytes_111, bytes_115, true_and, and_true] <;> omega))
              | (refine NilB.mk fun b hb => Step.out ?_)
              | with_reducible trivial
              | exact noSh_bool _
              | exact noSh_lit _
              | exact noSh_int _ _
              | exact noSh_str _
              | with_reducible rfl
              | with_reducible exact same_rfl
              | (refine Wr.i64 ?_ ?_; omega)
              | (refine Wr.u8 ?_ ?_; omega)
              | (refine Wr.i32 ?_ ?_; omega)
              | (with_reducible refine Br.tt ?_)
              | (with_reducible refine Br.ff ?_)
              | (refine Br.dT ?_ ?_; omega)
              | (refine Br.dF ?_ ?_; omega)
              | (refine Br.d (fun h => ?_) (fun h => ?_))
              | (refine Br.swap ?_)
              | (refine Br.bnot ?_)
              | (refine Br.mk (fun h => Step.out ?_) (fun h => Step.out ?_))
              | (refine Two.mk (Step.out ?_) (Step.out ?_))
              | (refine Cp.mk fun q hq => Step.out ?_)
              | (refine Ovl.mk (by assumption) (Step.out ?_))
              | (refine CallOK.io1 (g := 14) (Step.out ?_))
              | (refine CallOK.io1 (g := 43) (Step.out ?_))
              | (refine CallOK.of_ct (Step.out ?_))
              | (refine CallQ.of_ct (Step.out ?_))
              | (refine Met.by (g := 14) (next_ct _ _) ?_; rintro q outs ⟨x, d, hx, rfl, rfl⟩)
              | (refine Met.by (g := 43) (one_ct _ _) ?_; rintro q outs ⟨x, d, hx, rfl, rfl⟩)
              | (refine Vc.mk ?_ (Step.out ?_))
            all_goals exact ⟨rfl, fun _ _ => rfl⟩
          · intro ⟨d, l, s⟩ ⟨h7, h8, h9⟩
            dsimp only at h7 h8 h9 ⊢
            repeat' first
              | (refine Step.mk ?_; conv => whnf)
              | (refine Vc.om ?_ ?_; first | omega | with_reducible rfl | with_reducible exact same_rfl | (simp only [bytes_2, bytes_3, bytes_4, bytes_5, bytes_9, bytes_12, bytes_21, bytes_22, bytes_25, bytes_27, bytes_28, bytes_30, bytes_32, bytes_33, bytes_36, bytes_37, bytes_38, bytes_39, bytes_41, bytes_42, bytes_43, bytes_44, bytes_45, bytes_46, bytes_52, bytes_56, bytes_58, bytes_60, bytes_67, bytes_68, bytes_69, bytes_70, bytes_71, bytes_72, bytes_73, bytes_74, bytes_75, bytes_76, bytes_77, bytes_81, bytes_84, bytes_85, bytes_87, bytes_95, bytes_96, bytes_111, bytes_115, true_and, and_true] <;> omega))
              | (refine NilB.mk fun b hb => Step.out ?_)
              | with_reducible trivial
              | exact noSh_bool _
              | exact noSh_lit _
              | exact noSh_int _ _
              | exact noSh_str _
              | with_reducible rfl
              | with_reducible exact same_rfl
              | (refine Wr.i64 ?_ ?_; omega)
              | (refine Wr.u8 ?_ ?_; omega)
              | (refine Wr.i32 ?_ ?_; omega)
              | (with_reducible refine Br.tt ?_)
              | (with_reducible refine Br.ff ?_)
              | (refine Br.dT ?_ ?_; omega)
              | (refine Br.dF ?_ ?_; omega)
              | (refine Br.d (fun h => ?_) (fun h => ?_))
              | (refine Br.swap ?_)
              | (refine Br.bnot ?_)
              | (refine Br.mk (fun h => Step.out ?_) (fun h => Step.out ?_))
              | (refine Two.mk (Step.out ?_) (Step.out ?_))
              | (refine Cp.mk fun q hq => Step.out ?_)
              | (refine Ovl.mk (by assumption) (Step.out ?_))
              | (refine CallOK.io1 (g := 14) (Step.out ?_))
              | (refine CallOK.io1 (g := 43) (Step.out ?_))
              | (refine CallOK.of_ct (Step.out ?_))
              | (refine CallQ.of_ct (Step.out ?_))
              | (refine Met.by (g := 14) (next_ct _ _) ?_; rintro q outs ⟨x, d, hx, rfl, rfl⟩)
              | (refine Met.by (g := 43) (one_ct _ _) ?_; rintro q outs ⟨x, d, hx, rfl, rfl⟩)
              | (refine Vc.mk ?_ (Step.out ?_))
            · refine CodeOK.loopW hΓ hm ord17 [] (by kernel_rfl) (α := Dk × List De × Int) (fun z => [(0, .loc 0 0), (1, i64 n), (2, i64 m), (3, i64 o), (9, .own 1), (10, i64 r), (11, i64 i), (12, i64 s), (13, i64 z.2.2)]) (fun z => [(0, .var z.1.ls), (1, .arr 43 7 z.2.1.length fun j => De.f (z.2.1.getD j De.z))]) 2 (fun z => 1 ≤ z.2.2 ∧ z.2.2 ≤ m + 1 ∧ UpD r i s z.2.2 z.2.1) (fun z => (m + 1 - z.2.2).toNat) ?_ ?_
              · refine Again.by (d, l, 1) ⟨by dsimp only; omega, by dsimp only; omega, h9.mono (by decide) (by dsimp only; omega) (by dsimp only; omega)⟩ ?_
                repeat' first
                  | (refine Step.mk ?_; conv => whnf)
                  | (refine Vc.om ?_ ?_; first | omega | with_reducible rfl | with_reducible exact same_rfl | (simp only [bytes_2, bytes_3, bytes_4, bytes_5, bytes_9, bytes_12, bytes_21, bytes_22, bytes_25, bytes_27, bytes_28, bytes_30, bytes_32, bytes_33, bytes_36, bytes_37, bytes_38, bytes_39, bytes_41, bytes_42, bytes_43, bytes_44, bytes_45, bytes_46, bytes_52, bytes_56, bytes_58, bytes_60, bytes_67, bytes_68, bytes_69, bytes_70, bytes_71, bytes_72, bytes_73, bytes_74, bytes_75, bytes_76, bytes_77, bytes_81, bytes_84, bytes_85, bytes_87, bytes_95, bytes_96, bytes_111, bytes_115, true_and, and_true] <;> omega))
                  | (refine NilB.mk fun b hb => Step.out ?_)
                  | with_reducible trivial
                  | exact noSh_bool _
                  | exact noSh_lit _
                  | exact noSh_int _ _
                  | exact noSh_str _
                  | with_reducible rfl
                  | with_reducible exact same_rfl
                  | (refine Wr.i64 ?_ ?_; omega)
                  | (refine Wr.u8 ?_ ?_; omega)
                  | (refine Wr.i32 ?_ ?_; omega)
                  | (with_reducible refine Br.tt ?_)
                  | (with_reducible refine Br.ff ?_)
                  | (refine Br.dT ?_ ?_; omega)
                  | (refine Br.dF ?_ ?_; omega)
                  | (refine Br.d (fun h => ?_) (fun h => ?_))
                  | (refine Br.swap ?_)
                  | (refine Br.bnot ?_)
                  | (refine Br.mk (fun h => Step.out ?_) (fun h => Step.out ?_))
                  | (refine Two.mk (Step.out ?_) (Step.out ?_))
                  | (refine Cp.mk fun q hq => Step.out ?_)
                  | (refine Ovl.mk (by assumption) (Step.out ?_))
                  | (refine CallOK.io1 (g := 14) (Step.out ?_))
                  | (refine CallOK.io1 (g := 43) (Step.out ?_))
                  | (refine CallOK.of_ct (Step.out ?_))
                  | (refine CallQ.of_ct (Step.out ?_))
                  | (refine Met.by (g := 14) (next_ct _ _) ?_; rintro q outs ⟨x, d, hx, rfl, rfl⟩)
                  | (refine Met.by (g := 43) (one_ct _ _) ?_; rintro q outs ⟨x, d, hx, rfl, rfl⟩)
                  | (refine Vc.mk ?_ (Step.out ?_))
                all_goals exact ⟨rfl, fun _ _ => rfl⟩
              · intro ⟨d, l, k⟩ ⟨ha, hb', hc⟩
                dsimp only at ha hb' hc ⊢
                have hlen := hc.n
                repeat' first
                  | (refine Step.mk ?_; conv => whnf)
                  | (refine Vc.om ?_ ?_; first | omega | with_reducible rfl | with_reducible exact same_rfl | (simp only [bytes_2, bytes_3, bytes_4, bytes_5, bytes_9, bytes_12, bytes_21, bytes_22, bytes_25, bytes_27, bytes_28, bytes_30, bytes_32, bytes_33, bytes_36, bytes_37, bytes_38, bytes_39, bytes_41, bytes_42, bytes_43, bytes_44, bytes_45, bytes_46, bytes_52, bytes_56, bytes_58, bytes_60, bytes_67, bytes_68, bytes_69, bytes_70, bytes_71, bytes_72, bytes_73, bytes_74, bytes_75, bytes_76, bytes_77, bytes_81, bytes_84, bytes_85, bytes_87, bytes_95, bytes_96, bytes_111, bytes_115, true_and, and_true] <;> omega))
                  | (refine NilB.mk fun b hb => Step.out ?_)
                  | with_reducible trivial
                  | exact noSh_bool _
                  | exact noSh_lit _
                  | exact noSh_int _ _
                  | exact noSh_str _
                  | with_reducible rfl
                  | with_reducible exact same_rfl
                  | (refine Wr.i64 ?_ ?_; omega)
                  | (refine Wr.u8 ?_ ?_; omega)
                  | (refine Wr.i32 ?_ ?_; omega)
                  | (with_reducible refine Br.tt ?_)
                  | (with_reducible refine Br.ff ?_)
                  | (refine Br.dT ?_ ?_; omega)
                  | (refine Br.dF ?_ ?_; omega)
                  | (refine Br.d (fun h => ?_) (fun h => ?_))
                  | (refine Br.swap ?_)
                  | (refine Br.bnot ?_)
                  | (refine Br.mk (fun h => Step.out ?_) (fun h => Step.out ?_))
                  | (refine Two.mk (Step.out ?_) (Step.out ?_))
                  | (refine Cp.mk fun q hq => Step.out ?_)
                  | (refine Ovl.mk (by assumption) (Step.out ?_))
                  | (refine CallOK.io1 (g := 14) (Step.out ?_))
                  | (refine CallOK.io1 (g := 43) (Step.out ?_))
                  | (refine CallOK.of_ct (Step.out ?_))
                  | (refine CallQ.of_ct (Step.out ?_))
                  | (refine Met.by (g := 14) (next_ct _ _) ?_; rintro q outs ⟨x, d, hx, rfl, rfl⟩)
                  | (refine Met.by (g := 43) (one_ct _ _) ?_; rintro q outs ⟨x, d, hx, rfl, rfl⟩)
                  | (refine Vc.mk ?_ (Step.out ?_))
                · rename_i a0 da ha0 b0 db hb0 c0 dc hc0 t0 dt ht0 e0 de he0
                  refine Again.by (d, l ++ [⟨⟨r, i⟩, ⟨s, k⟩, 1 + a0, 1 + b0, c0⟩] ++ [⟨⟨r, i⟩, ⟨s, k⟩, 1 + a0, 1 + b0 + (1 + e0), x⟩], k + 1) ⟨⟨by dsimp only; omega, by dsimp only; omega, hc.push2 (by omega) (by omega) (by omega) (by omega) (by omega) (by omega)⟩, by dsimp only; omega⟩ ?_
                  repeat' first
                    | (refine Step.mk ?_; conv => whnf)
                    | (refine Vc.om ?_ ?_; first | omega | with_reducible rfl | with_reducible exact same_rfl | (simp only [bytes_2, bytes_3, bytes_4, bytes_5, bytes_9, bytes_12, bytes_21, bytes_22, bytes_25, bytes_27, bytes_28, bytes_30, bytes_32, bytes_33, bytes_36, bytes_37, bytes_38, bytes_39, bytes_41, bytes_42, bytes_43, bytes_44, bytes_45, bytes_46, bytes_52, bytes_56, bytes_58, bytes_60, bytes_67, bytes_68, bytes_69, bytes_70, bytes_71, bytes_72, bytes_73, bytes_74, bytes_75, bytes_76, bytes_77, bytes_81, bytes_84, bytes_85, bytes_87, bytes_95, bytes_96, bytes_111, bytes_115, true_and, and_true] <;> omega))
                    | (refine NilB.mk fun b hb => Step.out ?_)
                    | with_reducible trivial
                    | exact noSh_bool _
                    | exact noSh_lit _
                    | exact noSh_int _ _
                    | exact noSh_str _
                    | with_reducible rfl
                    | with_reducible exact same_rfl
                    | (refine Wr.i64 ?_ ?_; omega)
                    | (refine Wr.u8 ?_ ?_; omega)
                    | (refine Wr.i32 ?_ ?_; omega)
                    | (with_reducible refine Br.tt ?_)
                    | (with_reducible refine Br.ff ?_)
                    | (refine Br.dT ?_ ?_; omega)
                    | (refine Br.dF ?_ ?_; omega)
                    | (refine Br.d (fun h => ?_) (fun h => ?_))
                    | (refine Br.swap ?_)
                    | (refine Br.bnot ?_)
                    | (refine Br.mk (fun h => Step.out ?_) (fun h => Step.out ?_))
                    | (refine Two.mk (Step.out ?_) (Step.out ?_))
                    | (refine Cp.mk fun q hq => Step.out ?_)
                    | (refine Ovl.mk (by assumption) (Step.out ?_))
                    | (refine CallOK.io1 (g := 14) (Step.out ?_))
                    | (refine CallOK.io1 (g := 43) (Step.out ?_))
                    | (refine CallOK.of_ct (Step.out ?_))
                    | (refine CallQ.of_ct (Step.out ?_))
                    | (refine Met.by (g := 14) (next_ct _ _) ?_; rintro q outs ⟨x, d, hx, rfl, rfl⟩)
                    | (refine Met.by (g := 43) (one_ct _ _) ?_; rintro q outs ⟨x, d, hx, rfl, rfl⟩)
                    | (refine Vc.mk ?_ (Step.out ?_))
                  exact app2 De.f De.z ite_de l _ _
                · rename_i a0 da ha0 b0 db hb0 c0 dc hc0 t0 dt ht0 e0 de he0
                  refine Again.by (d, l ++ [⟨⟨r, i⟩, ⟨s, k⟩, 1 + a0, 1 + b0, c0⟩] ++ [⟨⟨r, i⟩, ⟨s, k⟩, 1 + a0, 1 + b0 + (1 + e0), x⟩], k + 1) ⟨⟨by dsimp only; omega, by dsimp only; omega, hc.push2 (by omega) (by omega) (by omega) (by omega) (by omega) (by omega)⟩, by dsimp only; omega⟩ ?_
                  repeat' first
                    | (refine Step.mk ?_; conv => whnf)
                    | (refine Vc.om ?_ ?_; first | omega | with_reducible rfl | with_reducible exact same_rfl | (simp only [bytes_2, bytes_3, bytes_4, bytes_5, bytes_9, bytes_12, bytes_21, bytes_22, bytes_25, bytes_27, bytes_28, bytes_30, bytes_32, bytes_33, bytes_36, bytes_37, bytes_38, bytes_39, bytes_41, bytes_42, bytes_43, bytes_44, bytes_45, bytes_46, bytes_52, bytes_56, bytes_58, bytes_60, bytes_67, bytes_68, bytes_69, bytes_70, bytes_71, bytes_72, bytes_73, bytes_74, bytes_75, bytes_76, bytes_77, bytes_81, bytes_84, bytes_85, bytes_87, bytes_95, bytes_96, bytes_111, bytes_115, true_and, and_true] <;> omega))
                    | (refine NilB.mk fun b hb => Step.out ?_)
                    | with_reducible trivial
                    | exact noSh_bool _
                    | exact noSh_lit _
                    | exact noSh_int _ _
                    | exact noSh_str _
                    | with_reducible rfl
                    | with_reducible exact same_rfl
                    | (refine Wr.i64 ?_ ?_; omega)
                    | (refine Wr.u8 ?_ ?_; omega)
                    | (refine Wr.i32 ?_ ?_; omega)
                    | (with_reducible refine Br.tt ?_)
                    | (with_reducible refine Br.ff ?_)
                    | (refine Br.dT ?_ ?_; omega)
                    | (refine Br.dF ?_ ?_; omega)
                    | (refine Br.d (fun h => ?_) (fun h => ?_))
                    | (refine Br.swap ?_)
                    | (refine Br.bnot ?_)
                    | (refine Br.mk (fun h => Step.out ?_) (fun h => Step.out ?_))
                    | (refine Two.mk (Step.out ?_) (Step.out ?_))
                    | (refine Cp.mk fun q hq => Step.out ?_)
                    | (refine Ovl.mk (by assumption) (Step.out ?_))
                    | (refine CallOK.io1 (g := 14) (Step.out ?_))
                    | (refine CallOK.io1 (g := 43) (Step.out ?_))
                    | (refine CallOK.of_ct (Step.out ?_))
                    | (refine CallQ.of_ct (Step.out ?_))
                    | (refine Met.by (g := 14) (next_ct _ _) ?_; rintro q outs ⟨x, d, hx, rfl, rfl⟩)
                    | (refine Met.by (g := 43) (one_ct _ _) ?_; rintro q outs ⟨x, d, hx, rfl, rfl⟩)
                    | (refine Vc.mk ?_ (Step.out ?_))
                  exact app2 De.f De.z ite_de l _ _
                · rename_i a0 da ha0 b0 db hb0 c0 dc hc0
                  refine Again.by (d, l ++ [⟨⟨r, i⟩, ⟨s, k⟩, 1 + a0, 1 + b0, c0⟩], k + 1) ⟨⟨by dsimp only; omega, by dsimp only; omega, hc.push (by omega) (by omega) (by omega) (by omega) (by omega) (by omega)⟩, by dsimp only; omega⟩ ?_
                  repeat' first
                    | (refine Step.mk ?_; conv => whnf)
                    | (refine Vc.om ?_ ?_; first | omega | with_reducible rfl | with_reducible exact same_rfl | (simp only [bytes_2, bytes_3, bytes_4, bytes_5, bytes_9, bytes_12, bytes_21, bytes_22, bytes_25, bytes_27, bytes_28, bytes_30, bytes_32, bytes_33, bytes_36, bytes_37, bytes_38, bytes_39, bytes_41, bytes_42, bytes_43, bytes_44, bytes_45, bytes_46, bytes_52, bytes_56, bytes_58, bytes_60, bytes_67, bytes_68, bytes_69, bytes_70, bytes_71, bytes_72, bytes_73, bytes_74, bytes_75, bytes_76, bytes_77, bytes_81, bytes_84, bytes_85, bytes_87, bytes_95, bytes_96, bytes_111, bytes_115, true_and, and_true] <;> omega))
                    | (refine NilB.mk fun b hb => Step.out ?_)
                    | with_reducible trivial
                    | exact noSh_bool _
                    | exact noSh_lit _
                    | exact noSh_int _ _
                    | exact noSh_str _
                    | with_reducible rfl
                    | with_reducible exact same_rfl
                    | (refine Wr.i64 ?_ ?_; omega)
                    | (refine Wr.u8 ?_ ?_; omega)
                    | (refine Wr.i32 ?_ ?_; omega)
                    | (with_reducible refine Br.tt ?_)
                    | (with_reducible refine Br.ff ?_)
                    | (refine Br.dT ?_ ?_; omega)
                    | (refine Br.dF ?_ ?_; omega)
                    | (refine Br.d (fun h => ?_) (fun h => ?_))
                    | (refine Br.swap ?_)
                    | (refine Br.bnot ?_)
                    | (refine Br.mk (fun h => Step.out ?_) (fun h => Step.out ?_))
                    | (refine Two.mk (Step.out ?_) (Step.out ?_))
                    | (refine Cp.mk fun q hq => Step.out ?_)
                    | (refine Ovl.mk (by assumption) (Step.out ?_))
                    | (refine CallOK.io1 (g := 14) (Step.out ?_))
                    | (refine CallOK.io1 (g := 43) (Step.out ?_))
                    | (refine CallOK.of_ct (Step.out ?_))
                    | (refine CallQ.of_ct (Step.out ?_))
                    | (refine Met.by (g := 14) (next_ct _ _) ?_; rintro q outs ⟨x, d, hx, rfl, rfl⟩)
                    | (refine Met.by (g := 43) (one_ct _ _) ?_; rintro q outs ⟨x, d, hx, rfl, rfl⟩)
                    | (refine Vc.mk ?_ (Step.out ?_))
                  exact app1 De.f De.z ite_de l _
                · refine Again.by (d, l, k + 1) ⟨⟨by dsimp only; omega, by dsimp only; omega, hc.mono (by decide) (by dsimp only; omega) (by dsimp only; omega)⟩, by dsimp only; omega⟩ ?_
                  repeat' first
                    | (refine Step.mk ?_; conv => whnf)
                    | (refine Vc.om ?_ ?_; first | omega | with_reducible rfl | with_reducible exact same_rfl | (simp only [bytes_2, bytes_3, bytes_4, bytes_5, bytes_9, bytes_12, bytes_21, bytes_22, bytes_25, bytes_27, bytes_28, bytes_30, bytes_32, bytes_33, bytes_36, bytes_37, bytes_38, bytes_39, bytes_41, bytes_42, bytes_43, bytes_44, bytes_45, bytes_46, bytes_52, bytes_56, bytes_58, bytes_60, bytes_67, bytes_68, bytes_69, bytes_70, bytes_71, bytes_72, bytes_73, bytes_74, bytes_75, bytes_76, bytes_77, bytes_81, bytes_84, bytes_85, bytes_87, bytes_95, bytes_96, bytes_111, bytes_115, true_and, and_true] <;> omega))
                    | (refine NilB.mk fun b hb => Step.out ?_)
                    | with_reducible trivial
                    | exact noSh_bool _
                    | exact noSh_lit _
                    | exact noSh_int _ _
                    | exact noSh_str _
                    | with_reducible rfl
                    | with_reducible exact same_rfl
                    | (refine Wr.i64 ?_ ?_; omega)
                    | (refine Wr.u8 ?_ ?_; omega)
                    | (refine Wr.i32 ?_ ?_; omega)
                    | (with_reducible refine Br.tt ?_)
                    | (with_reducible refine Br.ff ?_)
                    | (refine Br.dT ?_ ?_; omega)
                    | (refine Br.dF ?_ ?_; omega)
                    | (refine Br.d (fun h => ?_) (fun h => ?_))
                    | (refine Br.swap ?_)
                    | (refine Br.bnot ?_)
                    | (refine Br.mk (fun h => Step.out ?_) (fun h => Step.out ?_))
                    | (refine Two.mk (Step.out ?_) (Step.out ?_))
                    | (refine Cp.mk fun q hq => Step.out ?_)
                    | (refine Ovl.mk (by assumption) (Step.out ?_))
                    | (refine CallOK.io1 (g := 14) (Step.out ?_))
                    | (refine CallOK.io1 (g := 43) (Step.out ?_))
                    | (refine CallOK.of_ct (Step.out ?_))
                    | (refine CallQ.of_ct (Step.out ?_))
                    | (refine Met.by (g := 14) (next_ct _ _) ?_; rintro q outs ⟨x, d, hx, rfl, rfl⟩)
                    | (refine Met.by (g := 43) (one_ct _ _) ?_; rintro q outs ⟨x, d, hx, rfl, rfl⟩)
                    | (refine Vc.mk ?_ (Step.out ?_))
                  all_goals exact ⟨rfl, fun _ _ => rfl⟩
                · refine Again.by (d, l, s + 1) ⟨⟨by dsimp only; omega, by dsimp only; omega, hc.mono (by decide) (by dsimp only; omega) (by dsimp only; omega)⟩, by dsimp only; omega⟩ ?_
                  repeat' first
                    | (refine Step.mk ?_; conv => whnf)
                    | (refine Vc.om ?_ ?_; first | omega | with_reducible rfl | with_reducible exact same_rfl | (simp only [bytes_2, bytes_3, bytes_4, bytes_5, bytes_9, bytes_12, bytes_21, bytes_22, bytes_25, bytes_27, bytes_28, bytes_30, bytes_32, bytes_33, bytes_36, bytes_37, bytes_38, bytes_39, bytes_41, bytes_42, bytes_43, bytes_44, bytes_45, bytes_46, bytes_52, bytes_56, bytes_58, bytes_60, bytes_67, bytes_68, bytes_69, bytes_70, bytes_71, bytes_72, bytes_73, bytes_74, bytes_75, bytes_76, bytes_77, bytes_81, bytes_84, bytes_85, bytes_87, bytes_95, bytes_96, bytes_111, bytes_115, true_and, and_true] <;> omega))
                    | (refine NilB.mk fun b hb => Step.out ?_)
                    | with_reducible trivial
                    | exact noSh_bool _
                    | exact noSh_lit _
                    | exact noSh_int _ _
                    | exact noSh_str _
                    | with_reducible rfl
                    | with_reducible exact same_rfl
                    | (refine Wr.i64 ?_ ?_; omega)
                    | (refine Wr.u8 ?_ ?_; omega)
                    | (refine Wr.i32 ?_ ?_; omega)
                    | (with_reducible refine Br.tt ?_)
                    | (with_reducible refine Br.ff ?_)
                    | (refine Br.dT ?_ ?_; omega)
                    | (refine Br.dF ?_ ?_; omega)
                    | (refine Br.d (fun h => ?_) (fun h => ?_))
                    | (refine Br.swap ?_)
                    | (refine Br.bnot ?_)
                    | (refine Br.mk (fun h => Step.out ?_) (fun h => Step.out ?_))
                    | (refine Two.mk (Step.out ?_) (Step.out ?_))
                    | (refine Cp.mk fun q hq => Step.out ?_)
                    | (refine Ovl.mk (by assumption) (Step.out ?_))
                    | (refine CallOK.io1 (g := 14) (Step.out ?_))
                    | (refine CallOK.io1 (g := 43) (Step.out ?_))
                    | (refine CallOK.of_ct (Step.out ?_))
                    | (refine CallQ.of_ct (Step.out ?_))
                    | (refine Met.by (g := 14) (next_ct _ _) ?_; rintro q outs ⟨x, d, hx, rfl, rfl⟩)
                    | (refine Met.by (g := 43) (one_ct _ _) ?_; rintro q outs ⟨x, d, hx, rfl, rfl⟩)
                    | (refine Vc.mk ?_ (Step.out ?_))
                  all_goals exact ⟨rfl, fun _ _ => rfl⟩
            · refine Again.by (d, l, i + 1) ⟨⟨by dsimp only; omega, by dsimp only; omega, h9.mono (by decide) (by dsimp only; omega) (by dsimp only; omega)⟩, by dsimp only; omega⟩ ?_
              repeat' first
                | (refine Step.mk ?_; conv => whnf)
                | (refine Vc.om ?_ ?_; first | omega | with_reducible rfl | with_reducible exact same_rfl | (simp only [bytes_2, bytes_3, bytes_4, bytes_5, bytes_9, bytes_12, bytes_21, bytes_22, bytes_25, bytes_27, bytes_28, bytes_30, bytes_32, bytes_33, bytes_36, bytes_37, bytes_38, bytes_39, bytes_41, bytes_42, bytes_43, bytes_44, bytes_45, bytes_46, bytes_52, bytes_56, bytes_58, bytes_60, bytes_67, bytes_68, bytes_69, bytes_70, bytes_71, bytes_72, bytes_73, bytes_74, bytes_75, bytes_76, bytes_77, bytes_81, bytes_84, bytes_85, bytes_87, bytes_95, bytes_96, bytes_111, bytes_115, true_and, and_true] <;> omega))
                | (refine NilB.mk fun b hb => Step.out ?_)
                | with_reducible trivial
                | exact noSh_bool _
                | exact noSh_lit _
                | exact noSh_int _ _
                | exact noSh_str _
                | with_reducible rfl
                | with_reducible exact same_rfl
                | (refine Wr.i64 ?_ ?_; omega)
                | (refine Wr.u8 ?_ ?_; omega)
                | (refine Wr.i32 ?_ ?_; omega)
                | (with_reducible refine Br.tt ?_)
                | (with_reducible refine Br.ff ?_)
                | (refine Br.dT ?_ ?_; omega)
                | (refine Br.dF ?_ ?_; omega)
                | (refine Br.d (fun h => ?_) (fun h => ?_))
                | (refine Br.swap ?_)
                | (refine Br.bnot ?_)
                | (refine Br.mk (fun h => Step.out ?_) (fun h => Step.out ?_))
                | (refine Two.mk (Step.out ?_) (Step.out ?_))
                | (refine Cp.mk fun q hq => Step.out ?_)
                | (refine Ovl.mk (by assumption) (Step.out ?_))
                | (refine CallOK.io1 (g := 14) (Step.out ?_))
                | (refine CallOK.io1 (g := 43) (Step.out ?_))
                | (refine CallOK.of_ct (Step.out ?_))
                | (refine CallQ.of_ct (Step.out ?_))
                | (refine Met.by (g := 14) (next_ct _ _) ?_; rintro q outs ⟨x, d, hx, rfl, rfl⟩)
                | (refine Met.by (g := 43) (one_ct _ _) ?_; rintro q outs ⟨x, d, hx, rfl, rfl⟩)
                | (refine Vc.mk ?_ (Step.out ?_))
              all_goals exact ⟨rfl, fun _ _ => rfl⟩
        · refine Again.by (d, l, r + 1) ⟨⟨by dsimp only; omega, by dsimp only; omega, h6.mono (by decide) (by dsimp only; omega) (by dsimp only; omega)⟩, by dsimp only; omega⟩ ?_
          repeat' first
            | (refine Step.mk ?_; conv => whnf)
            | (refine Vc.om ?_ ?_; first | omega | with_reducible rfl | with_reducible exact same_rfl | (simp only [bytes_2, bytes_3, bytes_4, bytes_5, bytes_9, bytes_12, bytes_21, bytes_22, bytes_25, bytes_27, bytes_28, bytes_30, bytes_32, bytes_33, bytes_36, bytes_37, bytes_38, bytes_39, bytes_41, bytes_42, bytes_43, bytes_44, bytes_45, bytes_46, bytes_52, bytes_56, bytes_58, bytes_60, bytes_67, bytes_68, bytes_69, bytes_70, bytes_71, bytes_72, bytes_73, bytes_74, bytes_75, bytes_76, bytes_77, bytes_81, bytes_84, bytes_85, bytes_87, bytes_95, bytes_96, bytes_111, bytes_115, true_and, and_true] <;> omega))
            | (refine NilB.mk fun b hb => Step.out ?_)
            | with_reducible trivial
            | exact noSh_bool _
            | exact noSh_lit _
            | exact noSh_int _ _
            | exact noSh_str _
            | with_reducible rfl
            | with_reducible exact same_rfl
            | (refine Wr.i64 ?_ ?_; omega)
            | (refine Wr.u8 ?_ ?_; omega)
            | (refine Wr.i32 ?_ ?_; omega)
            | (with_reducible refine Br.tt ?_)
            | (with_reducible refine Br.ff ?_)
            | (refine Br.dT ?_ ?_; omega)
            | (refine Br.dF ?_ ?_; omega)
            | (refine Br.d (fun h => ?_) (fun h => ?_))
            | (refine Br.swap ?_)
            | (refine Br.bnot ?_)
            | (refine Br.mk (fun h => Step.out ?_) (fun h => Step.out ?_))
            | (refine Two.mk (Step.out ?_) (Step.out ?_))
            | (refine Cp.mk fun q hq => Step.out ?_)
            | (refine Ovl.mk (by assumption) (Step.out ?_))
            | (refine CallOK.io1 (g := 14) (Step.out ?_))
            | (refine CallOK.io1 (g := 43) (Step.out ?_))
            | (refine CallOK.of_ct (Step.out ?_))
            | (refine CallQ.of_ct (Step.out ?_))
            | (refine Met.by (g := 14) (next_ct _ _) ?_; rintro q outs ⟨x, d, hx, rfl, rfl⟩)
            | (refine Met.by (g := 43) (one_ct _ _) ?_; rintro q outs ⟨x, d, hx, rfl, rfl⟩)
            | (refine Vc.mk ?_ (Step.out ?_))
          all_goals exact ⟨rfl, fun _ _ => rfl⟩
    · refine Lf2.by l d (h3.mono (by decide) (by omega) (by omega)) ?_
      repeat' first
        | (refine Step.mk ?_; conv => whnf)
        | (refine Vc.om ?_ ?_; first | omega | with_reducible rfl | with_reducible exact same_rfl | (simp only [bytes_2, bytes_3, bytes_4, bytes_5, bytes_9, bytes_12, bytes_21, bytes_22, bytes_25, bytes_27, bytes_28, bytes_30, bytes_32, bytes_33, bytes_36, bytes_37, bytes_38, bytes_39, bytes_41, bytes_42, bytes_43, bytes_44, bytes_45, bytes_46, bytes_52, bytes_56, bytes_58, bytes_60, bytes_67, bytes_68, bytes_69, bytes_70, bytes_71, bytes_72, bytes_73, bytes_74, bytes_75, bytes_76, bytes_77, bytes_81, bytes_84, bytes_85, bytes_87, bytes_95, bytes_96, bytes_111, bytes_115, true_and, and_true] <;> omega))
        | (refine NilB.mk fun b hb => Step.out ?_)
        | with_reducible trivial
        | exact noSh_bool _
        | exact noSh_lit _
        | exact noSh_int _ _
        | exact noSh_str _
        | with_reducible rfl
        | with_reducible exact same_rfl
        | (refine Wr.i64 ?_ ?_; omega)
        | (refine Wr.u8 ?_ ?_; omega)
        | (refine Wr.i32 ?_ ?_; omega)
        | (with_reducible refine Br.tt ?_)
        | (with_reducible refine Br.ff ?_)
        | (refine Br.dT ?_ ?_; omega)
        | (refine Br.dF ?_ ?_; omega)
        | (refine Br.d (fun h => ?_) (fun h => ?_))
        | (refine Br.swap ?_)
        | (refine Br.bnot ?_)
        | (refine Br.mk (fun h => Step.out ?_) (fun h => Step.out ?_))
        | (refine Two.mk (Step.out ?_) (Step.out ?_))
        | (refine Cp.mk fun q hq => Step.out ?_)
        | (refine Ovl.mk (by assumption) (Step.out ?_))
        | (refine CallOK.io1 (g := 14) (Step.out ?_))
        | (refine CallOK.io1 (g := 43) (Step.out ?_))
        | (refine CallOK.of_ct (Step.out ?_))
        | (refine CallQ.of_ct (Step.out ?_))
        | (refine Met.by (g := 14) (next_ct _ _) ?_; rintro q outs ⟨x, d, hx, rfl, rfl⟩)
        | (refine Met.by (g := 43) (one_ct _ _) ?_; rintro q outs ⟨x, d, hx, rfl, rfl⟩)
        | (refine Vc.mk ?_ (Step.out ?_))
      all_goals exact ⟨rfl, fun _ _ => rfl⟩
end Kx
