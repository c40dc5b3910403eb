/-
  Rules of names: which are valid.
  No condition beyond those written in each theorem.
-/
import Derived.Test.YthokblligmllfaaDoorKNa
open Go Sx Go.Proofs
set_option linter.unusedSimpArgs false
set_option linter.unusedVariables false
namespace Kx
theorem titles_ct (l : List Str) (hl : l.length ≤ 1000000000) : Ct Tryd.prog 55 [strs l] fun r outs => r = .bool (titlesB l) ∧ outs = [] := by
  refine .det (.of_W (fn := Tryd.f55) hΓ hm Tryd.func55 [] [] (by kernel_rfl) (Step.out ?_))
  repeat' first
    | (refine Step.mk ?_; conv => whnf)
    | (refine Vc.om ?_ ?_; first | omega | with_reducible rfl | with_reducible exact same_rfl | (simp only [bytes_2, bytes_3, bytes_4, bytes_5, bytes_9, bytes_12, bytes_21, bytes_22, bytes_25, bytes_27, bytes_28, bytes_29, bytes_30, bytes_34, bytes_45, bytes_49, bytes_50, bytes_51, bytes_52, bytes_53, bytes_54, bytes_64, bytes_67, bytes_68, bytes_73, bytes_75, bytes_76, bytes_77, bytes_92, bytes_93, bytes_94, bytes_95, bytes_98, bytes_102, bytes_112, bytes_123, bytes_129]; omega))
    | (refine NilB.mk fun b hb => Step.out ?_)
    | with_reducible trivial
    | exact noSh_bool _
    | exact noSh_lit _
    | exact noSh_int _ _
    | exact noSh_str _
    | with_reducible rfl
    | with_reducible exact same_rfl
    | (refine Wr.i64 ?_ ?_; omega)
    | (refine Wr.u8 ?_ ?_; omega)
    | (refine Wr.i32 ?_ ?_; omega)
    | (with_reducible refine Br.tt ?_)
    | (with_reducible refine Br.ff ?_)
    | (refine Br.dT ?_ ?_; omega)
    | (refine Br.dF ?_ ?_; omega)
    | (refine Br.d (fun h => ?_) (fun h => ?_))
    | (refine Br.swap ?_)
    | (refine Br.bnot ?_)
    | (refine Br.mk (fun h => Step.out ?_) (fun h => Step.out ?_))
    | (refine Two.mk (Step.out ?_) (Step.out ?_))
    | (refine CallOK.of_ct (Step.out ?_))
    | (refine Met.by (g := 79) (nm_token_ct _) ?_; rintro q outs ⟨rfl, rfl⟩)
    | (refine Vc.mk ?_ (Step.out ?_))
  refine CodeOK.loopW hΓ hm [] [] (by kernel_rfl) (α := Nat) (fun i => [(0, strs l), (5, strs l), (6, i64 l.length), (7, i64 i)]) (fun i => []) 0 (fun i => i ≤ l.length ∧ titlesB l = ((List.range l.length).drop i).all (tAt l)) (fun i => l.length - i) ?_ ?_
  · refine Again.by 0 ⟨Nat.zero_le _, rfl⟩ ?_
    repeat' first
      | (refine Step.mk ?_; conv => whnf)
      | (refine Vc.om ?_ ?_; first | omega | with_reducible rfl | with_reducible exact same_rfl | (simp only [bytes_2, bytes_3, bytes_4, bytes_5, bytes_9, bytes_12, bytes_21, bytes_22, bytes_25, bytes_27, bytes_28, bytes_29, bytes_30, bytes_34, bytes_45, bytes_49, bytes_50, bytes_51, bytes_52, bytes_53, bytes_54, bytes_64, bytes_67, bytes_68, bytes_73, bytes_75, bytes_76, bytes_77, bytes_92, bytes_93, bytes_94, bytes_95, bytes_98, bytes_102, bytes_112, bytes_123, bytes_129]; omega))
      | (refine NilB.mk fun b hb => Step.out ?_)
      | with_reducible trivial
      | exact noSh_bool _
      | exact noSh_lit _
      | exact noSh_int _ _
      | exact noSh_str _
      | with_reducible rfl
      | with_reducible exact same_rfl
      | (refine Wr.i64 ?_ ?_; omega)
      | (refine Wr.u8 ?_ ?_; omega)
      | (refine Wr.i32 ?_ ?_; omega)
      | (with_reducible refine Br.tt ?_)
      | (with_reducible refine Br.ff ?_)
      | (refine Br.dT ?_ ?_; omega)
      | (refine Br.dF ?_ ?_; omega)
      | (refine Br.d (fun h => ?_) (fun h => ?_))
      | (refine Br.swap ?_)
      | (refine Br.bnot ?_)
      | (refine Br.mk (fun h => Step.out ?_) (fun h => Step.out ?_))
      | (refine Two.mk (Step.out ?_) (Step.out ?_))
      | (refine CallOK.of_ct (Step.out ?_))
      | (refine Met.by (g := 79) (nm_token_ct _) ?_; rintro q outs ⟨rfl, rfl⟩)
      | (refine Vc.mk ?_ (Step.out ?_))
  · intro i ⟨hi, hv⟩
    have hst := fun h : i < l.length => range_step (tAt l) h
    have e : ((i : Int) - 1).toNat = i - 1 := by omega
    repeat' first
      | (refine Step.mk ?_; conv => whnf)
      | (refine Vc.om ?_ ?_; first | omega | with_reducible rfl | with_reducible exact same_rfl | (simp only [bytes_2, bytes_3, bytes_4, bytes_5, bytes_9, bytes_12, bytes_21, bytes_22, bytes_25, bytes_27, bytes_28, bytes_29, bytes_30, bytes_34, bytes_45, bytes_49, bytes_50, bytes_51, bytes_52, bytes_53, bytes_54, bytes_64, bytes_67, bytes_68, bytes_73, bytes_75, bytes_76, bytes_77, bytes_92, bytes_93, bytes_94, bytes_95, bytes_98, bytes_102, bytes_112, bytes_123, bytes_129]; omega))
      | (refine NilB.mk fun b hb => Step.out ?_)
      | with_reducible trivial
      | exact noSh_bool _
      | exact noSh_lit _
      | exact noSh_int _ _
      | exact noSh_str _
      | with_reducible rfl
      | with_reducible exact same_rfl
      | (refine Wr.i64 ?_ ?_; omega)
      | (refine Wr.u8 ?_ ?_; omega)
      | (refine Wr.i32 ?_ ?_; omega)
      | (with_reducible refine Br.tt ?_)
      | (with_reducible refine Br.ff ?_)
      | (refine Br.dT ?_ ?_; omega)
      | (refine Br.dF ?_ ?_; omega)
      | (refine Br.d (fun h => ?_) (fun h => ?_))
      | (refine Br.swap ?_)
      | (refine Br.bnot ?_)
      | (refine Br.mk (fun h => Step.out ?_) (fun h => Step.out ?_))
      | (refine Two.mk (Step.out ?_) (Step.out ?_))
      | (refine CallOK.of_ct (Step.out ?_))
      | (refine Met.by (g := 79) (nm_token_ct _) ?_; rintro q outs ⟨rfl, rfl⟩)
      | (refine Vc.mk ?_ (Step.out ?_))
    all_goals try simp only [Int.toNat_natCast, e] at *
    · refine Again.by (i + 1) ⟨⟨by omega, by rw [hv, hst (by omega), show tAt l i = true by simp [-List.getD_eq_getElem?_getD, tAt, less, *], Bool.true_and]⟩, by omega⟩ ?_
      repeat' first
        | (refine Step.mk ?_; conv => whnf)
        | (refine Vc.om ?_ ?_; first | omega | with_reducible rfl | with_reducible exact same_rfl | (simp only [bytes_2, bytes_3, bytes_4, bytes_5, bytes_9, bytes_12, bytes_21, bytes_22, bytes_25, bytes_27, bytes_28, bytes_29, bytes_30, bytes_34, bytes_45, bytes_49, bytes_50, bytes_51, bytes_52, bytes_53, bytes_54, bytes_64, bytes_67, bytes_68, bytes_73, bytes_75, bytes_76, bytes_77, bytes_92, bytes_93, bytes_94, bytes_95, bytes_98, bytes_102, bytes_112, bytes_123, bytes_129]; omega))
        | (refine NilB.mk fun b hb => Step.out ?_)
        | with_reducible trivial
        | exact noSh_bool _
        | exact noSh_lit _
        | exact noSh_int _ _
        | exact noSh_str _
        | with_reducible rfl
        | with_reducible exact same_rfl
        | (refine Wr.i64 ?_ ?_; omega)
        | (refine Wr.u8 ?_ ?_; omega)
        | (refine Wr.i32 ?_ ?_; omega)
        | (with_reducible refine Br.tt ?_)
        | (with_reducible refine Br.ff ?_)
        | (refine Br.dT ?_ ?_; omega)
        | (refine Br.dF ?_ ?_; omega)
        | (refine Br.d (fun h => ?_) (fun h => ?_))
        | (refine Br.swap ?_)
        | (refine Br.bnot ?_)
        | (refine Br.mk (fun h => Step.out ?_) (fun h => Step.out ?_))
        | (refine Two.mk (Step.out ?_) (Step.out ?_))
        | (refine CallOK.of_ct (Step.out ?_))
        | (refine Met.by (g := 79) (nm_token_ct _) ?_; rintro q outs ⟨rfl, rfl⟩)
        | (refine Vc.mk ?_ (Step.out ?_))
    · rw [hv, hst (by omega), show tAt l i = false by simp [-List.getD_eq_getElem?_getD, tAt, less, *]; omega]; rfl
    · have h0 : i = 0 := by omega
      refine Again.by (i + 1) ⟨⟨by omega, by rw [hv, hst (by omega), show tAt l i = true by subst h0; simp [-List.getD_eq_getElem?_getD, tAt, less, *], Bool.true_and]⟩, by omega⟩ ?_
      repeat' first
        | (refine Step.mk ?_; conv => whnf)
        | (refine Vc.om ?_ ?_; first | omega | with_reducible rfl | with_reducible exact same_rfl | (simp only [bytes_2, bytes_3, bytes_4, bytes_5, bytes_9, bytes_12, bytes_21, bytes_22, bytes_25, bytes_27, bytes_28, bytes_29, bytes_30, bytes_34, bytes_45, bytes_49, bytes_50, bytes_51, bytes_52, bytes_53, bytes_54, bytes_64, bytes_67, bytes_68, bytes_73, bytes_75, bytes_76, bytes_77, bytes_92, bytes_93, bytes_94, bytes_95, bytes_98, bytes_102, bytes_112, bytes_123, bytes_129]; omega))
        | (refine NilB.mk fun b hb => Step.out ?_)
        | with_reducible trivial
        | exact noSh_bool _
        | exact noSh_lit _
        | exact noSh_int _ _
        | exact noSh_str _
        | with_reducible rfl
        | with_reducible exact same_rfl
        | (refine Wr.i64 ?_ ?_; omega)
        | (refine Wr.u8 ?_ ?_; omega)
        | (refine Wr.i32 ?_ ?_; omega)
        | (with_reducible refine Br.tt ?_)
        | (with_reducible refine Br.ff ?_)
        | (refine Br.dT ?_ ?_; omega)
        | (refine Br.dF ?_ ?_; omega)
        | (refine Br.d (fun h => ?_) (fun h => ?_))
        | (refine Br.swap ?_)
        | (refine Br.bnot ?_)
        | (refine Br.mk (fun h => Step.out ?_) (fun h => Step.out ?_))
        | (refine Two.mk (Step.out ?_) (Step.out ?_))
        | (refine CallOK.of_ct (Step.out ?_))
        | (refine Met.by (g := 79) (nm_token_ct _) ?_; rintro q outs ⟨rfl, rfl⟩)
        | (refine Vc.mk ?_ (Step.out ?_))
    · rw [hv, hst (by omega), show tAt l i = false by simp [-List.getD_eq_getElem?_getD, tAt, less, *]]; rfl
    · rw [hv, show i = l.length by omega, range_end]
theorem npairs_ct (l : List Pr) (hl : l.length ≤ 1000000000) : Ct Tryd.prog 56 [prs l] fun r outs => r = .bool (pairsB l) ∧ outs = [] := by
  refine .det (.of_W (fn := Tryd.f56) hΓ hm Tryd.func56 ord56 [] (by kernel_rfl) (Step.out ?_))
  repeat' first
    | (refine Step.mk ?_; conv => whnf)
    | (refine Vc.om ?_ ?_; first | omega | with_reducible rfl | with_reducible exact same_rfl | (simp only [bytes_2, bytes_3, bytes_4, bytes_5, bytes_9, bytes_12, bytes_21, bytes_22, bytes_25, bytes_27, bytes_28, bytes_29, bytes_30, bytes_34, bytes_45, bytes_49, bytes_50, bytes_51, bytes_52, bytes_53, bytes_54, bytes_64, bytes_67, bytes_68, bytes_73, bytes_75, bytes_76, bytes_77, bytes_92, bytes_93, bytes_94, bytes_95, bytes_98, bytes_102, bytes_112, bytes_123, bytes_129]; omega))
    | (refine NilB.mk fun b hb => Step.out ?_)
    | with_reducible trivial
    | exact noSh_bool _
    | exact noSh_lit _
    | exact noSh_int _ _
    | exact noSh_str _
    | with_reducible rfl
    | with_reducible exact same_rfl
    | (refine Wr.i64 ?_ ?_; omega)
    | (refine Wr.u8 ?_ ?_; omega)
    | (refine Wr.i32 ?_ ?_; omega)
    | (with_reducible refine Br.tt ?_)
    | (with_reducible refine Br.ff ?_)
    | (refine Br.dT ?_ ?_; omega)
    | (refine Br.dF ?_ ?_; omega)
    | (refine Br.d (fun h => ?_) (fun h => ?_))
    | (refine Br.swap ?_)
    | (refine Br.bnot ?_)
    | (refine Br.mk (fun h => Step.out ?_) (fun h => Step.out ?_))
    | (refine Two.mk (Step.out ?_) (Step.out ?_))
    | (refine CallOK.of_ct (Step.out ?_))
    | (refine Met.by (g := 79) (nm_token_ct _) ?_; rintro q outs ⟨rfl, rfl⟩)
    | (refine Met.by (g := 80) (find_ct _ _ (by first | omega | decide | (simp; done) | (simp; omega))) ?_; rintro q outs ⟨rfl, rfl⟩)
    | (refine Vc.mk ?_ (Step.out ?_))
  refine CodeOK.loopW hΓ hm ord56 [] (by kernel_rfl) (α := Nat) (fun i => [(0, prs l), (5, prs l), (6, i64 l.length), (7, i64 i)]) (fun i => []) 0 (fun i => i ≤ l.length ∧ pairsB l = ((List.range l.length).drop i).all (pAt l)) (fun i => l.length - i) ?_ ?_
  · refine Again.by 0 ⟨Nat.zero_le _, rfl⟩ ?_
    repeat' first
      | (refine Step.mk ?_; conv => whnf)
      | (refine Vc.om ?_ ?_; first | omega | with_reducible rfl | with_reducible exact same_rfl | (simp only [bytes_2, bytes_3, bytes_4, bytes_5, bytes_9, bytes_12, bytes_21, bytes_22, bytes_25, bytes_27, bytes_28, bytes_29, bytes_30, bytes_34, bytes_45, bytes_49, bytes_50, bytes_51, bytes_52, bytes_53, bytes_54, bytes_64, bytes_67, bytes_68, bytes_73, bytes_75, bytes_76, bytes_77, bytes_92, bytes_93, bytes_94, bytes_95, bytes_98, bytes_102, bytes_112, bytes_123, bytes_129]; omega))
      | (refine NilB.mk fun b hb => Step.out ?_)
      | with_reducible trivial
      | exact noSh_bool _
      | exact noSh_lit _
      | exact noSh_int _ _
      | exact noSh_str _
      | with_reducible rfl
      | with_reducible exact same_rfl
      | (refine Wr.i64 ?_ ?_; omega)
      | (refine Wr.u8 ?_ ?_; omega)
      | (refine Wr.i32 ?_ ?_; omega)
      | (with_reducible refine Br.tt ?_)
      | (with_reducible refine Br.ff ?_)
      | (refine Br.dT ?_ ?_; omega)
      | (refine Br.dF ?_ ?_; omega)
      | (refine Br.d (fun h => ?_) (fun h => ?_))
      | (refine Br.swap ?_)
      | (refine Br.bnot ?_)
      | (refine Br.mk (fun h => Step.out ?_) (fun h => Step.out ?_))
      | (refine Two.mk (Step.out ?_) (Step.out ?_))
      | (refine CallOK.of_ct (Step.out ?_))
      | (refine Met.by (g := 79) (nm_token_ct _) ?_; rintro q outs ⟨rfl, rfl⟩)
      | (refine Met.by (g := 80) (find_ct _ _ (by first | omega | decide | (simp; done) | (simp; omega))) ?_; rintro q outs ⟨rfl, rfl⟩)
      | (refine Vc.mk ?_ (Step.out ?_))
  · intro i ⟨hi, hv⟩
    have hst := fun h : i < l.length => range_step (pAt l) h
    have e : ((i : Int) - 1).toNat = i - 1 := by omega
    have hf := find_idx l (pGet l i).2
    repeat' first
      | (refine Step.mk ?_; conv => whnf)
      | (refine Vc.om ?_ ?_; first | omega | with_reducible rfl | with_reducible exact same_rfl | (simp only [bytes_2, bytes_3, bytes_4, bytes_5, bytes_9, bytes_12, bytes_21, bytes_22, bytes_25, bytes_27, bytes_28, bytes_29, bytes_30, bytes_34, bytes_45, bytes_49, bytes_50, bytes_51, bytes_52, bytes_53, bytes_54, bytes_64, bytes_67, bytes_68, bytes_73, bytes_75, bytes_76, bytes_77, bytes_92, bytes_93, bytes_94, bytes_95, bytes_98, bytes_102, bytes_112, bytes_123, bytes_129]; omega))
      | (refine NilB.mk fun b hb => Step.out ?_)
      | with_reducible trivial
      | exact noSh_bool _
      | exact noSh_lit _
      | exact noSh_int _ _
      | exact noSh_str _
      | with_reducible rfl
      | with_reducible exact same_rfl
      | (refine Wr.i64 ?_ ?_; omega)
      | (refine Wr.u8 ?_ ?_; omega)
      | (refine Wr.i32 ?_ ?_; omega)
      | (with_reducible refine Br.tt ?_)
      | (with_reducible refine Br.ff ?_)
      | (refine Br.dT ?_ ?_; omega)
      | (refine Br.dF ?_ ?_; omega)
      | (refine Br.d (fun h => ?_) (fun h => ?_))
      | (refine Br.swap ?_)
      | (refine Br.bnot ?_)
      | (refine Br.mk (fun h => Step.out ?_) (fun h => Step.out ?_))
      | (refine Two.mk (Step.out ?_) (Step.out ?_))
      | (refine CallOK.of_ct (Step.out ?_))
      | (refine Met.by (g := 79) (nm_token_ct _) ?_; rintro q outs ⟨rfl, rfl⟩)
      | (refine Met.by (g := 80) (find_ct _ _ (by first | omega | decide | (simp; done) | (simp; omega))) ?_; rintro q outs ⟨rfl, rfl⟩)
      | (refine Vc.mk ?_ (Step.out ?_))
    all_goals try simp only [Int.toNat_natCast, e] at *
    · rw [hv, hst (by omega), show pAt l i = false by rw [pAt, ← hf, decide_eq_true ‹0 ≤ idxF _ l›]; simp]; rfl
    · refine Again.by (i + 1) ⟨⟨by omega, by rw [hv, hst (by omega), show pAt l i = true by rw [pAt, ← hf, decide_eq_false ‹¬0 ≤ idxF _ l›]; simp [-List.getD_eq_getElem?_getD, less, *], Bool.true_and]⟩, by omega⟩ ?_
      repeat' first
        | (refine Step.mk ?_; conv => whnf)
        | (refine Vc.om ?_ ?_; first | omega | with_reducible rfl | with_reducible exact same_rfl | (simp only [bytes_2, bytes_3, bytes_4, bytes_5, bytes_9, bytes_12, bytes_21, bytes_22, bytes_25, bytes_27, bytes_28, bytes_29, bytes_30, bytes_34, bytes_45, bytes_49, bytes_50, bytes_51, bytes_52, bytes_53, bytes_54, bytes_64, bytes_67, bytes_68, bytes_73, bytes_75, bytes_76, bytes_77, bytes_92, bytes_93, bytes_94, bytes_95, bytes_98, bytes_102, bytes_112, bytes_123, bytes_129]; omega))
        | (refine NilB.mk fun b hb => Step.out ?_)
        | with_reducible trivial
        | exact noSh_bool _
        | exact noSh_lit _
        | exact noSh_int _ _
        | exact noSh_str _
        | with_reducible rfl
        | with_reducible exact same_rfl
        | (refine Wr.i64 ?_ ?_; omega)
        | (refine Wr.u8 ?_ ?_; omega)
        | (refine Wr.i32 ?_ ?_; omega)
        | (with_reducible refine Br.tt ?_)
        | (with_reducible refine Br.ff ?_)
        | (refine Br.dT ?_ ?_; omega)
        | (refine Br.dF ?_ ?_; omega)
        | (refine Br.d (fun h => ?_) (fun h => ?_))
        | (refine Br.swap ?_)
        | (refine Br.bnot ?_)
        | (refine Br.mk (fun h => Step.out ?_) (fun h => Step.out ?_))
        | (refine Two.mk (Step.out ?_) (Step.out ?_))
        | (refine CallOK.of_ct (Step.out ?_))
        | (refine Met.by (g := 79) (nm_token_ct _) ?_; rintro q outs ⟨rfl, rfl⟩)
        | (refine Met.by (g := 80) (find_ct _ _ (by first | omega | decide | (simp; done) | (simp; omega))) ?_; rintro q outs ⟨rfl, rfl⟩)
        | (refine Vc.mk ?_ (Step.out ?_))
    · rw [hv, hst (by omega), show pAt l i = false by (have h0 : ¬i = 0 := by omega); simp [-List.getD_eq_getElem?_getD, pAt, less, *]]; rfl
    · rw [hv, hst (by omega), show pAt l i = false by rw [pAt, ← hf, decide_eq_true ‹0 ≤ idxF _ l›]; simp]; rfl
    · have h0 : i = 0 := by omega
      refine Again.by (i + 1) ⟨⟨by omega, by rw [hv, hst (by omega), show pAt l i = true by subst h0; rw [pAt, ← hf, decide_eq_false ‹¬0 ≤ idxF _ l›]; simp [-List.getD_eq_getElem?_getD, less, *], Bool.true_and]⟩, by omega⟩ ?_
      repeat' first
        | (refine Step.mk ?_; conv => whnf)
        | (refine Vc.om ?_ ?_; first | omega | with_reducible rfl | with_reducible exact same_rfl | (simp only [bytes_2, bytes_3, bytes_4, bytes_5, bytes_9, bytes_12, bytes_21, bytes_22, bytes_25, bytes_27, bytes_28, bytes_29, bytes_30, bytes_34, bytes_45, bytes_49, bytes_50, bytes_51, bytes_52, bytes_53, bytes_54, bytes_64, bytes_67, bytes_68, bytes_73, bytes_75, bytes_76, bytes_77, bytes_92, bytes_93, bytes_94, bytes_95, bytes_98, bytes_102, bytes_112, bytes_123, bytes_129]; omega))
        | (refine NilB.mk fun b hb => Step.out ?_)
        | with_reducible trivial
        | exact noSh_bool _
        | exact noSh_lit _
        | exact noSh_int _ _
        | exact noSh_str _
        | with_reducible rfl
        | with_reducible exact same_rfl
        | (refine Wr.i64 ?_ ?_; omega)
        | (refine Wr.u8 ?_ ?_; omega)
        | (refine Wr.i32 ?_ ?_; omega)
        | (with_reducible refine Br.tt ?_)
        | (with_reducible refine Br.ff ?_)
        | (refine Br.dT ?_ ?_; omega)
        | (refine Br.dF ?_ ?_; omega)
        | (refine Br.d (fun h => ?_) (fun h => ?_))
        | (refine Br.swap ?_)
        | (refine Br.bnot ?_)
        | (refine Br.mk (fun h => Step.out ?_) (fun h => Step.out ?_))
        | (refine Two.mk (Step.out ?_) (Step.out ?_))
        | (refine CallOK.of_ct (Step.out ?_))
        | (refine Met.by (g := 79) (nm_token_ct _) ?_; rintro q outs ⟨rfl, rfl⟩)
        | (refine Met.by (g := 80) (find_ct _ _ (by first | omega | decide | (simp; done) | (simp; omega))) ?_; rintro q outs ⟨rfl, rfl⟩)
        | (refine Vc.mk ?_ (Step.out ?_))
    · rw [hv, hst (by omega), show pAt l i = false by rw [pAt, h]; simp]; rfl
    · rw [hv, hst (by omega), show pAt l i = false by rw [pAt, h]; simp]; rfl
    · rw [hv, show i = l.length by omega, range_end]
theorem rasc_ct (l : List Str) (hl : l.length ≤ 1000000000) : Ct Tryd.prog 73 [strs l] fun r outs => r = .bool (ascB l) ∧ outs = [] := by
  refine .det (.of_W (fn := Tryd.f73) hΓ hm Tryd.func73 ord73 [] (by kernel_rfl) (Step.out ?_))
  repeat' first
    | (refine Step.mk ?_; conv => whnf)
    | (refine Vc.om ?_ ?_; first | omega | with_reducible rfl | with_reducible exact same_rfl | (simp only [bytes_2, bytes_3, bytes_4, bytes_5, bytes_9, bytes_12, bytes_21, bytes_22, bytes_25, bytes_27, bytes_28, bytes_29, bytes_30, bytes_34, bytes_45, bytes_49, bytes_50, bytes_51, bytes_52, bytes_53, bytes_54, bytes_64, bytes_67, bytes_68, bytes_73, bytes_75, bytes_76, bytes_77, bytes_92, bytes_93, bytes_94, bytes_95, bytes_98, bytes_102, bytes_112, bytes_123, bytes_129]; omega))
    | (refine NilB.mk fun b hb => Step.out ?_)
    | with_reducible trivial
    | exact noSh_bool _
    | exact noSh_lit _
    | exact noSh_int _ _
    | exact noSh_str _
    | with_reducible rfl
    | with_reducible exact same_rfl
    | (refine Wr.i64 ?_ ?_; omega)
    | (refine Wr.u8 ?_ ?_; omega)
    | (refine Wr.i32 ?_ ?_; omega)
    | (with_reducible refine Br.tt ?_)
    | (with_reducible refine Br.ff ?_)
    | (refine Br.dT ?_ ?_; omega)
    | (refine Br.dF ?_ ?_; omega)
    | (refine Br.d (fun h => ?_) (fun h => ?_))
    | (refine Br.swap ?_)
    | (refine Br.bnot ?_)
    | (refine Br.mk (fun h => Step.out ?_) (fun h => Step.out ?_))
    | (refine Two.mk (Step.out ?_) (Step.out ?_))
    | (refine CallOK.of_ct (Step.out ?_))
    | (refine Vc.mk ?_ (Step.out ?_))
  refine CodeOK.loopW hΓ hm ord73 [] (by kernel_rfl) (α := Nat) (fun i => [(0, strs l), (3, i64 i)]) (fun i => []) 0 (fun i => 1 ≤ i ∧ ascB l = ((List.range l.length).drop i).all (aAt l)) (fun i => l.length - i) ?_ ?_
  · refine Again.by 1 ⟨Nat.le_refl _, rfl⟩ ?_
    repeat' first
      | (refine Step.mk ?_; conv => whnf)
      | (refine Vc.om ?_ ?_; first | omega | with_reducible rfl | with_reducible exact same_rfl | (simp only [bytes_2, bytes_3, bytes_4, bytes_5, bytes_9, bytes_12, bytes_21, bytes_22, bytes_25, bytes_27, bytes_28, bytes_29, bytes_30, bytes_34, bytes_45, bytes_49, bytes_50, bytes_51, bytes_52, bytes_53, bytes_54, bytes_64, bytes_67, bytes_68, bytes_73, bytes_75, bytes_76, bytes_77, bytes_92, bytes_93, bytes_94, bytes_95, bytes_98, bytes_102, bytes_112, bytes_123, bytes_129]; omega))
      | (refine NilB.mk fun b hb => Step.out ?_)
      | with_reducible trivial
      | exact noSh_bool _
      | exact noSh_lit _
      | exact noSh_int _ _
      | exact noSh_str _
      | with_reducible rfl
      | with_reducible exact same_rfl
      | (refine Wr.i64 ?_ ?_; omega)
      | (refine Wr.u8 ?_ ?_; omega)
      | (refine Wr.i32 ?_ ?_; omega)
      | (with_reducible refine Br.tt ?_)
      | (with_reducible refine Br.ff ?_)
      | (refine Br.dT ?_ ?_; omega)
      | (refine Br.dF ?_ ?_; omega)
      | (refine Br.d (fun h => ?_) (fun h => ?_))
      | (refine Br.swap ?_)
      | (refine Br.bnot ?_)
      | (refine Br.mk (fun h => Step.out ?_) (fun h => Step.out ?_))
      | (refine Two.mk (Step.out ?_) (Step.out ?_))
      | (refine CallOK.of_ct (Step.out ?_))
      | (refine Vc.mk ?_ (Step.out ?_))
  · intro i ⟨hi, hv⟩
    have hst := fun h : i < l.length => range_step (aAt l) h
    have e : ((i : Int) - 1).toNat = i - 1 := by omega
    have ht := less_tot (l.getD i []) (l.getD (i - 1) [])
    repeat' first
      | (refine Step.mk ?_; conv => whnf)
      | (refine Vc.om ?_ ?_; first | omega | with_reducible rfl | with_reducible exact same_rfl | (simp only [bytes_2, bytes_3, bytes_4, bytes_5, bytes_9, bytes_12, bytes_21, bytes_22, bytes_25, bytes_27, bytes_28, bytes_29, bytes_30, bytes_34, bytes_45, bytes_49, bytes_50, bytes_51, bytes_52, bytes_53, bytes_54, bytes_64, bytes_67, bytes_68, bytes_73, bytes_75, bytes_76, bytes_77, bytes_92, bytes_93, bytes_94, bytes_95, bytes_98, bytes_102, bytes_112, bytes_123, bytes_129]; omega))
      | (refine NilB.mk fun b hb => Step.out ?_)
      | with_reducible trivial
      | exact noSh_bool _
      | exact noSh_lit _
      | exact noSh_int _ _
      | exact noSh_str _
      | with_reducible rfl
      | with_reducible exact same_rfl
      | (refine Wr.i64 ?_ ?_; omega)
      | (refine Wr.u8 ?_ ?_; omega)
      | (refine Wr.i32 ?_ ?_; omega)
      | (with_reducible refine Br.tt ?_)
      | (with_reducible refine Br.ff ?_)
      | (refine Br.dT ?_ ?_; omega)
      | (refine Br.dF ?_ ?_; omega)
      | (refine Br.d (fun h => ?_) (fun h => ?_))
      | (refine Br.swap ?_)
      | (refine Br.bnot ?_)
      | (refine Br.mk (fun h => Step.out ?_) (fun h => Step.out ?_))
      | (refine Two.mk (Step.out ?_) (Step.out ?_))
      | (refine CallOK.of_ct (Step.out ?_))
      | (refine Vc.mk ?_ (Step.out ?_))
    all_goals try simp only [Int.toNat_natCast, e] at *
    · rw [hv, hst (by omega), show aAt l i = false by rw [h] at ht; unfold aAt; simpa using ht.symm]; rfl
    · refine Again.by (i + 1) ⟨⟨by omega, by rw [hv, hst (by omega), show aAt l i = true by rw [h] at ht; unfold aAt; simpa using ht.symm, Bool.true_and]⟩, by omega⟩ ?_
      repeat' first
        | (refine Step.mk ?_; conv => whnf)
        | (refine Vc.om ?_ ?_; first | omega | with_reducible rfl | with_reducible exact same_rfl | (simp only [bytes_2, bytes_3, bytes_4, bytes_5, bytes_9, bytes_12, bytes_21, bytes_22, bytes_25, bytes_27, bytes_28, bytes_29, bytes_30, bytes_34, bytes_45, bytes_49, bytes_50, bytes_51, bytes_52, bytes_53, bytes_54, bytes_64, bytes_67, bytes_68, bytes_73, bytes_75, bytes_76, bytes_77, bytes_92, bytes_93, bytes_94, bytes_95, bytes_98, bytes_102, bytes_112, bytes_123, bytes_129]; omega))
        | (refine NilB.mk fun b hb => Step.out ?_)
        | with_reducible trivial
        | exact noSh_bool _
        | exact noSh_lit _
        | exact noSh_int _ _
        | exact noSh_str _
        | with_reducible rfl
        | with_reducible exact same_rfl
        | (refine Wr.i64 ?_ ?_; omega)
        | (refine Wr.u8 ?_ ?_; omega)
        | (refine Wr.i32 ?_ ?_; omega)
        | (with_reducible refine Br.tt ?_)
        | (with_reducible refine Br.ff ?_)
        | (refine Br.dT ?_ ?_; omega)
        | (refine Br.dF ?_ ?_; omega)
        | (refine Br.d (fun h => ?_) (fun h => ?_))
        | (refine Br.swap ?_)
        | (refine Br.bnot ?_)
        | (refine Br.mk (fun h => Step.out ?_) (fun h => Step.out ?_))
        | (refine Two.mk (Step.out ?_) (Step.out ?_))
        | (refine CallOK.of_ct (Step.out ?_))
        | (refine Vc.mk ?_ (Step.out ?_))
    · rw [hv, List.drop_of_length_le (by simp; omega)]; rfl
theorem froms_app (l : List Pr) (i : Nat) (h : i < l.length) : froms (l.take (i + 1)) = froms (l.take i) ++ [(pGet l i).1] := by
  rw [take_step l ([], []) i h]; simp [froms, pGet]
theorem rpairs_ct (l : List Pr) (hl : l.length ≤ 1000000000) : Ct Tryd.prog 74 [prs l] fun r outs => r = .bool (pairsB l) ∧ outs = [] := by
  rw [pairs_eq]
  refine .det (.of_W (fn := Tryd.f74) hΓ hm Tryd.func74 [] [] (by kernel_rfl) (Step.out ?_))
  repeat' first
    | (refine Step.mk ?_; conv => whnf)
    | (refine Vc.om ?_ ?_; first | omega | with_reducible rfl | with_reducible exact same_rfl | (simp only [bytes_2, bytes_3, bytes_4, bytes_5, bytes_9, bytes_12, bytes_21, bytes_22, bytes_25, bytes_27, bytes_28, bytes_29, bytes_30, bytes_34, bytes_45, bytes_49, bytes_50, bytes_51, bytes_52, bytes_53, bytes_54, bytes_64, bytes_67, bytes_68, bytes_73, bytes_75, bytes_76, bytes_77, bytes_92, bytes_93, bytes_94, bytes_95, bytes_98, bytes_102, bytes_112, bytes_123, bytes_129]; omega))
    | (refine NilB.mk fun b hb => Step.out ?_)
    | with_reducible trivial
    | exact noSh_bool _
    | exact noSh_lit _
    | exact noSh_int _ _
    | exact noSh_str _
    | with_reducible rfl
    | with_reducible exact same_rfl
    | (refine Wr.i64 ?_ ?_; omega)
    | (refine Wr.u8 ?_ ?_; omega)
    | (refine Wr.i32 ?_ ?_; omega)
    | (with_reducible refine Br.tt ?_)
    | (with_reducible refine Br.ff ?_)
    | (refine Br.dT ?_ ?_; omega)
    | (refine Br.dF ?_ ?_; omega)
    | (refine Br.d (fun h => ?_) (fun h => ?_))
    | (refine Br.swap ?_)
    | (refine Br.bnot ?_)
    | (refine Br.mk (fun h => Step.out ?_) (fun h => Step.out ?_))
    | (refine Two.mk (Step.out ?_) (Step.out ?_))
    | (refine CallOK.of_ct (Step.out ?_))
    | (refine Met.by (g := 72) (rtoken_ct _) ?_; rintro q outs ⟨rfl, rfl⟩)
    | (refine Met.by (g := 73) (rasc_ct _ (by first | omega | decide | (simp; done) | (simp; omega))) ?_; rintro q outs ⟨rfl, rfl⟩)
    | (refine Met.by (g := 75) (rhas_ct _ _ (by first | omega | decide | (simp; done) | (simp; omega))) ?_; rintro q outs ⟨rfl, rfl⟩)
    | (refine Vc.mk ?_ (Step.out ?_))
  refine CodeOK.loopW hΓ hm [] [] (by kernel_rfl) (α := Nat) (fun i => [(0, prs l), (3, .own 0), (4, i64 i)]) (fun i => [(0, .arr 9 1 (froms (l.take i)).length fun j => [.str ((froms (l.take i)).getD j [])])]) 1 (fun i => i ≤ l.length ∧ (l.all fun p => tkn p.1 && tkn p.2) = ((l.drop i).all fun p => tkn p.1 && tkn p.2)) (fun i => l.length - i) ?_ ?_
  · refine Again.by 0 ⟨Nat.zero_le _, rfl⟩ ?_
    repeat' first
      | (refine Step.mk ?_; conv => whnf)
      | (refine Vc.om ?_ ?_; first | omega | with_reducible rfl | with_reducible exact same_rfl | (simp only [bytes_2, bytes_3, bytes_4, bytes_5, bytes_9, bytes_12, bytes_21, bytes_22, bytes_25, bytes_27, bytes_28, bytes_29, bytes_30, bytes_34, bytes_45, bytes_49, bytes_50, bytes_51, bytes_52, bytes_53, bytes_54, bytes_64, bytes_67, bytes_68, bytes_73, bytes_75, bytes_76, bytes_77, bytes_92, bytes_93, bytes_94, bytes_95, bytes_98, bytes_102, bytes_112, bytes_123, bytes_129]; omega))
      | (refine NilB.mk fun b hb => Step.out ?_)
      | with_reducible trivial
      | exact noSh_bool _
      | exact noSh_lit _
      | exact noSh_int _ _
      | exact noSh_str _
      | with_reducible rfl
      | with_reducible exact same_rfl
      | (refine Wr.i64 ?_ ?_; omega)
      | (refine Wr.u8 ?_ ?_; omega)
      | (refine Wr.i32 ?_ ?_; omega)
      | (with_reducible refine Br.tt ?_)
      | (with_reducible refine Br.ff ?_)
      | (refine Br.dT ?_ ?_; omega)
      | (refine Br.dF ?_ ?_; omega)
      | (rfl)
      | (refine Br.d (fun h => ?_) (fun h => ?_))
      | (refine Br.swap ?_)
      | (refine Br.bnot ?_)
      | (refine Br.mk (fun h => Step.out ?_) (fun h => Step.out ?_))
      | (refine Two.mk (Step.out ?_) (Step.out ?_))
      | (refine CallOK.of_ct (Step.out ?_))
      | (refine Met.by (g := 72) (rtoken_ct _) ?_; rintro q outs ⟨rfl, rfl⟩)
      | (refine Met.by (g := 73) (rasc_ct _ (by first | omega | decide | (simp; done) | (simp; omega))) ?_; rintro q outs ⟨rfl, rfl⟩)
      | (refine Met.by (g := 75) (rhas_ct _ _ (by first | omega | decide | (simp; done) | (simp; omega))) ?_; rintro q outs ⟨rfl, rfl⟩)
      | (refine Vc.mk ?_ (Step.out ?_))
  · intro i ⟨hi, hv⟩
    have hst := fun h : i < l.length => all_step (fun p : Pr => tkn p.1 && tkn p.2) l ([], []) i h
    have hfl : (froms (l.take i)).length ≤ 1000000000 := by rw [froms_len, List.length_take]; omega
    repeat' first
      | (refine Step.mk ?_; conv => whnf)
      | (refine Vc.om ?_ ?_; first | omega | with_reducible rfl | with_reducible exact same_rfl | (simp only [bytes_2, bytes_3, bytes_4, bytes_5, bytes_9, bytes_12, bytes_21, bytes_22, bytes_25, bytes_27, bytes_28, bytes_29, bytes_30, bytes_34, bytes_45, bytes_49, bytes_50, bytes_51, bytes_52, bytes_53, bytes_54, bytes_64, bytes_67, bytes_68, bytes_73, bytes_75, bytes_76, bytes_77, bytes_92, bytes_93, bytes_94, bytes_95, bytes_98, bytes_102, bytes_112, bytes_123, bytes_129]; omega))
      | (refine NilB.mk fun b hb => Step.out ?_)
      | with_reducible trivial
      | exact noSh_bool _
      | exact noSh_lit _
      | exact noSh_int _ _
      | exact noSh_str _
      | with_reducible rfl
      | with_reducible exact same_rfl
      | (refine Wr.i64 ?_ ?_; omega)
      | (refine Wr.u8 ?_ ?_; omega)
      | (refine Wr.i32 ?_ ?_; omega)
      | (with_reducible refine Br.tt ?_)
      | (with_reducible refine Br.ff ?_)
      | (refine Br.dT ?_ ?_; omega)
      | (refine Br.dF ?_ ?_; omega)
      | (refine Br.d (fun h => ?_) (fun h => ?_))
      | (refine Br.swap ?_)
      | (refine Br.bnot ?_)
      | (refine Br.mk (fun h => Step.out ?_) (fun h => Step.out ?_))
      | (refine Two.mk (Step.out ?_) (Step.out ?_))
      | (refine CallOK.of_ct (Step.out ?_))
      | (refine Met.by (g := 72) (rtoken_ct _) ?_; rintro q outs ⟨rfl, rfl⟩)
      | (refine Met.by (g := 73) (rasc_ct _ (by first | omega | decide | (simp; done) | (simp; omega))) ?_; rintro q outs ⟨rfl, rfl⟩)
      | (refine Met.by (g := 75) (rhas_ct _ _ (by first | omega | decide | (simp; done) | (simp; omega))) ?_; rintro q outs ⟨rfl, rfl⟩)
      | (refine Vc.mk ?_ (Step.out ?_))
    all_goals try simp only [Int.toNat_natCast] at *
    · refine Again.by (i + 1) ⟨⟨by omega, by rw [hv, hst (by omega)]; show ((tkn (pGet l i).1 && tkn (pGet l i).2) && _) = _; rw [‹tkn (pGet l i).1 = true›, ‹tkn (pGet l i).2 = true›]; rfl⟩, by omega⟩ ?_
      rw [froms_app l i (by omega)]
      repeat' first
        | (refine Step.mk ?_; conv => whnf)
        | (refine Vc.om ?_ ?_; first | omega | with_reducible rfl | with_reducible exact same_rfl | (simp only [bytes_2, bytes_3, bytes_4, bytes_5, bytes_9, bytes_12, bytes_21, bytes_22, bytes_25, bytes_27, bytes_28, bytes_29, bytes_30, bytes_34, bytes_45, bytes_49, bytes_50, bytes_51, bytes_52, bytes_53, bytes_54, bytes_64, bytes_67, bytes_68, bytes_73, bytes_75, bytes_76, bytes_77, bytes_92, bytes_93, bytes_94, bytes_95, bytes_98, bytes_102, bytes_112, bytes_123, bytes_129]; omega))
        | (refine NilB.mk fun b hb => Step.out ?_)
        | with_reducible trivial
        | exact noSh_bool _
        | exact noSh_lit _
        | exact noSh_int _ _
        | exact noSh_str _
        | with_reducible rfl
        | with_reducible exact same_rfl
        | (refine Wr.i64 ?_ ?_; omega)
        | (refine Wr.u8 ?_ ?_; omega)
        | (refine Wr.i32 ?_ ?_; omega)
        | (with_reducible refine Br.tt ?_)
        | (with_reducible refine Br.ff ?_)
        | (refine Br.dT ?_ ?_; omega)
        | (refine Br.dF ?_ ?_; omega)
        | (exact str_app _ _ rfl)
        | (refine Br.d (fun h => ?_) (fun h => ?_))
        | (refine Br.swap ?_)
        | (refine Br.bnot ?_)
        | (refine Br.mk (fun h => Step.out ?_) (fun h => Step.out ?_))
        | (refine Two.mk (Step.out ?_) (Step.out ?_))
        | (refine CallOK.of_ct (Step.out ?_))
        | (refine Met.by (g := 72) (rtoken_ct _) ?_; rintro q outs ⟨rfl, rfl⟩)
        | (refine Met.by (g := 73) (rasc_ct _ (by first | omega | decide | (simp; done) | (simp; omega))) ?_; rintro q outs ⟨rfl, rfl⟩)
        | (refine Met.by (g := 75) (rhas_ct _ _ (by first | omega | decide | (simp; done) | (simp; omega))) ?_; rintro q outs ⟨rfl, rfl⟩)
        | (refine Vc.mk ?_ (Step.out ?_))
    · rw [hv, hst (by omega), show tkn (l.getD i ([], [])).2 = false from ‹tkn (pGet l i).2 = false›, Bool.and_false, Bool.false_and, Bool.false_and]
    · rw [hv, hst (by omega), show tkn (l.getD i ([], [])).1 = false from ‹tkn (pGet l i).1 = false›, Bool.false_and, Bool.false_and, Bool.false_and]
    · have hT : (l.all fun p => tkn p.1 && tkn p.2) = true := by rw [hv, List.drop_of_length_le (by omega)]; rfl
      rw [hT, show l.take i = l from List.take_of_length_le (by omega)]
      have hfl : (froms l).length ≤ 1000000000 := by rw [froms_len]; omega
      refine CodeOK.loopW hΓ hm [] [] (by kernel_rfl) (α := Nat) (fun j => [(0, prs l), (3, .own 0), (5, i64 j)]) (fun j => [(0, .arr 9 1 (froms l).length fun j => [.str ((froms l).getD j [])])]) 1 (fun j => j ≤ l.length ∧ (l.all fun p => !hasS (froms l) p.2) = ((l.drop j).all fun p => !hasS (froms l) p.2)) (fun j => l.length - j) ?_ ?_
      · refine Again.by 0 ⟨Nat.zero_le _, rfl⟩ ?_
        repeat' first
          | (refine Step.mk ?_; conv => whnf)
          | (refine Vc.om ?_ ?_; first | omega | with_reducible rfl | with_reducible exact same_rfl | (simp only [bytes_2, bytes_3, bytes_4, bytes_5, bytes_9, bytes_12, bytes_21, bytes_22, bytes_25, bytes_27, bytes_28, bytes_29, bytes_30, bytes_34, bytes_45, bytes_49, bytes_50, bytes_51, bytes_52, bytes_53, bytes_54, bytes_64, bytes_67, bytes_68, bytes_73, bytes_75, bytes_76, bytes_77, bytes_92, bytes_93, bytes_94, bytes_95, bytes_98, bytes_102, bytes_112, bytes_123, bytes_129]; omega))
          | (refine NilB.mk fun b hb => Step.out ?_)
          | with_reducible trivial
          | exact noSh_bool _
          | exact noSh_lit _
          | exact noSh_int _ _
          | exact noSh_str _
          | with_reducible rfl
          | with_reducible exact same_rfl
          | (refine Wr.i64 ?_ ?_; omega)
          | (refine Wr.u8 ?_ ?_; omega)
          | (refine Wr.i32 ?_ ?_; omega)
          | (with_reducible refine Br.tt ?_)
          | (with_reducible refine Br.ff ?_)
          | (refine Br.dT ?_ ?_; omega)
          | (refine Br.dF ?_ ?_; omega)
          | (rfl)
          | (refine Br.d (fun h => ?_) (fun h => ?_))
          | (refine Br.swap ?_)
          | (refine Br.bnot ?_)
          | (refine Br.mk (fun h => Step.out ?_) (fun h => Step.out ?_))
          | (refine Two.mk (Step.out ?_) (Step.out ?_))
          | (refine CallOK.of_ct (Step.out ?_))
          | (refine Met.by (g := 72) (rtoken_ct _) ?_; rintro q outs ⟨rfl, rfl⟩)
          | (refine Met.by (g := 73) (rasc_ct _ (by first | omega | decide | (simp; done) | (simp; omega))) ?_; rintro q outs ⟨rfl, rfl⟩)
          | (refine Met.by (g := 75) (rhas_ct _ _ (by first | omega | decide | (simp; done) | (simp; omega))) ?_; rintro q outs ⟨rfl, rfl⟩)
          | (refine Vc.mk ?_ (Step.out ?_))
      · intro j ⟨hj, hv⟩
        have hst := fun h : j < l.length => all_step (fun p : Pr => !hasS (froms l) p.2) l ([], []) j h
        repeat' first
          | (refine Step.mk ?_; conv => whnf)
          | (refine Vc.om ?_ ?_; first | omega | with_reducible rfl | with_reducible exact same_rfl | (simp only [bytes_2, bytes_3, bytes_4, bytes_5, bytes_9, bytes_12, bytes_21, bytes_22, bytes_25, bytes_27, bytes_28, bytes_29, bytes_30, bytes_34, bytes_45, bytes_49, bytes_50, bytes_51, bytes_52, bytes_53, bytes_54, bytes_64, bytes_67, bytes_68, bytes_73, bytes_75, bytes_76, bytes_77, bytes_92, bytes_93, bytes_94, bytes_95, bytes_98, bytes_102, bytes_112, bytes_123, bytes_129]; omega))
          | (refine NilB.mk fun b hb => Step.out ?_)
          | with_reducible trivial
          | exact noSh_bool _
          | exact noSh_lit _
          | exact noSh_int _ _
          | exact noSh_str _
          | with_reducible rfl
          | with_reducible exact same_rfl
          | (refine Wr.i64 ?_ ?_; omega)
          | (refine Wr.u8 ?_ ?_; omega)
          | (refine Wr.i32 ?_ ?_; omega)
          | (with_reducible refine Br.tt ?_)
          | (with_reducible refine Br.ff ?_)
          | (refine Br.dT ?_ ?_; omega)
          | (refine Br.dF ?_ ?_; omega)
          | (refine Br.d (fun h => ?_) (fun h => ?_))
          | (refine Br.swap ?_)
          | (refine Br.bnot ?_)
          | (refine Br.mk (fun h => Step.out ?_) (fun h => Step.out ?_))
          | (refine Two.mk (Step.out ?_) (Step.out ?_))
          | (refine CallOK.of_ct (Step.out ?_))
          | (refine Met.by (g := 72) (rtoken_ct _) ?_; rintro q outs ⟨rfl, rfl⟩)
          | (refine Met.by (g := 73) (rasc_ct _ (by first | omega | decide | (simp; done) | (simp; omega))) ?_; rintro q outs ⟨rfl, rfl⟩)
          | (refine Met.by (g := 75) (rhas_ct _ _ (by first | omega | decide | (simp; done) | (simp; omega))) ?_; rintro q outs ⟨rfl, rfl⟩)
          | (refine Vc.mk ?_ (Step.out ?_))
        all_goals try simp only [Int.toNat_natCast] at *
        · rw [hv, hst (by omega), show hasS (froms l) (l.getD j ([], [])).2 = true from h, Bool.true_and]; rfl
        · refine Again.by (j + 1) ⟨⟨by omega, by rw [hv, hst (by omega), show hasS (froms l) (l.getD j ([], [])).2 = false from h]; rfl⟩, by omega⟩ ?_
          repeat' first
            | (refine Step.mk ?_; conv => whnf)
            | (refine Vc.om ?_ ?_; first | omega | with_reducible rfl | with_reducible exact same_rfl | (simp only [bytes_2, bytes_3, bytes_4, bytes_5, bytes_9, bytes_12, bytes_21, bytes_22, bytes_25, bytes_27, bytes_28, bytes_29, bytes_30, bytes_34, bytes_45, bytes_49, bytes_50, bytes_51, bytes_52, bytes_53, bytes_54, bytes_64, bytes_67, bytes_68, bytes_73, bytes_75, bytes_76, bytes_77, bytes_92, bytes_93, bytes_94, bytes_95, bytes_98, bytes_102, bytes_112, bytes_123, bytes_129]; omega))
            | (refine NilB.mk fun b hb => Step.out ?_)
            | with_reducible trivial
            | exact noSh_bool _
            | exact noSh_lit _
            | exact noSh_int _ _
            | exact noSh_str _
            | with_reducible rfl
            | with_reducible exact same_rfl
            | (refine Wr.i64 ?_ ?_; omega)
            | (refine Wr.u8 ?_ ?_; omega)
            | (refine Wr.i32 ?_ ?_; omega)
            | (with_reducible refine Br.tt ?_)
            | (with_reducible refine Br.ff ?_)
            | (refine Br.dT ?_ ?_; omega)
            | (refine Br.dF ?_ ?_; omega)
            | (refine Br.d (fun h => ?_) (fun h => ?_))
            | (refine Br.swap ?_)
            | (refine Br.bnot ?_)
            | (refine Br.mk (fun h => Step.out ?_) (fun h => Step.out ?_))
            | (refine Two.mk (Step.out ?_) (Step.out ?_))
            | (refine CallOK.of_ct (Step.out ?_))
            | (refine Met.by (g := 72) (rtoken_ct _) ?_; rintro q outs ⟨rfl, rfl⟩)
            | (refine Met.by (g := 73) (rasc_ct _ (by first | omega | decide | (simp; done) | (simp; omega))) ?_; rintro q outs ⟨rfl, rfl⟩)
            | (refine Met.by (g := 75) (rhas_ct _ _ (by first | omega | decide | (simp; done) | (simp; omega))) ?_; rintro q outs ⟨rfl, rfl⟩)
            | (refine Vc.mk ?_ (Step.out ?_))
        · rw [hv, List.drop_of_length_le (by omega), Bool.true_and]; rfl
end Kx
