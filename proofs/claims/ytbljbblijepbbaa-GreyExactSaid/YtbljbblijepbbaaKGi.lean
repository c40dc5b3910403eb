/-
  The sanity check.
  No condition beyond those written in each theorem.
-/
import Derived.Test.YtbljbblijepbbaaKGh
import Derived.Test.YtbljbblijepbbaaKIm
open Go Sx Go.Proofs
set_option linter.unusedSimpArgs false
set_option linter.unusedVariables false
namespace Kx
theorem des_nil : wkD (des []) .nil false := rfl
theorem des_one (d : De) : wkD (des [d]) (.tab 7 1 fun i => selC [De.f d] i) false := ⟨rfl, fun i hi => by
  have hi : i < 1 := hi
  obtain rfl : i = 0 := by omega
  rfl⟩
theorem cds_wk (l : List Cd) : wkD (cds l) (cds l) false := ⟨rfl, fun _ _ => rfl⟩
theorem bonds0_ct (t : Th) (l : List Cd) : Ct Try.prog 13 [t.d, cds l, .nil] fun q outs => q = .tup [bds (bondsL t l []), i64 (fault t l [])] ∧ outs = [] :=
  (bonds_ct t l []).arg ⟨rfl, ⟨rfl, rfl, trivial⟩, cds_wk l, des_nil, trivial⟩
theorem open0_ct (t : Th) (l : List Cd) : Ct Try.prog 15 [t.d, cds l, .nil] fun q outs => q = .tup [cds (openL t l []), i64 (fault t l [])] ∧ outs = [] :=
  (open_ct t l []).arg ⟨rfl, ⟨rfl, rfl, trivial⟩, cds_wk l, des_nil, trivial⟩
theorem bonds1_ct (t : Th) (l : List Cd) (d : De) : Ct Try.prog 13 [t.d, cds l, .tab 7 1 fun i => selC [De.f d] i] fun q outs => q = .tup [bds (bondsL t l [d]), i64 (fault t l [d])] ∧ outs = [] :=
  (bonds_ct t l [d]).arg ⟨rfl, ⟨rfl, rfl, trivial⟩, cds_wk l, des_one d, trivial⟩
def awC : Cd := ⟨⟨0, 1⟩, ⟨1, 2⟩, 0, 30⟩
def awD : De := ⟨⟨0, 1⟩, ⟨1, 2⟩, 1, 1, true⟩
theorem cds_im (c : Cd) : Im (.tab 6 1 fun i => selC [Cd.f c] i) (cds [c]) := .tab rfl fun i hi => by
  obtain rfl : i = 0 := by omega
  exact ImL.refl _
theorem des_im : Im (.tab 7 1 fun i => selC [[i64 0, i64 1, i64 1, i64 2, i64 1, i64 1, .lit true]] i) (des [awD]) := .tab rfl fun i hi => by
  obtain rfl : i = 0 := by omega
  exact .cons (.refl _) (.cons (.refl _) (.cons (.refl _) (.cons (.refl _) (.cons (.refl _) (.cons (.refl _) (.cons (im_lit _) .nil))))))
theorem awB_ct : Ct Try.prog 13 [.agg [i64 10, i64 50], .tab 6 1 fun i => selC [Cd.f awC] i, .tab 7 1 fun i => selC [[i64 0, i64 1, i64 1, i64 2, i64 1, i64 1, .lit true]] i] fun q outs => q = .tup [bds [⟨⟨0, 1⟩, ⟨1, 2⟩, 50⟩], i64 0] ∧ outs = [] := by
  have e1 : bondsL ⟨10, 50⟩ [awC] [awD] = [⟨⟨0, 1⟩, ⟨1, 2⟩, 50⟩] := by decide
  have e2 : fault ⟨10, 50⟩ [awC] [awD] = 0 := by decide
  have := bonds_ct ⟨10, 50⟩ [awC] [awD]
  rw [e1, e2] at this
  exact Ct.read this rfl ⟨.refl _, cds_im _, des_im, trivial⟩
theorem awO_ct : Ct Try.prog 15 [.agg [i64 10, i64 50], .tab 6 1 fun i => selC [Cd.f awC] i, .nil] fun q outs => q = .tup [cds [awC], i64 0] ∧ outs = [] := by
  have e1 : openL ⟨10, 50⟩ [awC] [] = [awC] := by decide
  have e2 : fault ⟨10, 50⟩ [awC] [] = 0 := by decide
  have := open_ct ⟨10, 50⟩ [awC] []
  rw [e1, e2] at this
  exact Ct.read this rfl ⟨.refl _, cds_im _, im_nil _ _, trivial⟩
theorem awake_ct : Ct Try.prog 8 [] fun r outs => r = .bool true ∧ outs = [] := by
  refine .det (.of_W (fn := Try.f8) hΓ hm Try.func8 [] [] (by kernel_rfl) (Step.out ?_))
  repeat' first
    | (refine Step.mk ?_; conv => whnf)
    | (refine Vc.om ?_ ?_; first | omega | with_reducible rfl | with_reducible exact same_rfl | (simp only [bytes_2, bytes_3, bytes_4, bytes_5, bytes_9, bytes_12, bytes_21, bytes_22, bytes_25, bytes_27, bytes_28, bytes_30, bytes_32, bytes_33, bytes_36, bytes_37, bytes_38, bytes_39, bytes_41, bytes_42, bytes_43, bytes_44, bytes_45, bytes_46, bytes_52, bytes_56, bytes_58, bytes_60, bytes_67, bytes_68, bytes_69, bytes_70, bytes_71, bytes_72, bytes_73, bytes_74, bytes_75, bytes_76, bytes_77, bytes_81, bytes_84, bytes_85, bytes_87, bytes_95, bytes_96, bytes_111, bytes_115, true_and, and_true] <;> omega))
    | (refine NilB.mk fun b hb => Step.out ?_)
    | with_reducible trivial
    | exact noSh_bool _
    | exact noSh_lit _
    | exact noSh_int _ _
    | exact noSh_str _
    | with_reducible rfl
    | with_reducible exact same_rfl
    | (refine Wr.i64 ?_ ?_; omega)
    | (refine Wr.u8 ?_ ?_; omega)
    | (refine Wr.i32 ?_ ?_; omega)
    | (with_reducible refine Br.tt ?_)
    | (with_reducible refine Br.ff ?_)
    | (refine Br.dT ?_ ?_; omega)
    | (refine Br.dF ?_ ?_; omega)
    | (refine Met.by awB_ct ?_; rintro q outs ⟨rfl, rfl⟩)
    | (refine Met.by awO_ct ?_; rintro q outs ⟨rfl, rfl⟩)
    | (refine Met.by (ref_ct ⟨0, 1⟩) ?_; rintro q outs ⟨rfl, rfl⟩)
    | (refine Met.by (class_ct ⟨0, 1⟩ 1) ?_; rintro q outs ⟨rfl, rfl⟩)
    | (refine Br.d (fun h => ?_) (fun h => ?_))
    | (refine Br.swap ?_)
    | (refine Br.bnot ?_)
    | (refine Br.mk (fun h => Step.out ?_) (fun h => Step.out ?_))
    | (refine Two.mk (Step.out ?_) (Step.out ?_))
    | (refine Cp.mk fun q hq => Step.out ?_)
    | (refine Ovl.mk (by assumption) (Step.out ?_))
    | (refine CallOK.ctF (g := 13) (Step.out ?_))
    | (refine CallOK.ctF (g := 15) (Step.out ?_))
    | (refine CallOK.of_ct (Step.out ?_))
    | (refine CallQ.of_ct (Step.out ?_))
    | (refine Met.by (g := 13) (bonds_ct _ _ _) ?_; rintro q outs ⟨rfl, rfl⟩)
    | (refine Met.by (g := 15) (open_ct _ _ _) ?_; rintro q outs ⟨rfl, rfl⟩)
    | (refine Met.by (g := 16) (class_ct _ _) ?_; rintro q outs ⟨rfl, rfl⟩)
    | (refine Met.by (g := 21) (ref_ct _) ?_; rintro q outs ⟨rfl, rfl⟩)
    | (refine Vc.mk ?_ (Step.out ?_))
end Kx
