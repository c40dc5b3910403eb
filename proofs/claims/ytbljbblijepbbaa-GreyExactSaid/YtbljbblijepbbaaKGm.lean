/-
  Sheets dealt.
  No condition beyond those written in each theorem.
-/
import Derived.Test.YtbljbblijepbbaaKGl
open Go Sx Go.Proofs
set_option linter.unusedSimpArgs false
set_option linter.unusedVariables false
namespace Kx
theorem ite_w64s (c : Prop) [Decidable c] (a b : List Int) : D.ite c (w64s a) (w64s b) = w64s (if c then a else b) := by
  show D.tab 1 (if c then _ else _) (fun q => iteL1 c [u64 (a.getD q 0)] [u64 (b.getD q 0)]) = _
  have : (fun q => iteL1 c [u64 (a.getD q 0)] [u64 (b.getD q 0)]) = fun q => [u64 ((if c then a else b).getD q 0)] := by
    funext q
    show [u64 (if c then _ else _)] = _
    split <;> rfl
  rw [this]
  split <;> rfl
theorem ite_bls (c : Prop) [Decidable c] (a b : List Bool) : D.ite c (bls a) (bls b) = bls (if c then a else b) := by
  show D.tab 1 (if c then _ else _) (fun q => iteL1 c [.bool (a.getD q false)] [.bool (b.getD q false)]) = _
  have : (fun q => iteL1 c [D.bool (a.getD q false)] [D.bool (b.getD q false)]) = fun q => [D.bool ((if c then a else b).getD q false)] := by
    funext q
    show [D.bool (if c then _ else _)] = _
    split <;> rfl
  rw [this]
  split <;> rfl
theorem ite_bt (c : Prop) [Decidable c] (x y : Bt) : iteL c (Bt.f x) (Bt.f y) = Bt.f (if c then x else y) := by
  show [i64 (if c then _ else _), D.ite c (w64s x.w) (w64s y.w)] = _
  rw [ite_w64s]
  split <;> rfl
theorem ite_bt1 (c : Prop) [Decidable c] (x y : Bt) : iteL1 c (Bt.f x) (Bt.f y) = Bt.f (if c then x else y) := by
  show [i64 (if c then _ else _), if c then w64s x.w else w64s y.w] = _
  split <;> rfl
theorem ite_bts (c : Prop) [Decidable c] (a b : List Bt) : D.ite c (bts a) (bts b) = bts (if c then a else b) := by
  show D.tab 2 (if c then _ else _) (fun q => iteL1 c (Bt.f (a.getD q Bt.z)) (Bt.f (b.getD q Bt.z))) = _
  have : (fun q => iteL1 c (Bt.f (a.getD q Bt.z)) (Bt.f (b.getD q Bt.z))) = fun q => Bt.f ((if c then a else b).getD q Bt.z) := by
    funext q
    rw [ite_bt1]
    split <;> rfl
  rw [this]
  split <;> rfl
theorem ite_sn (c : Prop) [Decidable c] (x y : Sn) : iteL c (Sn.f x) (Sn.f y) = Sn.f (if c then x else y) := by
  show [i64 (if c then _ else _), i64 (if c then _ else _), D.ite c (bts x.b) (bts y.b), D.ite c (w64s x.h) (w64s y.h), D.ite c (bls x.t) (bls y.t)] = _
  rw [ite_bts, ite_w64s, ite_bls]
  split <;> rfl
theorem wk_one (x : Int) : wkD (w64s [x]) (.tab 1 1 fun i => selC [[u64 x]] i) false := ⟨rfl, fun i hi => by
  have hi : i < 1 := hi
  obtain rfl : i = 0 := by omega
  rfl⟩
def arrV (x : Int) : Int := match selC [[u64 255], [u64 254], [u64 61680], [u64 1], [u64 4294901760], [u64 0]] x.toNat with
  | [.int _ v] => v
  | _ => 0
theorem array_ct (d : Dk) : Ct Try.prog 57 [d.b] fun r outs => ∃ (b : Bt) (d' : Dk), True ∧ r = .agg b.f ∧ outs = [Dk.b d'] := by
  refine .some2 (.of_W (fn := Try.f57) hΓ hm Try.func57 [] [] (by kernel_rfl) (Step.out ?_))
  repeat' first
    | (refine Step.mk ?_; conv => whnf)
    | (refine Vc.om ?_ ?_; first | omega | with_reducible rfl | with_reducible exact same_rfl | (simp only [bytes_2, bytes_3, bytes_4, bytes_5, bytes_9, bytes_12, bytes_21, bytes_22, bytes_25, bytes_27, bytes_28, bytes_30, bytes_32, bytes_33, bytes_36, bytes_37, bytes_38, bytes_39, bytes_41, bytes_42, bytes_43, bytes_44, bytes_45, bytes_46, bytes_52, bytes_56, bytes_58, bytes_60, bytes_67, bytes_68, bytes_69, bytes_70, bytes_71, bytes_72, bytes_73, bytes_74, bytes_75, bytes_76, bytes_77, bytes_81, bytes_84, bytes_85, bytes_87, bytes_95, bytes_96, bytes_111, bytes_115, true_and, and_true] <;> omega))
    | (refine NilB.mk fun b hb => Step.out ?_)
    | with_reducible trivial
    | exact noSh_bool _
    | exact noSh_lit _
    | exact noSh_int _ _
    | exact noSh_str _
    | with_reducible rfl
    | with_reducible exact same_rfl
    | (refine Wr.i64 ?_ ?_; omega)
    | (refine Wr.u8 ?_ ?_; omega)
    | (refine Wr.i32 ?_ ?_; omega)
    | (with_reducible refine Br.tt ?_)
    | (with_reducible refine Br.ff ?_)
    | (refine Br.dT ?_ ?_; omega)
    | (refine Br.dF ?_ ?_; omega)
    | (refine Br.d (fun h => ?_) (fun h => ?_))
    | (refine Br.swap ?_)
    | (refine Br.bnot ?_)
    | (refine Br.mk (fun h => Step.out ?_) (fun h => Step.out ?_))
    | (refine Two.mk (Step.out ?_) (Step.out ?_))
    | (refine Cp.mk fun q hq => Step.out ?_)
    | (refine Ovl.mk (by assumption) (Step.out ?_))
    | (refine CallOK.io1 (g := 14) (Step.out ?_))
    | (refine CallOK.io1 (g := 43) (Step.out ?_))
    | (refine CallOK.of_ct (Step.out ?_))
    | (refine CallQ.of_ct (Step.out ?_))
    | (refine Met.by (g := 14) (next_ct _ _) ?_; rintro q outs ⟨x, d, hx, rfl, rfl⟩)
    | (refine Met.by (g := 43) (one_ct _ _) ?_; rintro q outs ⟨x, d, hx, rfl, rfl⟩)
    | (refine Vc.mk ?_ (Step.out ?_))
  · refine Lf2.by ⟨0, []⟩ d trivial ?_
    repeat' first
      | (refine Step.mk ?_; conv => whnf)
      | (refine Vc.om ?_ ?_; first | omega | with_reducible rfl | with_reducible exact same_rfl | (simp only [bytes_2, bytes_3, bytes_4, bytes_5, bytes_9, bytes_12, bytes_21, bytes_22, bytes_25, bytes_27, bytes_28, bytes_30, bytes_32, bytes_33, bytes_36, bytes_37, bytes_38, bytes_39, bytes_41, bytes_42, bytes_43, bytes_44, bytes_45, bytes_46, bytes_52, bytes_56, bytes_58, bytes_60, bytes_67, bytes_68, bytes_69, bytes_70, bytes_71, bytes_72, bytes_73, bytes_74, bytes_75, bytes_76, bytes_77, bytes_81, bytes_84, bytes_85, bytes_87, bytes_95, bytes_96, bytes_111, bytes_115, true_and, and_true] <;> omega))
      | (refine NilB.mk fun b hb => Step.out ?_)
      | with_reducible trivial
      | exact noSh_bool _
      | exact noSh_lit _
      | exact noSh_int _ _
      | exact noSh_str _
      | with_reducible rfl
      | with_reducible exact same_rfl
      | (refine Wr.i64 ?_ ?_; omega)
      | (refine Wr.u8 ?_ ?_; omega)
      | (refine Wr.i32 ?_ ?_; omega)
      | (with_reducible refine Br.tt ?_)
      | (with_reducible refine Br.ff ?_)
      | (refine Br.dT ?_ ?_; omega)
      | (refine Br.dF ?_ ?_; omega)
      | (refine Br.d (fun h => ?_) (fun h => ?_))
      | (refine Br.swap ?_)
      | (refine Br.bnot ?_)
      | (refine Br.mk (fun h => Step.out ?_) (fun h => Step.out ?_))
      | (refine Two.mk (Step.out ?_) (Step.out ?_))
      | (refine Cp.mk fun q hq => Step.out ?_)
      | (refine Ovl.mk (by assumption) (Step.out ?_))
      | (refine CallOK.io1 (g := 14) (Step.out ?_))
      | (refine CallOK.io1 (g := 43) (Step.out ?_))
      | (refine CallOK.of_ct (Step.out ?_))
      | (refine CallQ.of_ct (Step.out ?_))
      | (refine Met.by (g := 14) (next_ct _ _) ?_; rintro q outs ⟨x, d, hx, rfl, rfl⟩)
      | (refine Met.by (g := 43) (one_ct _ _) ?_; rintro q outs ⟨x, d, hx, rfl, rfl⟩)
      | (refine Vc.mk ?_ (Step.out ?_))
  · refine Lf2.by ⟨64, [arrV x]⟩ d trivial ?_
    repeat' first
      | (refine Step.mk ?_; conv => whnf)
      | (refine Vc.om ?_ ?_; first | omega | with_reducible rfl | with_reducible exact same_rfl | (simp only [bytes_2, bytes_3, bytes_4, bytes_5, bytes_9, bytes_12, bytes_21, bytes_22, bytes_25, bytes_27, bytes_28, bytes_30, bytes_32, bytes_33, bytes_36, bytes_37, bytes_38, bytes_39, bytes_41, bytes_42, bytes_43, bytes_44, bytes_45, bytes_46, bytes_52, bytes_56, bytes_58, bytes_60, bytes_67, bytes_68, bytes_69, bytes_70, bytes_71, bytes_72, bytes_73, bytes_74, bytes_75, bytes_76, bytes_77, bytes_81, bytes_84, bytes_85, bytes_87, bytes_95, bytes_96, bytes_111, bytes_115, true_and, and_true] <;> omega))
      | (refine NilB.mk fun b hb => Step.out ?_)
      | with_reducible trivial
      | exact noSh_bool _
      | exact noSh_lit _
      | exact noSh_int _ _
      | exact noSh_str _
      | with_reducible rfl
      | with_reducible exact same_rfl
      | (refine Wr.i64 ?_ ?_; omega)
      | (refine Wr.u8 ?_ ?_; omega)
      | (refine Wr.i32 ?_ ?_; omega)
      | (with_reducible refine Br.tt ?_)
      | (with_reducible refine Br.ff ?_)
      | (refine Br.dT ?_ ?_; omega)
      | (refine Br.dF ?_ ?_; omega)
      | (refine Br.d (fun h => ?_) (fun h => ?_))
      | (refine Br.swap ?_)
      | (refine Br.bnot ?_)
      | (refine Br.mk (fun h => Step.out ?_) (fun h => Step.out ?_))
      | (refine Two.mk (Step.out ?_) (Step.out ?_))
      | (refine Cp.mk fun q hq => Step.out ?_)
      | (refine Ovl.mk (by assumption) (Step.out ?_))
      | (refine CallOK.io1 (g := 14) (Step.out ?_))
      | (refine CallOK.io1 (g := 43) (Step.out ?_))
      | (refine CallOK.of_ct (Step.out ?_))
      | (refine CallQ.of_ct (Step.out ?_))
      | (refine Met.by (g := 14) (next_ct _ _) ?_; rintro q outs ⟨x, d, hx, rfl, rfl⟩)
      | (refine Met.by (g := 43) (one_ct _ _) ?_; rintro q outs ⟨x, d, hx, rfl, rfl⟩)
      | (refine Vc.mk ?_ (Step.out ?_))
    all_goals
      refine ⟨rfl, fun i hi => ?_⟩
      have hi : i < 1 := hi
      obtain rfl : i = 0 := by omega
      rfl
end Kx
