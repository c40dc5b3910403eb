/-
  Sheets dealt, second part.
  No condition beyond those written in each theorem.
-/
import Derived.Test.YtbljbblijepbbaaKGm
open Go Sx Go.Proofs
set_option linter.unusedSimpArgs false
set_option linter.unusedVariables false
namespace Kx
theorem ite_u (c : Prop) [Decidable c] (x y : Int) : iteL c [u64 x] [u64 y] = [u64 (if c then x else y)] := rfl
theorem ite_b (c : Prop) [Decidable c] (x y : Bool) : iteL c [D.bool x] [D.bool y] = [D.bool (if c then x else y)] := rfl
/-- A sheet: few records, their IDs ascending. -/
structure ShV (l : List Sn) : Prop where
  n : l.length ≤ 100
  p : l.Pairwise fun a b => a.id < b.id
theorem asc_push {l : List Sn} {m : Int} {y : Sn} (hp : l.Pairwise fun a b => a.id < b.id) (hm : ∀ x ∈ l, x.id ≤ m) (hy : m < y.id) : (l ++ [y]).Pairwise (fun a b => a.id < b.id) ∧ ∀ x ∈ l ++ [y], x.id ≤ y.id := by
  refine ⟨List.pairwise_append.2 ⟨hp, by simp, fun x hx z hz => ?_⟩, fun x hx => ?_⟩
  · rw [List.mem_singleton.1 hz]; have := hm x hx; omega
  · rcases List.mem_append.1 hx with hx | hx
    · have := hm x hx; omega
    · rw [List.mem_singleton.1 hx]; exact Int.le_refl _
set_option maxHeartbeats 4000000 in
theorem sheet_ct (d : Dk) (fl ky m : Int) (hfl : 0 ≤ fl ∧ fl ≤ 10) (hky : 0 ≤ ky ∧ ky ≤ 10) (hmo : 0 ≤ m ∧ m ≤ 100) : Ct Try.prog 44 [d.b, i64 fl, i64 ky, i64 m] fun r outs => ∃ (l : List Sn) (d' : Dk), ShV l ∧ r = sns l ∧ outs = [Dk.b d'] := by
  refine .some2 (.of_W (fn := Try.f44) hΓ hm Try.func44 ord44 [] (by kernel_rfl) (Step.out ?_))
  repeat' first
    | (refine Step.mk ?_; conv => whnf)
    | (refine Vc.om ?_ ?_; first | omega | with_reducible rfl | with_reducible exact same_rfl | (simp only [bytes_2, bytes_3, bytes_4, bytes_5, bytes_9, bytes_12, bytes_21, bytes_22, bytes_25, bytes_27, bytes_28, bytes_30, bytes_32, bytes_33, bytes_36, bytes_37, bytes_38, bytes_39, bytes_41, bytes_42, bytes_43, bytes_44, bytes_45, bytes_46, bytes_52, bytes_56, bytes_58, bytes_60, bytes_67, bytes_68, bytes_69, bytes_70, bytes_71, bytes_72, bytes_73, bytes_74, bytes_75, bytes_76, bytes_77, bytes_81, bytes_84, bytes_85, bytes_87, bytes_95, bytes_96, bytes_111, bytes_115, true_and, and_true] <;> omega))
    | (refine NilB.mk fun b hb => Step.out ?_)
    | with_reducible trivial
    | exact noSh_bool _
    | exact noSh_lit _
    | exact noSh_int _ _
    | exact noSh_str _
    | with_reducible rfl
    | with_reducible exact same_rfl
    | (refine Wr.i64 ?_ ?_; omega)
    | (refine Wr.u8 ?_ ?_; omega)
    | (refine Wr.i32 ?_ ?_; omega)
    | (with_reducible refine Br.tt ?_)
    | (with_reducible refine Br.ff ?_)
    | (refine Br.dT ?_ ?_; omega)
    | (refine Br.dF ?_ ?_; omega)
    | (refine Br.d (fun h => ?_) (fun h => ?_))
    | (refine Br.swap ?_)
    | (refine Br.bnot ?_)
    | (refine Br.mk (fun h => Step.out ?_) (fun h => Step.out ?_))
    | (refine Two.mk (Step.out ?_) (Step.out ?_))
    | (refine Cp.mk fun q hq => Step.out ?_)
    | (refine Ovl.mk (by assumption) (Step.out ?_))
    | (refine CallOK.io1 (g := 14) (Step.out ?_))
    | (refine CallOK.io1 (g := 43) (Step.out ?_))
    | (refine CallOK.io1 (g := 57) (Step.out ?_))
    | (refine CallOK.of_ct (Step.out ?_))
    | (refine CallQ.of_ct (Step.out ?_))
    | (refine Met.by (g := 14) (next_ct _ _) ?_; rintro q outs ⟨x, d, hx, rfl, rfl⟩)
    | (refine Met.by (g := 43) (one_ct _ _) ?_; rintro q outs ⟨x, d, hx, rfl, rfl⟩)
    | (refine Met.by (g := 57) (array_ct _) ?_; rintro q outs ⟨b, d, hb0, rfl, rfl⟩)
    | (refine Vc.mk ?_ (Step.out ?_))
  refine CodeOK.loopW hΓ hm ord44 [] (by kernel_rfl) (α := Dk × List Sn × Int × Int) (fun z => [(0, .loc 0 0), (1, i64 fl), (2, i64 ky), (9, .own 1), (10, i64 z.2.2.1), (11, i64 z.2.2.2)]) (fun z => [(0, .var z.1.ls), (1, .arr 74 5 z.2.1.length fun j => Sn.f (z.2.1.getD j Sn.z))]) 2 (fun z => 0 ≤ z.2.2.2 ∧ (z.2.1.length : Int) + z.2.2.2 ≤ m ∧ 0 ≤ z.2.2.1 ∧ z.2.2.1 ≤ 2 * (z.2.1.length : Int) ∧ (z.2.1.Pairwise fun a b => a.id < b.id) ∧ (∀ x ∈ z.2.1, x.id ≤ z.2.2.1)) (fun z => z.2.2.2.toNat) ?_ ?_
  · refine Again.by (d, [], 0, x) ⟨by dsimp only; omega, by simp; omega, by dsimp only; omega, by simp, by simp, by simp⟩ ?_
    repeat' first
      | (refine Step.mk ?_; conv => whnf)
      | (refine Vc.om ?_ ?_; first | omega | with_reducible rfl | with_reducible exact same_rfl | (simp only [bytes_2, bytes_3, bytes_4, bytes_5, bytes_9, bytes_12, bytes_21, bytes_22, bytes_25, bytes_27, bytes_28, bytes_30, bytes_32, bytes_33, bytes_36, bytes_37, bytes_38, bytes_39, bytes_41, bytes_42, bytes_43, bytes_44, bytes_45, bytes_46, bytes_52, bytes_56, bytes_58, bytes_60, bytes_67, bytes_68, bytes_69, bytes_70, bytes_71, bytes_72, bytes_73, bytes_74, bytes_75, bytes_76, bytes_77, bytes_81, bytes_84, bytes_85, bytes_87, bytes_95, bytes_96, bytes_111, bytes_115, true_and, and_true] <;> omega))
      | (refine NilB.mk fun b hb => Step.out ?_)
      | with_reducible trivial
      | exact noSh_bool _
      | exact noSh_lit _
      | exact noSh_int _ _
      | exact noSh_str _
      | with_reducible rfl
      | with_reducible exact same_rfl
      | (refine Wr.i64 ?_ ?_; omega)
      | (refine Wr.u8 ?_ ?_; omega)
      | (refine Wr.i32 ?_ ?_; omega)
      | (with_reducible refine Br.tt ?_)
      | (with_reducible refine Br.ff ?_)
      | (refine Br.dT ?_ ?_; omega)
      | (refine Br.dF ?_ ?_; omega)
      | (refine Br.d (fun h => ?_) (fun h => ?_))
      | (refine Br.swap ?_)
      | (refine Br.bnot ?_)
      | (refine Br.mk (fun h => Step.out ?_) (fun h => Step.out ?_))
      | (refine Two.mk (Step.out ?_) (Step.out ?_))
      | (refine Cp.mk fun q hq => Step.out ?_)
      | (refine Ovl.mk (by assumption) (Step.out ?_))
      | (refine CallOK.io1 (g := 14) (Step.out ?_))
      | (refine CallOK.io1 (g := 43) (Step.out ?_))
      | (refine CallOK.io1 (g := 57) (Step.out ?_))
      | (refine CallOK.of_ct (Step.out ?_))
      | (refine CallQ.of_ct (Step.out ?_))
      | (refine Met.by (g := 14) (next_ct _ _) ?_; rintro q outs ⟨x, d, hx, rfl, rfl⟩)
      | (refine Met.by (g := 43) (one_ct _ _) ?_; rintro q outs ⟨x, d, hx, rfl, rfl⟩)
      | (refine Met.by (g := 57) (array_ct _) ?_; rintro q outs ⟨b, d, hb0, rfl, rfl⟩)
      | (refine Vc.mk ?_ (Step.out ?_))
    all_goals rfl
  · intro ⟨d, l, id, n⟩ ⟨h1, h2, h3, h4, hpp, hmm⟩
    dsimp only at h1 h2 h3 h4 hpp hmm ⊢
    repeat' first
      | (refine Step.mk ?_; conv => whnf)
      | (refine Vc.om ?_ ?_; first | omega | with_reducible rfl | with_reducible exact same_rfl | (simp only [bytes_2, bytes_3, bytes_4, bytes_5, bytes_9, bytes_12, bytes_21, bytes_22, bytes_25, bytes_27, bytes_28, bytes_30, bytes_32, bytes_33, bytes_36, bytes_37, bytes_38, bytes_39, bytes_41, bytes_42, bytes_43, bytes_44, bytes_45, bytes_46, bytes_52, bytes_56, bytes_58, bytes_60, bytes_67, bytes_68, bytes_69, bytes_70, bytes_71, bytes_72, bytes_73, bytes_74, bytes_75, bytes_76, bytes_77, bytes_81, bytes_84, bytes_85, bytes_87, bytes_95, bytes_96, bytes_111, bytes_115, true_and, and_true] <;> omega))
      | (refine NilB.mk fun b hb => Step.out ?_)
      | with_reducible trivial
      | exact noSh_bool _
      | exact noSh_lit _
      | exact noSh_int _ _
      | exact noSh_str _
      | with_reducible rfl
      | with_reducible exact same_rfl
      | (refine Wr.i64 ?_ ?_; omega)
      | (refine Wr.u8 ?_ ?_; omega)
      | (refine Wr.i32 ?_ ?_; omega)
      | (with_reducible refine Br.tt ?_)
      | (with_reducible refine Br.ff ?_)
      | (refine Br.dT ?_ ?_; omega)
      | (refine Br.dF ?_ ?_; omega)
      | (refine Br.d (fun h => ?_) (fun h => ?_))
      | (refine Br.swap ?_)
      | (refine Br.bnot ?_)
      | (refine Br.mk (fun h => Step.out ?_) (fun h => Step.out ?_))
      | (refine Two.mk (Step.out ?_) (Step.out ?_))
      | (refine Cp.mk fun q hq => Step.out ?_)
      | (refine Ovl.mk (by assumption) (Step.out ?_))
      | (refine CallOK.io1 (g := 14) (Step.out ?_))
      | (refine CallOK.io1 (g := 43) (Step.out ?_))
      | (refine CallOK.io1 (g := 57) (Step.out ?_))
      | (refine CallOK.of_ct (Step.out ?_))
      | (refine CallQ.of_ct (Step.out ?_))
      | (refine Met.by (g := 14) (next_ct _ _) ?_; rintro q outs ⟨x, d, hx, rfl, rfl⟩)
      | (refine Met.by (g := 43) (one_ct _ _) ?_; rintro q outs ⟨x, d, hx, rfl, rfl⟩)
      | (refine Met.by (g := 57) (array_ct _) ?_; rintro q outs ⟨b, d, hb0, rfl, rfl⟩)
      | (refine Vc.mk ?_ (Step.out ?_))
    · rename_i a0 da ha0
      generalize hid : id + (1 + a0) = id' at *
      generalize hv : 1 + x = v at *
      refine CodeOK.loopW hΓ hm ord44 [] (by kernel_rfl) (α := Dk × List Bt × Int) (fun z => [(0, .loc 0 0), (1, i64 fl), (2, i64 ky), (9, .own 1), (10, i64 id'), (11, i64 n), (12, .loc 2 0), (13, i64 z.2.2)]) (fun z => [(0, .var z.1.ls), (1, .arr 74 5 l.length fun j => Sn.f (l.getD j Sn.z)), (2, .var [i64 id', i64 v, .own 3, .nil, .nil]), (3, .arr 96 2 z.2.1.length fun j => Bt.f (z.2.1.getD j Bt.z))]) 4 (fun z => 0 ≤ z.2.2 ∧ z.2.2 ≤ fl ∧ (z.2.1.length : Int) ≤ z.2.2) (fun z => (fl - z.2.2).toNat) ?_ ?_
      · refine Again.by (d, [], 0) ⟨by dsimp only; omega, by dsimp only; omega, by simp⟩ ?_
        repeat' first
          | (refine Step.mk ?_; conv => whnf)
          | (refine Vc.om ?_ ?_; first | omega | with_reducible rfl | with_reducible exact same_rfl | (simp only [bytes_2, bytes_3, bytes_4, bytes_5, bytes_9, bytes_12, bytes_21, bytes_22, bytes_25, bytes_27, bytes_28, bytes_30, bytes_32, bytes_33, bytes_36, bytes_37, bytes_38, bytes_39, bytes_41, bytes_42, bytes_43, bytes_44, bytes_45, bytes_46, bytes_52, bytes_56, bytes_58, bytes_60, bytes_67, bytes_68, bytes_69, bytes_70, bytes_71, bytes_72, bytes_73, bytes_74, bytes_75, bytes_76, bytes_77, bytes_81, bytes_84, bytes_85, bytes_87, bytes_95, bytes_96, bytes_111, bytes_115, true_and, and_true] <;> omega))
          | (refine NilB.mk fun b hb => Step.out ?_)
          | with_reducible trivial
          | exact noSh_bool _
          | exact noSh_lit _
          | exact noSh_int _ _
          | exact noSh_str _
          | with_reducible rfl
          | with_reducible exact same_rfl
          | (refine Wr.i64 ?_ ?_; omega)
          | (refine Wr.u8 ?_ ?_; omega)
          | (refine Wr.i32 ?_ ?_; omega)
          | (with_reducible refine Br.tt ?_)
          | (with_reducible refine Br.ff ?_)
          | (refine Br.dT ?_ ?_; omega)
          | (refine Br.dF ?_ ?_; omega)
          | (refine Br.d (fun h => ?_) (fun h => ?_))
          | (refine Br.swap ?_)
          | (refine Br.bnot ?_)
          | (refine Br.mk (fun h => Step.out ?_) (fun h => Step.out ?_))
          | (refine Two.mk (Step.out ?_) (Step.out ?_))
          | (refine Cp.mk fun q hq => Step.out ?_)
          | (refine Ovl.mk (by assumption) (Step.out ?_))
          | (refine CallOK.io1 (g := 14) (Step.out ?_))
          | (refine CallOK.io1 (g := 43) (Step.out ?_))
          | (refine CallOK.io1 (g := 57) (Step.out ?_))
          | (refine CallOK.of_ct (Step.out ?_))
          | (refine CallQ.of_ct (Step.out ?_))
          | (refine Met.by (g := 14) (next_ct _ _) ?_; rintro q outs ⟨x, d, hx, rfl, rfl⟩)
          | (refine Met.by (g := 43) (one_ct _ _) ?_; rintro q outs ⟨x, d, hx, rfl, rfl⟩)
          | (refine Met.by (g := 57) (array_ct _) ?_; rintro q outs ⟨b, d, hb0, rfl, rfl⟩)
          | (refine Vc.mk ?_ (Step.out ?_))
        all_goals first | rfl | exact ⟨rfl, fun _ _ => rfl⟩
      · intro ⟨d, bs, i⟩ ⟨h5, h6, h7⟩
        dsimp only at h5 h6 h7 ⊢
        repeat' first
          | (refine Step.mk ?_; conv => whnf)
          | (refine Vc.om ?_ ?_; first | omega | with_reducible rfl | with_reducible exact same_rfl | (simp only [bytes_2, bytes_3, bytes_4, bytes_5, bytes_9, bytes_12, bytes_21, bytes_22, bytes_25, bytes_27, bytes_28, bytes_30, bytes_32, bytes_33, bytes_36, bytes_37, bytes_38, bytes_39, bytes_41, bytes_42, bytes_43, bytes_44, bytes_45, bytes_46, bytes_52, bytes_56, bytes_58, bytes_60, bytes_67, bytes_68, bytes_69, bytes_70, bytes_71, bytes_72, bytes_73, bytes_74, bytes_75, bytes_76, bytes_77, bytes_81, bytes_84, bytes_85, bytes_87, bytes_95, bytes_96, bytes_111, bytes_115, true_and, and_true] <;> omega))
          | (refine NilB.mk fun b hb => Step.out ?_)
          | with_reducible trivial
          | exact noSh_bool _
          | exact noSh_lit _
          | exact noSh_int _ _
          | exact noSh_str _
          | with_reducible rfl
          | with_reducible exact same_rfl
          | (refine Wr.i64 ?_ ?_; omega)
          | (refine Wr.u8 ?_ ?_; omega)
          | (refine Wr.i32 ?_ ?_; omega)
          | (with_reducible refine Br.tt ?_)
          | (with_reducible refine Br.ff ?_)
          | (refine Br.dT ?_ ?_; omega)
          | (refine Br.dF ?_ ?_; omega)
          | (refine Br.d (fun h => ?_) (fun h => ?_))
          | (refine Br.swap ?_)
          | (refine Br.bnot ?_)
          | (refine Br.mk (fun h => Step.out ?_) (fun h => Step.out ?_))
          | (refine Two.mk (Step.out ?_) (Step.out ?_))
          | (refine Cp.mk fun q hq => Step.out ?_)
          | (refine Ovl.mk (by assumption) (Step.out ?_))
          | (refine CallOK.io1 (g := 14) (Step.out ?_))
          | (refine CallOK.io1 (g := 43) (Step.out ?_))
          | (refine CallOK.io1 (g := 57) (Step.out ?_))
          | (refine CallOK.of_ct (Step.out ?_))
          | (refine CallQ.of_ct (Step.out ?_))
          | (refine Met.by (g := 14) (next_ct _ _) ?_; rintro q outs ⟨x, d, hx, rfl, rfl⟩)
          | (refine Met.by (g := 43) (one_ct _ _) ?_; rintro q outs ⟨x, d, hx, rfl, rfl⟩)
          | (refine Met.by (g := 57) (array_ct _) ?_; rintro q outs ⟨b, d, hb0, rfl, rfl⟩)
          | (refine Vc.mk ?_ (Step.out ?_))
        all_goals try
          refine Again.by (d, bs ++ [b], i + 1) ⟨⟨by dsimp only; omega, by dsimp only; omega, by simp; omega⟩, by dsimp only; omega⟩ ?_
          repeat' first
            | (refine Step.mk ?_; conv => whnf)
            | (refine Vc.om ?_ ?_; first | omega | with_reducible rfl | with_reducible exact same_rfl | (simp only [bytes_2, bytes_3, bytes_4, bytes_5, bytes_9, bytes_12, bytes_21, bytes_22, bytes_25, bytes_27, bytes_28, bytes_30, bytes_32, bytes_33, bytes_36, bytes_37, bytes_38, bytes_39, bytes_41, bytes_42, bytes_43, bytes_44, bytes_45, bytes_46, bytes_52, bytes_56, bytes_58, bytes_60, bytes_67, bytes_68, bytes_69, bytes_70, bytes_71, bytes_72, bytes_73, bytes_74, bytes_75, bytes_76, bytes_77, bytes_81, bytes_84, bytes_85, bytes_87, bytes_95, bytes_96, bytes_111, bytes_115, true_and, and_true] <;> omega))
            | (refine NilB.mk fun b hb => Step.out ?_)
            | with_reducible trivial
            | exact noSh_bool _
            | exact noSh_lit _
            | exact noSh_int _ _
            | exact noSh_str _
            | with_reducible rfl
            | with_reducible exact same_rfl
            | (refine Wr.i64 ?_ ?_; omega)
            | (refine Wr.u8 ?_ ?_; omega)
            | (refine Wr.i32 ?_ ?_; omega)
            | (with_reducible refine Br.tt ?_)
            | (with_reducible refine Br.ff ?_)
            | (refine Br.dT ?_ ?_; omega)
            | (refine Br.dF ?_ ?_; omega)
            | (refine Br.d (fun h => ?_) (fun h => ?_))
            | (refine Br.swap ?_)
            | (refine Br.bnot ?_)
            | (refine Br.mk (fun h => Step.out ?_) (fun h => Step.out ?_))
            | (refine Two.mk (Step.out ?_) (Step.out ?_))
            | (refine Cp.mk fun q hq => Step.out ?_)
            | (refine Ovl.mk (by assumption) (Step.out ?_))
            | (refine CallOK.io1 (g := 14) (Step.out ?_))
            | (refine CallOK.io1 (g := 43) (Step.out ?_))
            | (refine CallOK.io1 (g := 57) (Step.out ?_))
            | (refine CallOK.of_ct (Step.out ?_))
            | (refine CallQ.of_ct (Step.out ?_))
            | (refine Met.by (g := 14) (next_ct _ _) ?_; rintro q outs ⟨x, d, hx, rfl, rfl⟩)
            | (refine Met.by (g := 43) (one_ct _ _) ?_; rintro q outs ⟨x, d, hx, rfl, rfl⟩)
            | (refine Met.by (g := 57) (array_ct _) ?_; rintro q outs ⟨b, d, hb0, rfl, rfl⟩)
            | (refine Vc.mk ?_ (Step.out ?_))
          all_goals exact app1 Bt.f Bt.z ite_bt bs b
        · refine CodeOK.loopW hΓ hm ord44 [] (by kernel_rfl) (α := Dk × List Int × List Bool × Int) (fun z => [(0, .loc 0 0), (1, i64 fl), (2, i64 ky), (9, .own 1), (10, i64 id'), (11, i64 n), (12, .loc 2 0), (14, i64 z.2.2.2)]) (fun z => [(0, .var z.1.ls), (1, .arr 74 5 l.length fun j => Sn.f (l.getD j Sn.z)), (2, .var [i64 id', i64 v, .own 3, .own 4, .own 5]), (3, .arr 96 2 bs.length fun j => Bt.f (bs.getD j Bt.z)), (4, .arr 75 1 z.2.1.length fun j => [u64 (z.2.1.getD j 0)]), (5, .arr 4 1 z.2.2.1.length fun j => [.bool (z.2.2.1.getD j false)])]) 6 (fun z => 0 ≤ z.2.2.2 ∧ z.2.2.2 ≤ ky ∧ (z.2.1.length : Int) ≤ z.2.2.2 ∧ (z.2.2.1.length : Int) ≤ z.2.2.2) (fun z => (ky - z.2.2.2).toNat) ?_ ?_
          · refine Again.by (d, [], [], 0) ⟨by dsimp only; omega, by dsimp only; omega, by simp, by simp⟩ ?_
            repeat' first
              | (refine Step.mk ?_; conv => whnf)
              | (refine Vc.om ?_ ?_; first | omega | with_reducible rfl | with_reducible exact same_rfl | (simp only [bytes_2, bytes_3, bytes_4, bytes_5, bytes_9, bytes_12, bytes_21, bytes_22, bytes_25, bytes_27, bytes_28, bytes_30, bytes_32, bytes_33, bytes_36, bytes_37, bytes_38, bytes_39, bytes_41, bytes_42, bytes_43, bytes_44, bytes_45, bytes_46, bytes_52, bytes_56, bytes_58, bytes_60, bytes_67, bytes_68, bytes_69, bytes_70, bytes_71, bytes_72, bytes_73, bytes_74, bytes_75, bytes_76, bytes_77, bytes_81, bytes_84, bytes_85, bytes_87, bytes_95, bytes_96, bytes_111, bytes_115, true_and, and_true] <;> omega))
              | (refine NilB.mk fun b hb => Step.out ?_)
              | with_reducible trivial
              | exact noSh_bool _
              | exact noSh_lit _
              | exact noSh_int _ _
              | exact noSh_str _
              | with_reducible rfl
              | with_reducible exact same_rfl
              | (refine Wr.i64 ?_ ?_; omega)
              | (refine Wr.u8 ?_ ?_; omega)
              | (refine Wr.i32 ?_ ?_; omega)
              | (with_reducible refine Br.tt ?_)
              | (with_reducible refine Br.ff ?_)
              | (refine Br.dT ?_ ?_; omega)
              | (refine Br.dF ?_ ?_; omega)
              | (refine Br.d (fun h => ?_) (fun h => ?_))
              | (refine Br.swap ?_)
              | (refine Br.bnot ?_)
              | (refine Br.mk (fun h => Step.out ?_) (fun h => Step.out ?_))
              | (refine Two.mk (Step.out ?_) (Step.out ?_))
              | (refine Cp.mk fun q hq => Step.out ?_)
              | (refine Ovl.mk (by assumption) (Step.out ?_))
              | (refine CallOK.io1 (g := 14) (Step.out ?_))
              | (refine CallOK.io1 (g := 43) (Step.out ?_))
              | (refine CallOK.io1 (g := 57) (Step.out ?_))
              | (refine CallOK.of_ct (Step.out ?_))
              | (refine CallQ.of_ct (Step.out ?_))
              | (refine Met.by (g := 14) (next_ct _ _) ?_; rintro q outs ⟨x, d, hx, rfl, rfl⟩)
              | (refine Met.by (g := 43) (one_ct _ _) ?_; rintro q outs ⟨x, d, hx, rfl, rfl⟩)
              | (refine Met.by (g := 57) (array_ct _) ?_; rintro q outs ⟨b, d, hb0, rfl, rfl⟩)
              | (refine Vc.mk ?_ (Step.out ?_))
            all_goals first | rfl | exact ⟨rfl, fun _ _ => rfl⟩
          · intro ⟨d, hs, ts, i⟩ ⟨h8, h9, ha, hb'⟩
            dsimp only at h8 h9 ha hb' ⊢
            repeat' first
              | (refine Step.mk ?_; conv => whnf)
              | (refine Vc.om ?_ ?_; first | omega | with_reducible rfl | with_reducible exact same_rfl | (simp only [bytes_2, bytes_3, bytes_4, bytes_5, bytes_9, bytes_12, bytes_21, bytes_22, bytes_25, bytes_27, bytes_28, bytes_30, bytes_32, bytes_33, bytes_36, bytes_37, bytes_38, bytes_39, bytes_41, bytes_42, bytes_43, bytes_44, bytes_45, bytes_46, bytes_52, bytes_56, bytes_58, bytes_60, bytes_67, bytes_68, bytes_69, bytes_70, bytes_71, bytes_72, bytes_73, bytes_74, bytes_75, bytes_76, bytes_77, bytes_81, bytes_84, bytes_85, bytes_87, bytes_95, bytes_96, bytes_111, bytes_115, true_and, and_true] <;> omega))
              | (refine NilB.mk fun b hb => Step.out ?_)
              | with_reducible trivial
              | exact noSh_bool _
              | exact noSh_lit _
              | exact noSh_int _ _
              | exact noSh_str _
              | with_reducible rfl
              | with_reducible exact same_rfl
              | (refine Wr.i64 ?_ ?_; omega)
              | (refine Wr.u8 ?_ ?_; omega)
              | (refine Wr.i32 ?_ ?_; omega)
              | (with_reducible refine Br.tt ?_)
              | (with_reducible refine Br.ff ?_)
              | (refine Br.dT ?_ ?_; omega)
              | (refine Br.dF ?_ ?_; omega)
              | (refine Wr.u64 ?_ ?_; omega)
              | (refine Br.d (fun h => ?_) (fun h => ?_))
              | (refine Br.swap ?_)
              | (refine Br.bnot ?_)
              | (refine Br.mk (fun h => Step.out ?_) (fun h => Step.out ?_))
              | (refine Two.mk (Step.out ?_) (Step.out ?_))
              | (refine Cp.mk fun q hq => Step.out ?_)
              | (refine Ovl.mk (by assumption) (Step.out ?_))
              | (refine CallOK.io1 (g := 14) (Step.out ?_))
              | (refine CallOK.io1 (g := 43) (Step.out ?_))
              | (refine CallOK.io1 (g := 57) (Step.out ?_))
              | (refine CallOK.of_ct (Step.out ?_))
              | (refine CallQ.of_ct (Step.out ?_))
              | (refine Met.by (g := 14) (next_ct _ _) ?_; rintro q outs ⟨x, d, hx, rfl, rfl⟩)
              | (refine Met.by (g := 43) (one_ct _ _) ?_; rintro q outs ⟨x, d, hx, rfl, rfl⟩)
              | (refine Met.by (g := 57) (array_ct _) ?_; rintro q outs ⟨b, d, hb0, rfl, rfl⟩)
              | (refine Vc.mk ?_ (Step.out ?_))
            all_goals try
              have hxt : x = true := ‹_›
              refine Again.by (d, hs ++ [0], ts ++ [!x], i + 1) ⟨⟨by dsimp only; omega, by dsimp only; omega, by simp; omega, by simp; omega⟩, by dsimp only; omega⟩ ?_
              repeat' first
                | (refine Step.mk ?_; conv => whnf)
                | (refine Vc.om ?_ ?_; first | omega | with_reducible rfl | with_reducible exact same_rfl | (simp only [bytes_2, bytes_3, bytes_4, bytes_5, bytes_9, bytes_12, bytes_21, bytes_22, bytes_25, bytes_27, bytes_28, bytes_30, bytes_32, bytes_33, bytes_36, bytes_37, bytes_38, bytes_39, bytes_41, bytes_42, bytes_43, bytes_44, bytes_45, bytes_46, bytes_52, bytes_56, bytes_58, bytes_60, bytes_67, bytes_68, bytes_69, bytes_70, bytes_71, bytes_72, bytes_73, bytes_74, bytes_75, bytes_76, bytes_77, bytes_81, bytes_84, bytes_85, bytes_87, bytes_95, bytes_96, bytes_111, bytes_115, true_and, and_true] <;> omega))
                | (refine NilB.mk fun b hb => Step.out ?_)
                | with_reducible trivial
                | exact noSh_bool _
                | exact noSh_lit _
                | exact noSh_int _ _
                | exact noSh_str _
                | with_reducible rfl
                | with_reducible exact same_rfl
                | (refine Wr.i64 ?_ ?_; omega)
                | (refine Wr.u8 ?_ ?_; omega)
                | (refine Wr.i32 ?_ ?_; omega)
                | (with_reducible refine Br.tt ?_)
                | (with_reducible refine Br.ff ?_)
                | (refine Br.dT ?_ ?_; omega)
                | (refine Br.dF ?_ ?_; omega)
                | (refine Br.d (fun h => ?_) (fun h => ?_))
                | (refine Br.swap ?_)
                | (refine Br.bnot ?_)
                | (refine Br.mk (fun h => Step.out ?_) (fun h => Step.out ?_))
                | (refine Two.mk (Step.out ?_) (Step.out ?_))
                | (refine Cp.mk fun q hq => Step.out ?_)
                | (refine Ovl.mk (by assumption) (Step.out ?_))
                | (refine CallOK.io1 (g := 14) (Step.out ?_))
                | (refine CallOK.io1 (g := 43) (Step.out ?_))
                | (refine CallOK.io1 (g := 57) (Step.out ?_))
                | (refine CallOK.of_ct (Step.out ?_))
                | (refine CallQ.of_ct (Step.out ?_))
                | (refine Met.by (g := 14) (next_ct _ _) ?_; rintro q outs ⟨x, d, hx, rfl, rfl⟩)
                | (refine Met.by (g := 43) (one_ct _ _) ?_; rintro q outs ⟨x, d, hx, rfl, rfl⟩)
                | (refine Met.by (g := 57) (array_ct _) ?_; rintro q outs ⟨b, d, hb0, rfl, rfl⟩)
                | (refine Vc.mk ?_ (Step.out ?_))
              all_goals first | exact app1 (fun x : Int => [u64 x]) 0 ite_u hs _ | exact app1 (fun x : Bool => [D.bool x]) false ite_b ts _
            all_goals try
              rename_i x0 dx hx0
              have hxt : x0 = false := ‹_›
              refine Again.by (d, hs ++ [x], ts ++ [!x0], i + 1) ⟨⟨by dsimp only; omega, by dsimp only; omega, by simp; omega, by simp; omega⟩, by dsimp only; omega⟩ ?_
              repeat' first
                | (refine Step.mk ?_; conv => whnf)
                | (refine Vc.om ?_ ?_; first | omega | with_reducible rfl | with_reducible exact same_rfl | (simp only [bytes_2, bytes_3, bytes_4, bytes_5, bytes_9, bytes_12, bytes_21, bytes_22, bytes_25, bytes_27, bytes_28, bytes_30, bytes_32, bytes_33, bytes_36, bytes_37, bytes_38, bytes_39, bytes_41, bytes_42, bytes_43, bytes_44, bytes_45, bytes_46, bytes_52, bytes_56, bytes_58, bytes_60, bytes_67, bytes_68, bytes_69, bytes_70, bytes_71, bytes_72, bytes_73, bytes_74, bytes_75, bytes_76, bytes_77, bytes_81, bytes_84, bytes_85, bytes_87, bytes_95, bytes_96, bytes_111, bytes_115, true_and, and_true] <;> omega))
                | (refine NilB.mk fun b hb => Step.out ?_)
                | with_reducible trivial
                | exact noSh_bool _
                | exact noSh_lit _
                | exact noSh_int _ _
                | exact noSh_str _
                | with_reducible rfl
                | with_reducible exact same_rfl
                | (refine Wr.i64 ?_ ?_; omega)
                | (refine Wr.u8 ?_ ?_; omega)
                | (refine Wr.i32 ?_ ?_; omega)
                | (with_reducible refine Br.tt ?_)
                | (with_reducible refine Br.ff ?_)
                | (refine Br.dT ?_ ?_; omega)
                | (refine Br.dF ?_ ?_; omega)
                | (refine Br.d (fun h => ?_) (fun h => ?_))
                | (refine Br.swap ?_)
                | (refine Br.bnot ?_)
                | (refine Br.mk (fun h => Step.out ?_) (fun h => Step.out ?_))
                | (refine Two.mk (Step.out ?_) (Step.out ?_))
                | (refine Cp.mk fun q hq => Step.out ?_)
                | (refine Ovl.mk (by assumption) (Step.out ?_))
                | (refine CallOK.io1 (g := 14) (Step.out ?_))
                | (refine CallOK.io1 (g := 43) (Step.out ?_))
                | (refine CallOK.io1 (g := 57) (Step.out ?_))
                | (refine CallOK.of_ct (Step.out ?_))
                | (refine CallQ.of_ct (Step.out ?_))
                | (refine Met.by (g := 14) (next_ct _ _) ?_; rintro q outs ⟨x, d, hx, rfl, rfl⟩)
                | (refine Met.by (g := 43) (one_ct _ _) ?_; rintro q outs ⟨x, d, hx, rfl, rfl⟩)
                | (refine Met.by (g := 57) (array_ct _) ?_; rintro q outs ⟨b, d, hb0, rfl, rfl⟩)
                | (refine Vc.mk ?_ (Step.out ?_))
              all_goals first | exact app1 (fun x : Int => [u64 x]) 0 ite_u hs _ | exact app1 (fun x : Bool => [D.bool x]) false ite_b ts _
            · refine Again.by (d, l ++ [Sn.mk id' v bs hs ts], id', n - 1) ?_ ?_
              · dsimp only
                rw [List.length_append, List.length_singleton]
                have hq := asc_push (y := Sn.mk id' v bs hs ts) hpp hmm (by dsimp only; omega)
                refine ⟨⟨by omega, by omega, by omega, by omega, hq.1, hq.2⟩, by omega⟩
              · repeat' first
                  | (refine Step.mk ?_; conv => whnf)
                  | (refine Vc.om ?_ ?_; first | omega | with_reducible rfl | with_reducible exact same_rfl | (simp only [bytes_2, bytes_3, bytes_4, bytes_5, bytes_9, bytes_12, bytes_21, bytes_22, bytes_25, bytes_27, bytes_28, bytes_30, bytes_32, bytes_33, bytes_36, bytes_37, bytes_38, bytes_39, bytes_41, bytes_42, bytes_43, bytes_44, bytes_45, bytes_46, bytes_52, bytes_56, bytes_58, bytes_60, bytes_67, bytes_68, bytes_69, bytes_70, bytes_71, bytes_72, bytes_73, bytes_74, bytes_75, bytes_76, bytes_77, bytes_81, bytes_84, bytes_85, bytes_87, bytes_95, bytes_96, bytes_111, bytes_115, true_and, and_true] <;> omega))
                  | (refine NilB.mk fun b hb => Step.out ?_)
                  | with_reducible trivial
                  | exact noSh_bool _
                  | exact noSh_lit _
                  | exact noSh_int _ _
                  | exact noSh_str _
                  | with_reducible rfl
                  | with_reducible exact same_rfl
                  | (refine Wr.i64 ?_ ?_; omega)
                  | (refine Wr.u8 ?_ ?_; omega)
                  | (refine Wr.i32 ?_ ?_; omega)
                  | (with_reducible refine Br.tt ?_)
                  | (with_reducible refine Br.ff ?_)
                  | (refine Br.dT ?_ ?_; omega)
                  | (refine Br.dF ?_ ?_; omega)
                  | (refine Br.d (fun h => ?_) (fun h => ?_))
                  | (refine Br.swap ?_)
                  | (refine Br.bnot ?_)
                  | (refine Br.mk (fun h => Step.out ?_) (fun h => Step.out ?_))
                  | (refine Two.mk (Step.out ?_) (Step.out ?_))
                  | (refine Cp.mk fun q hq => Step.out ?_)
                  | (refine Ovl.mk (by assumption) (Step.out ?_))
                  | (refine CallOK.io1 (g := 14) (Step.out ?_))
                  | (refine CallOK.io1 (g := 43) (Step.out ?_))
                  | (refine CallOK.io1 (g := 57) (Step.out ?_))
                  | (refine CallOK.of_ct (Step.out ?_))
                  | (refine CallQ.of_ct (Step.out ?_))
                  | (refine Met.by (g := 14) (next_ct _ _) ?_; rintro q outs ⟨x, d, hx, rfl, rfl⟩)
                  | (refine Met.by (g := 43) (one_ct _ _) ?_; rintro q outs ⟨x, d, hx, rfl, rfl⟩)
                  | (refine Met.by (g := 57) (array_ct _) ?_; rintro q outs ⟨b, d, hb0, rfl, rfl⟩)
                  | (refine Vc.mk ?_ (Step.out ?_))
                all_goals exact app1 Sn.f Sn.z ite_sn l _
    · refine Lf2.by l d ⟨by omega, hpp⟩ ?_
      repeat' first
        | (refine Step.mk ?_; conv => whnf)
        | (refine Vc.om ?_ ?_; first | omega | with_reducible rfl | with_reducible exact same_rfl | (simp only [bytes_2, bytes_3, bytes_4, bytes_5, bytes_9, bytes_12, bytes_21, bytes_22, bytes_25, bytes_27, bytes_28, bytes_30, bytes_32, bytes_33, bytes_36, bytes_37, bytes_38, bytes_39, bytes_41, bytes_42, bytes_43, bytes_44, bytes_45, bytes_46, bytes_52, bytes_56, bytes_58, bytes_60, bytes_67, bytes_68, bytes_69, bytes_70, bytes_71, bytes_72, bytes_73, bytes_74, bytes_75, bytes_76, bytes_77, bytes_81, bytes_84, bytes_85, bytes_87, bytes_95, bytes_96, bytes_111, bytes_115, true_and, and_true] <;> omega))
        | (refine NilB.mk fun b hb => Step.out ?_)
        | with_reducible trivial
        | exact noSh_bool _
        | exact noSh_lit _
        | exact noSh_int _ _
        | exact noSh_str _
        | with_reducible rfl
        | with_reducible exact same_rfl
        | (refine Wr.i64 ?_ ?_; omega)
        | (refine Wr.u8 ?_ ?_; omega)
        | (refine Wr.i32 ?_ ?_; omega)
        | (with_reducible refine Br.tt ?_)
        | (with_reducible refine Br.ff ?_)
        | (refine Br.dT ?_ ?_; omega)
        | (refine Br.dF ?_ ?_; omega)
        | (refine Br.d (fun h => ?_) (fun h => ?_))
        | (refine Br.swap ?_)
        | (refine Br.bnot ?_)
        | (refine Br.mk (fun h => Step.out ?_) (fun h => Step.out ?_))
        | (refine Two.mk (Step.out ?_) (Step.out ?_))
        | (refine Cp.mk fun q hq => Step.out ?_)
        | (refine Ovl.mk (by assumption) (Step.out ?_))
        | (refine CallOK.io1 (g := 14) (Step.out ?_))
        | (refine CallOK.io1 (g := 43) (Step.out ?_))
        | (refine CallOK.io1 (g := 57) (Step.out ?_))
        | (refine CallOK.of_ct (Step.out ?_))
        | (refine CallQ.of_ct (Step.out ?_))
        | (refine Met.by (g := 14) (next_ct _ _) ?_; rintro q outs ⟨x, d, hx, rfl, rfl⟩)
        | (refine Met.by (g := 43) (one_ct _ _) ?_; rintro q outs ⟨x, d, hx, rfl, rfl⟩)
        | (refine Met.by (g := 57) (array_ct _) ?_; rintro q outs ⟨b, d, hb0, rfl, rfl⟩)
        | (refine Vc.mk ?_ (Step.out ?_))
      all_goals exact ⟨rfl, fun _ _ => rfl⟩
end Kx
