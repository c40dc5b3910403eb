/-
  The law Stands.
  No condition beyond those written in each theorem.
-/
import Derived.Test.YtbljbblijepbbaaKGp
open Go Sx Go.Proofs
set_option linter.unusedSimpArgs false
set_option linter.unusedVariables false
namespace Kx
theorem filter_at {α : Type} (p : α → Bool) (z : α) : ∀ (l : List α) (i : Nat), i < l.length → p (l.getD i z) = true → ((l.take i).filter p).length < (l.filter p).length ∧ (l.filter p).getD ((l.take i).filter p).length z = l.getD i z
  | x :: l, 0, _, h => by
    have h : p x = true := h
    rw [List.take_zero, List.filter_nil, List.filter_cons, if_pos h]
    exact ⟨by simp, rfl⟩
  | x :: l, i + 1, hi, h => by
    have ih := filter_at p z l i (by simpa using hi) (by simpa using h)
    rw [List.take_succ_cons, List.filter_cons, List.filter_cons]
    cases hx : p x with
    | true =>
      simp only [if_true, List.length_cons]
      refine ⟨by omega, ?_⟩
      rw [List.getD_cons_succ, ih.2, List.getD_cons_succ]
    | false =>
      simp only [Bool.false_eq_true, if_false]
      exact ⟨ih.1, by rw [ih.2, List.getD_cons_succ]⟩
theorem upd_reg {s : List De} (h : UpD 3 0 0 0 s) {x : De} (hx : x ∈ s) : 0 ≤ x.a.g ∧ x.a.g < 3 ∧ 0 ≤ x.b.g ∧ x.b.g < 3 := by
  obtain ⟨h1, _, _, h4⟩ := h.q x hx
  simp only [cplB, refB, Bool.and_eq_true, decide_eq_true_eq] at h1
  omega
set_option maxHeartbeats 4000000 in
theorem stands_ct (y0 : List Int) : Ct Try.prog 7 [ints y0] fun r outs => r = .bool true ∧ outs = [] := by
  refine .det (.of_W (fn := Try.f7) hΓ hm Try.func7 ord7 [] (by kernel_rfl) (Step.out ?_))
  repeat' first
    | (refine Step.mk ?_; conv => whnf)
    | (refine Vc.om ?_ ?_; first | omega | with_reducible rfl | with_reducible exact same_rfl | (simp only [bytes_2, bytes_3, bytes_4, bytes_5, bytes_9, bytes_12, bytes_21, bytes_22, bytes_25, bytes_27, bytes_28, bytes_30, bytes_32, bytes_33, bytes_36, bytes_37, bytes_38, bytes_39, bytes_41, bytes_42, bytes_43, bytes_44, bytes_45, bytes_46, bytes_52, bytes_56, bytes_58, bytes_60, bytes_67, bytes_68, bytes_69, bytes_70, bytes_71, bytes_72, bytes_73, bytes_74, bytes_75, bytes_76, bytes_77, bytes_81, bytes_84, bytes_85, bytes_87, bytes_95, bytes_96, bytes_111, bytes_115, true_and, and_true] <;> omega))
    | (refine NilB.mk fun b hb => Step.out ?_)
    | with_reducible trivial
    | exact noSh_bool _
    | exact noSh_lit _
    | exact noSh_int _ _
    | exact noSh_str _
    | with_reducible rfl
    | with_reducible exact same_rfl
    | (refine Wr.i64 ?_ ?_; omega)
    | (refine Wr.u8 ?_ ?_; omega)
    | (refine Wr.i32 ?_ ?_; omega)
    | (with_reducible refine Br.tt ?_)
    | (with_reducible refine Br.ff ?_)
    | (refine Br.dT ?_ ?_; omega)
    | (refine Br.dF ?_ ?_; omega)
    | (refine Met.by (standing_ct L l (hL.ok (by omega)) (by have := hl.n; omega)) ?_; rintro q outs ⟨rfl, rfl⟩)
    | (refine Br.d (fun h => ?_) (fun h => ?_))
    | (refine Br.swap ?_)
    | (refine Br.bnot ?_)
    | (refine Br.mk (fun h => Step.out ?_) (fun h => Step.out ?_))
    | (refine Two.mk (Step.out ?_) (Step.out ?_))
    | (refine Cp.mk fun q hq => Step.out ?_)
    | (refine Ovl.mk (by assumption) (Step.out ?_))
    | (refine CallOK.io1 (g := 17) (Step.out ?_))
    | (refine CallOK.io1 (g := 19) (Step.out ?_))
    | (refine CallOK.ctF (g := 36) (Step.out ?_))
    | (refine CallOK.of_ct (Step.out ?_))
    | (refine CallQ.of_ct (Step.out ?_))
    | (refine Met.by (g := 8) (awake_ct) ?_; rintro q outs ⟨rfl, rfl⟩)
    | (refine Met.by (g := 9) (few_ct _) ?_; rintro q outs ⟨rfl, rfl⟩)
    | (refine Met.by (g := 10) (new_ct _ (by assumption)) ?_; rintro q outs ⟨d, hd, rfl, rfl⟩)
    | (refine Met.by (g := 17) (decs_ct _ _ _ _ (by omega) (by omega)) ?_; rintro q outs ⟨l, d, hl, rfl, rfl⟩)
    | (refine Met.by (g := 19) (sheets_ct _ _ _ _ _ (by omega) (by omega) (by omega) (by omega)) ?_; rintro q outs ⟨L, d, hL, rfl, rfl⟩)
    | (refine Met.by (g := 36) (standing_ct _ _ (by assumption) (by omega)) ?_; rintro q outs ⟨rfl, rfl⟩)
    | (refine Vc.mk ?_ (Step.out ?_))
  generalize l = s at *
  have hs := hl.n
  have hLn := hL.n
  have hgl : (standL L s).length ≤ s.length := List.length_filter_le _ _
  refine CodeOK.loopW hΓ hm ord7 [] (by kernel_rfl) (α := Nat) (fun i => [(4, shs L), (6, des (standL L s)), (7, i64 ((s.take i).filter (stB L)).length), (34, des s), (35, i64 s.length), (36, i64 i)]) (fun i => []) 0 (fun i => i ≤ s.length) (fun i => s.length - i) ?_ ?_
  · refine Again.by 0 (Nat.zero_le _) ?_
    repeat' first
      | (refine Step.mk ?_; conv => whnf)
      | (refine Vc.om ?_ ?_; first | omega | with_reducible rfl | with_reducible exact same_rfl | (simp only [bytes_2, bytes_3, bytes_4, bytes_5, bytes_9, bytes_12, bytes_21, bytes_22, bytes_25, bytes_27, bytes_28, bytes_30, bytes_32, bytes_33, bytes_36, bytes_37, bytes_38, bytes_39, bytes_41, bytes_42, bytes_43, bytes_44, bytes_45, bytes_46, bytes_52, bytes_56, bytes_58, bytes_60, bytes_67, bytes_68, bytes_69, bytes_70, bytes_71, bytes_72, bytes_73, bytes_74, bytes_75, bytes_76, bytes_77, bytes_81, bytes_84, bytes_85, bytes_87, bytes_95, bytes_96, bytes_111, bytes_115, true_and, and_true] <;> omega))
      | (refine NilB.mk fun b hb => Step.out ?_)
      | with_reducible trivial
      | exact noSh_bool _
      | exact noSh_lit _
      | exact noSh_int _ _
      | exact noSh_str _
      | with_reducible rfl
      | with_reducible exact same_rfl
      | (refine Wr.i64 ?_ ?_; omega)
      | (refine Wr.u8 ?_ ?_; omega)
      | (refine Wr.i32 ?_ ?_; omega)
      | (with_reducible refine Br.tt ?_)
      | (with_reducible refine Br.ff ?_)
      | (refine Br.dT ?_ ?_; omega)
      | (refine Br.dF ?_ ?_; omega)
      | (refine Br.d (fun h => ?_) (fun h => ?_))
      | (refine Br.swap ?_)
      | (refine Br.bnot ?_)
      | (refine Br.mk (fun h => Step.out ?_) (fun h => Step.out ?_))
      | (refine Two.mk (Step.out ?_) (Step.out ?_))
      | (refine Cp.mk fun q hq => Step.out ?_)
      | (refine Ovl.mk (by assumption) (Step.out ?_))
      | (refine CallOK.io1 (g := 17) (Step.out ?_))
      | (refine CallOK.io1 (g := 19) (Step.out ?_))
      | (refine CallOK.ctF (g := 36) (Step.out ?_))
      | (refine CallOK.of_ct (Step.out ?_))
      | (refine CallQ.of_ct (Step.out ?_))
      | (refine Met.by (g := 8) (awake_ct) ?_; rintro q outs ⟨rfl, rfl⟩)
      | (refine Met.by (g := 9) (few_ct _) ?_; rintro q outs ⟨rfl, rfl⟩)
      | (refine Met.by (g := 10) (new_ct _ (by assumption)) ?_; rintro q outs ⟨d, hd, rfl, rfl⟩)
      | (refine Met.by (g := 17) (decs_ct _ _ _ _ (by omega) (by omega)) ?_; rintro q outs ⟨l, d, hl, rfl, rfl⟩)
      | (refine Met.by (g := 19) (sheets_ct _ _ _ _ _ (by omega) (by omega) (by omega) (by omega)) ?_; rintro q outs ⟨L, d, hL, rfl, rfl⟩)
      | (refine Met.by (g := 36) (standing_ct _ _ (by assumption) (by omega)) ?_; rintro q outs ⟨rfl, rfl⟩)
      | (refine Vc.mk ?_ (Step.out ?_))
    all_goals first | rfl | exact ⟨rfl, fun _ _ => rfl⟩
  · intro i hi
    have hfi : ((s.take i).filter (stB L)).length ≤ i := Nat.le_trans (List.length_filter_le _ _) (by rw [List.length_take]; omega)
    repeat' first
      | (refine Step.mk ?_; conv => whnf)
      | (refine Vc.om ?_ ?_; first | omega | with_reducible rfl | with_reducible exact same_rfl | (simp only [bytes_2, bytes_3, bytes_4, bytes_5, bytes_9, bytes_12, bytes_21, bytes_22, bytes_25, bytes_27, bytes_28, bytes_30, bytes_32, bytes_33, bytes_36, bytes_37, bytes_38, bytes_39, bytes_41, bytes_42, bytes_43, bytes_44, bytes_45, bytes_46, bytes_52, bytes_56, bytes_58, bytes_60, bytes_67, bytes_68, bytes_69, bytes_70, bytes_71, bytes_72, bytes_73, bytes_74, bytes_75, bytes_76, bytes_77, bytes_81, bytes_84, bytes_85, bytes_87, bytes_95, bytes_96, bytes_111, bytes_115, true_and, and_true] <;> omega))
      | (refine NilB.mk fun b hb => Step.out ?_)
      | with_reducible trivial
      | exact noSh_bool _
      | exact noSh_lit _
      | exact noSh_int _ _
      | exact noSh_str _
      | with_reducible rfl
      | with_reducible exact same_rfl
      | (refine Wr.i64 ?_ ?_; omega)
      | (refine Wr.u8 ?_ ?_; omega)
      | (refine Wr.i32 ?_ ?_; omega)
      | (with_reducible refine Br.tt ?_)
      | (with_reducible refine Br.ff ?_)
      | (refine Br.dT ?_ ?_; omega)
      | (refine Br.dF ?_ ?_; omega)
      | (refine Br.d (fun h => ?_) (fun h => ?_))
      | (refine Br.swap ?_)
      | (refine Br.bnot ?_)
      | (refine Br.mk (fun h => Step.out ?_) (fun h => Step.out ?_))
      | (refine Two.mk (Step.out ?_) (Step.out ?_))
      | (refine Cp.mk fun q hq => Step.out ?_)
      | (refine Ovl.mk (by assumption) (Step.out ?_))
      | (refine CallOK.io1 (g := 17) (Step.out ?_))
      | (refine CallOK.io1 (g := 19) (Step.out ?_))
      | (refine CallOK.ctF (g := 36) (Step.out ?_))
      | (refine CallOK.of_ct (Step.out ?_))
      | (refine CallQ.of_ct (Step.out ?_))
      | (refine Met.by (g := 8) (awake_ct) ?_; rintro q outs ⟨rfl, rfl⟩)
      | (refine Met.by (g := 9) (few_ct _) ?_; rintro q outs ⟨rfl, rfl⟩)
      | (refine Met.by (g := 10) (new_ct _ (by assumption)) ?_; rintro q outs ⟨d, hd, rfl, rfl⟩)
      | (refine Met.by (g := 17) (decs_ct _ _ _ _ (by omega) (by omega)) ?_; rintro q outs ⟨l, d, hl, rfl, rfl⟩)
      | (refine Met.by (g := 19) (sheets_ct _ _ _ _ _ (by omega) (by omega) (by omega) (by omega)) ?_; rintro q outs ⟨L, d, hL, rfl, rfl⟩)
      | (refine Met.by (g := 36) (standing_ct _ _ (by assumption) (by omega)) ?_; rintro q outs ⟨rfl, rfl⟩)
      | (refine Vc.mk ?_ (Step.out ?_))
    · have hreg := upd_reg hl (x := s.getD (i : Int).toNat De.z) (getD_in (by omega))
      generalize hX : s.getD (i : Int).toNat De.z = X at *
      have hX' : s.getD i De.z = X := hX
      have hst : stB L X = (isHere (L.getD X.a.g.toNat []) X.a.i X.va && isHere (L.getD X.b.g.toNat []) X.b.i X.vb) := by rw [stB, cur_here hL _ (by omega) (by omega), cur_here hL _ (by omega) (by omega)]
      have hfa : stB L X = true → ((s.take i).filter (stB L)).length < (standL L s).length ∧ (standL L s).getD ((s.take i).filter (stB L)).length De.z = X := fun h => by
        have := filter_at (stB L) De.z s i (by omega) (by rw [hX']; exact h)
        rw [hX'] at this; exact this
      have hfs := filter_step (stB L) s De.z i (by omega)
      rw [hX'] at hfs
      refine CodeOK.loopW hΓ hm ord7 [] (by kernel_rfl) (α := Nat) (fun j => [(4, shs L), (6, des (standL L s)), (7, i64 ((s.take i).filter (stB L)).length), (9, .loc 0 0), (10, .bool ((j = 0 || isHere (L.getD X.a.g.toNat []) X.a.i X.va) && (j ≤ 1 || isHere (L.getD X.b.g.toNat []) X.b.i X.vb))), (34, des s), (35, i64 s.length), (36, i64 i), (44, .tab 2 2 fun j => [i64 (if j = 0 then X.a.g else X.b.g), i64 (if j = 0 then X.a.i else X.b.i)]), (45, i64 2), (46, i64 j)]) (fun j => [(0, .var (De.f X))]) 1 (fun j => j ≤ 2) (fun j => 2 - j) ?_ ?_
      · refine Again.by 0 (Nat.zero_le _) ?_
        repeat' first
          | (refine Step.mk ?_; conv => whnf)
          | (refine Vc.om ?_ ?_; first | omega | with_reducible rfl | with_reducible exact same_rfl | (simp only [bytes_2, bytes_3, bytes_4, bytes_5, bytes_9, bytes_12, bytes_21, bytes_22, bytes_25, bytes_27, bytes_28, bytes_30, bytes_32, bytes_33, bytes_36, bytes_37, bytes_38, bytes_39, bytes_41, bytes_42, bytes_43, bytes_44, bytes_45, bytes_46, bytes_52, bytes_56, bytes_58, bytes_60, bytes_67, bytes_68, bytes_69, bytes_70, bytes_71, bytes_72, bytes_73, bytes_74, bytes_75, bytes_76, bytes_77, bytes_81, bytes_84, bytes_85, bytes_87, bytes_95, bytes_96, bytes_111, bytes_115, true_and, and_true] <;> omega))
          | (refine NilB.mk fun b hb => Step.out ?_)
          | with_reducible trivial
          | exact noSh_bool _
          | exact noSh_lit _
          | exact noSh_int _ _
          | exact noSh_str _
          | with_reducible rfl
          | with_reducible exact same_rfl
          | (refine Wr.i64 ?_ ?_; omega)
          | (refine Wr.u8 ?_ ?_; omega)
          | (refine Wr.i32 ?_ ?_; omega)
          | (with_reducible refine Br.tt ?_)
          | (with_reducible refine Br.ff ?_)
          | (refine Br.dT ?_ ?_; omega)
          | (refine Br.dF ?_ ?_; omega)
          | (refine Br.d (fun h => ?_) (fun h => ?_))
          | (refine Br.swap ?_)
          | (refine Br.bnot ?_)
          | (refine Br.mk (fun h => Step.out ?_) (fun h => Step.out ?_))
          | (refine Two.mk (Step.out ?_) (Step.out ?_))
          | (refine Cp.mk fun q hq => Step.out ?_)
          | (refine Ovl.mk (by assumption) (Step.out ?_))
          | (refine CallOK.io1 (g := 17) (Step.out ?_))
          | (refine CallOK.io1 (g := 19) (Step.out ?_))
          | (refine CallOK.ctF (g := 36) (Step.out ?_))
          | (refine CallOK.of_ct (Step.out ?_))
          | (refine CallQ.of_ct (Step.out ?_))
          | (refine Met.by (g := 8) (awake_ct) ?_; rintro q outs ⟨rfl, rfl⟩)
          | (refine Met.by (g := 9) (few_ct _) ?_; rintro q outs ⟨rfl, rfl⟩)
          | (refine Met.by (g := 10) (new_ct _ (by assumption)) ?_; rintro q outs ⟨d, hd, rfl, rfl⟩)
          | (refine Met.by (g := 17) (decs_ct _ _ _ _ (by omega) (by omega)) ?_; rintro q outs ⟨l, d, hl, rfl, rfl⟩)
          | (refine Met.by (g := 19) (sheets_ct _ _ _ _ _ (by omega) (by omega) (by omega) (by omega)) ?_; rintro q outs ⟨L, d, hL, rfl, rfl⟩)
          | (refine Met.by (g := 36) (standing_ct _ _ (by assumption) (by omega)) ?_; rintro q outs ⟨rfl, rfl⟩)
          | (refine Vc.mk ?_ (Step.out ?_))
        all_goals first | rfl | exact ⟨rfl, fun _ _ => rfl⟩
      · intro j hj
        have hreg2 : (0 ≤ if (j : Int).toNat = 0 then X.a.g else X.b.g) ∧ (if (j : Int).toNat = 0 then X.a.g else X.b.g) < (L.length : Int) := by split <;> omega
        repeat' first
          | (refine Step.mk ?_; conv => whnf)
          | (refine Vc.om ?_ ?_; first | omega | with_reducible rfl | with_reducible exact same_rfl | (simp only [bytes_2, bytes_3, bytes_4, bytes_5, bytes_9, bytes_12, bytes_21, bytes_22, bytes_25, bytes_27, bytes_28, bytes_30, bytes_32, bytes_33, bytes_36, bytes_37, bytes_38, bytes_39, bytes_41, bytes_42, bytes_43, bytes_44, bytes_45, bytes_46, bytes_52, bytes_56, bytes_58, bytes_60, bytes_67, bytes_68, bytes_69, bytes_70, bytes_71, bytes_72, bytes_73, bytes_74, bytes_75, bytes_76, bytes_77, bytes_81, bytes_84, bytes_85, bytes_87, bytes_95, bytes_96, bytes_111, bytes_115, true_and, and_true] <;> omega))
          | (refine NilB.mk fun b hb => Step.out ?_)
          | with_reducible trivial
          | exact noSh_bool _
          | exact noSh_lit _
          | exact noSh_int _ _
          | exact noSh_str _
          | with_reducible rfl
          | with_reducible exact same_rfl
          | (refine Wr.i64 ?_ ?_; omega)
          | (refine Wr.u8 ?_ ?_; omega)
          | (refine Wr.i32 ?_ ?_; omega)
          | (with_reducible refine Br.tt ?_)
          | (with_reducible refine Br.ff ?_)
          | (refine Br.dT ?_ ?_; omega)
          | (refine Br.dF ?_ ?_; omega)
          | (refine Vc.om ?_ ?_; focus (exact hreg2; done))
          | (refine Wr.i64 ?_ ?_; focus (exact hreg2; done))
          | (refine Wr.u8 ?_ ?_; focus (exact hreg2; done))
          | (refine Br.dT ?_ ?_; focus (exact hreg2; done))
          | (refine Br.dF ?_ ?_; focus (exact hreg2; done))
          | (refine Br.d (fun h => ?_) (fun h => ?_))
          | (refine Br.swap ?_)
          | (refine Br.bnot ?_)
          | (refine Br.mk (fun h => Step.out ?_) (fun h => Step.out ?_))
          | (refine Two.mk (Step.out ?_) (Step.out ?_))
          | (refine Cp.mk fun q hq => Step.out ?_)
          | (refine Ovl.mk (by assumption) (Step.out ?_))
          | (refine CallOK.io1 (g := 17) (Step.out ?_))
          | (refine CallOK.io1 (g := 19) (Step.out ?_))
          | (refine CallOK.ctF (g := 36) (Step.out ?_))
          | (refine CallOK.of_ct (Step.out ?_))
          | (refine CallQ.of_ct (Step.out ?_))
          | (refine Met.by (g := 8) (awake_ct) ?_; rintro q outs ⟨rfl, rfl⟩)
          | (refine Met.by (g := 9) (few_ct _) ?_; rintro q outs ⟨rfl, rfl⟩)
          | (refine Met.by (g := 10) (new_ct _ (by assumption)) ?_; rintro q outs ⟨d, hd, rfl, rfl⟩)
          | (refine Met.by (g := 17) (decs_ct _ _ _ _ (by omega) (by omega)) ?_; rintro q outs ⟨l, d, hl, rfl, rfl⟩)
          | (refine Met.by (g := 19) (sheets_ct _ _ _ _ _ (by omega) (by omega) (by omega) (by omega)) ?_; rintro q outs ⟨L, d, hL, rfl, rfl⟩)
          | (refine Met.by (g := 36) (standing_ct _ _ (by assumption) (by omega)) ?_; rintro q outs ⟨rfl, rfl⟩)
          | (refine Vc.mk ?_ (Step.out ?_))
        · have hSl := (hL.l (L.getD (if (j : Int).toNat = 0 then X.a.g else X.b.g).toNat []) (getD_in (by omega))).n
          refine CodeOK.loopW hΓ hm ord7 [] (by kernel_rfl) (α := Nat) (fun k => [(4, shs L), (6, des (standL L s)), (7, i64 ((s.take i).filter (stB L)).length), (9, .loc 0 0), (10, .bool ((j = 0 || isHere (L.getD X.a.g.toNat []) X.a.i X.va) && (j ≤ 1 || isHere (L.getD X.b.g.toNat []) X.b.i X.vb))), (12, .loc 1 0), (13, i64 X.vb), (14, .bool (isHere ((L.getD (if (j : Int).toNat = 0 then X.a.g else X.b.g).toNat []).take k) (if (j : Int).toNat = 0 then X.a.i else X.b.i) X.vb)), (34, des s), (35, i64 s.length), (36, i64 i), (44, .tab 2 2 fun j => [i64 (if j = 0 then X.a.g else X.b.g), i64 (if j = 0 then X.a.i else X.b.i)]), (45, i64 2), (46, i64 j), (61, sns (L.getD (if (j : Int).toNat = 0 then X.a.g else X.b.g).toNat [])), (62, i64 (L.getD (if (j : Int).toNat = 0 then X.a.g else X.b.g).toNat []).length), (63, i64 k)]) (fun k => [(0, .var (De.f X)), (1, .var [i64 (if (j : Int).toNat = 0 then X.a.g else X.b.g), i64 (if (j : Int).toNat = 0 then X.a.i else X.b.i)])]) 2 (fun k => k ≤ (L.getD (if (j : Int).toNat = 0 then X.a.g else X.b.g).toNat []).length) (fun k => (L.getD (if (j : Int).toNat = 0 then X.a.g else X.b.g).toNat []).length - k) ?_ ?_
          · refine Again.by 0 (Nat.zero_le _) ?_
            repeat' first
              | (refine Step.mk ?_; conv => whnf)
              | (refine Vc.om ?_ ?_; first | omega | with_reducible rfl | with_reducible exact same_rfl | (simp only [bytes_2, bytes_3, bytes_4, bytes_5, bytes_9, bytes_12, bytes_21, bytes_22, bytes_25, bytes_27, bytes_28, bytes_30, bytes_32, bytes_33, bytes_36, bytes_37, bytes_38, bytes_39, bytes_41, bytes_42, bytes_43, bytes_44, bytes_45, bytes_46, bytes_52, bytes_56, bytes_58, bytes_60, bytes_67, bytes_68, bytes_69, bytes_70, bytes_71, bytes_72, bytes_73, bytes_74, bytes_75, bytes_76, bytes_77, bytes_81, bytes_84, bytes_85, bytes_87, bytes_95, bytes_96, bytes_111, bytes_115, true_and, and_true] <;> omega))
              | (refine NilB.mk fun b hb => Step.out ?_)
              | with_reducible trivial
              | exact noSh_bool _
              | exact noSh_lit _
              | exact noSh_int _ _
              | exact noSh_str _
              | with_reducible rfl
              | with_reducible exact same_rfl
              | (refine Wr.i64 ?_ ?_; omega)
              | (refine Wr.u8 ?_ ?_; omega)
              | (refine Wr.i32 ?_ ?_; omega)
              | (with_reducible refine Br.tt ?_)
              | (with_reducible refine Br.ff ?_)
              | (refine Br.dT ?_ ?_; omega)
              | (refine Br.dF ?_ ?_; omega)
              | (refine Br.d (fun h => ?_) (fun h => ?_))
              | (refine Br.swap ?_)
              | (refine Br.bnot ?_)
              | (refine Br.mk (fun h => Step.out ?_) (fun h => Step.out ?_))
              | (refine Two.mk (Step.out ?_) (Step.out ?_))
              | (refine Cp.mk fun q hq => Step.out ?_)
              | (refine Ovl.mk (by assumption) (Step.out ?_))
              | (refine CallOK.io1 (g := 17) (Step.out ?_))
              | (refine CallOK.io1 (g := 19) (Step.out ?_))
              | (refine CallOK.ctF (g := 36) (Step.out ?_))
              | (refine CallOK.of_ct (Step.out ?_))
              | (refine CallQ.of_ct (Step.out ?_))
              | (refine Met.by (g := 8) (awake_ct) ?_; rintro q outs ⟨rfl, rfl⟩)
              | (refine Met.by (g := 9) (few_ct _) ?_; rintro q outs ⟨rfl, rfl⟩)
              | (refine Met.by (g := 10) (new_ct _ (by assumption)) ?_; rintro q outs ⟨d, hd, rfl, rfl⟩)
              | (refine Met.by (g := 17) (decs_ct _ _ _ _ (by omega) (by omega)) ?_; rintro q outs ⟨l, d, hl, rfl, rfl⟩)
              | (refine Met.by (g := 19) (sheets_ct _ _ _ _ _ (by omega) (by omega) (by omega) (by omega)) ?_; rintro q outs ⟨L, d, hL, rfl, rfl⟩)
              | (refine Met.by (g := 36) (standing_ct _ _ (by assumption) (by omega)) ?_; rintro q outs ⟨rfl, rfl⟩)
              | (refine Vc.mk ?_ (Step.out ?_))
            all_goals first | rfl | exact ⟨rfl, fun _ _ => rfl⟩
          · intro k hk
            generalize hS : (L.getD (if (j : Int).toNat = 0 then X.a.g else X.b.g).toNat []) = S at *
            generalize hN : (if (j : Int).toNat = 0 then X.a.i else X.b.i) = N at *
            repeat' first
              | (refine Step.mk ?_; conv => whnf)
              | (refine Vc.om ?_ ?_; first | omega | with_reducible rfl | with_reducible exact same_rfl | (simp only [bytes_2, bytes_3, bytes_4, bytes_5, bytes_9, bytes_12, bytes_21, bytes_22, bytes_25, bytes_27, bytes_28, bytes_30, bytes_32, bytes_33, bytes_36, bytes_37, bytes_38, bytes_39, bytes_41, bytes_42, bytes_43, bytes_44, bytes_45, bytes_46, bytes_52, bytes_56, bytes_58, bytes_60, bytes_67, bytes_68, bytes_69, bytes_70, bytes_71, bytes_72, bytes_73, bytes_74, bytes_75, bytes_76, bytes_77, bytes_81, bytes_84, bytes_85, bytes_87, bytes_95, bytes_96, bytes_111, bytes_115, true_and, and_true] <;> omega))
              | (refine NilB.mk fun b hb => Step.out ?_)
              | with_reducible trivial
              | exact noSh_bool _
              | exact noSh_lit _
              | exact noSh_int _ _
              | exact noSh_str _
              | with_reducible rfl
              | with_reducible exact same_rfl
              | (refine Wr.i64 ?_ ?_; omega)
              | (refine Wr.u8 ?_ ?_; omega)
              | (refine Wr.i32 ?_ ?_; omega)
              | (with_reducible refine Br.tt ?_)
              | (with_reducible refine Br.ff ?_)
              | (refine Br.dT ?_ ?_; omega)
              | (refine Br.dF ?_ ?_; omega)
              | (refine Br.d (fun h => ?_) (fun h => ?_))
              | (refine Br.swap ?_)
              | (refine Br.bnot ?_)
              | (refine Br.mk (fun h => Step.out ?_) (fun h => Step.out ?_))
              | (refine Two.mk (Step.out ?_) (Step.out ?_))
              | (refine Cp.mk fun q hq => Step.out ?_)
              | (refine Ovl.mk (by assumption) (Step.out ?_))
              | (refine CallOK.io1 (g := 17) (Step.out ?_))
              | (refine CallOK.io1 (g := 19) (Step.out ?_))
              | (refine CallOK.ctF (g := 36) (Step.out ?_))
              | (refine CallOK.of_ct (Step.out ?_))
              | (refine CallQ.of_ct (Step.out ?_))
              | (refine Met.by (g := 8) (awake_ct) ?_; rintro q outs ⟨rfl, rfl⟩)
              | (refine Met.by (g := 9) (few_ct _) ?_; rintro q outs ⟨rfl, rfl⟩)
              | (refine Met.by (g := 10) (new_ct _ (by assumption)) ?_; rintro q outs ⟨d, hd, rfl, rfl⟩)
              | (refine Met.by (g := 17) (decs_ct _ _ _ _ (by omega) (by omega)) ?_; rintro q outs ⟨l, d, hl, rfl, rfl⟩)
              | (refine Met.by (g := 19) (sheets_ct _ _ _ _ _ (by omega) (by omega) (by omega) (by omega)) ?_; rintro q outs ⟨L, d, hL, rfl, rfl⟩)
              | (refine Met.by (g := 36) (standing_ct _ _ (by assumption) (by omega)) ?_; rintro q outs ⟨rfl, rfl⟩)
              | (refine Vc.mk ?_ (Step.out ?_))
            all_goals try
              refine Again.by (k + 1) ⟨by omega, by omega⟩ ?_
              rw [isHere_step S N X.vb k (by omega)]
              repeat' first
                | (refine Step.mk ?_; conv => whnf)
                | (refine Vc.om ?_ ?_; first | omega | with_reducible rfl | with_reducible exact same_rfl | (simp only [bytes_2, bytes_3, bytes_4, bytes_5, bytes_9, bytes_12, bytes_21, bytes_22, bytes_25, bytes_27, bytes_28, bytes_30, bytes_32, bytes_33, bytes_36, bytes_37, bytes_38, bytes_39, bytes_41, bytes_42, bytes_43, bytes_44, bytes_45, bytes_46, bytes_52, bytes_56, bytes_58, bytes_60, bytes_67, bytes_68, bytes_69, bytes_70, bytes_71, bytes_72, bytes_73, bytes_74, bytes_75, bytes_76, bytes_77, bytes_81, bytes_84, bytes_85, bytes_87, bytes_95, bytes_96, bytes_111, bytes_115, true_and, and_true] <;> omega))
                | (refine NilB.mk fun b hb => Step.out ?_)
                | with_reducible trivial
                | exact noSh_bool _
                | exact noSh_lit _
                | exact noSh_int _ _
                | exact noSh_str _
                | with_reducible rfl
                | with_reducible exact same_rfl
                | (refine Wr.i64 ?_ ?_; omega)
                | (refine Wr.u8 ?_ ?_; omega)
                | (refine Wr.i32 ?_ ?_; omega)
                | (with_reducible refine Br.tt ?_)
                | (with_reducible refine Br.ff ?_)
                | (refine Br.dT ?_ ?_; omega)
                | (refine Br.dF ?_ ?_; omega)
                | (refine Br.d (fun h => ?_) (fun h => ?_))
                | (refine Br.swap ?_)
                | (refine Br.bnot ?_)
                | (refine Br.mk (fun h => Step.out ?_) (fun h => Step.out ?_))
                | (refine Two.mk (Step.out ?_) (Step.out ?_))
                | (refine Cp.mk fun q hq => Step.out ?_)
                | (refine Ovl.mk (by assumption) (Step.out ?_))
                | (refine CallOK.io1 (g := 17) (Step.out ?_))
                | (refine CallOK.io1 (g := 19) (Step.out ?_))
                | (refine CallOK.ctF (g := 36) (Step.out ?_))
                | (refine CallOK.of_ct (Step.out ?_))
                | (refine CallQ.of_ct (Step.out ?_))
                | (refine Met.by (g := 8) (awake_ct) ?_; rintro q outs ⟨rfl, rfl⟩)
                | (refine Met.by (g := 9) (few_ct _) ?_; rintro q outs ⟨rfl, rfl⟩)
                | (refine Met.by (g := 10) (new_ct _ (by assumption)) ?_; rintro q outs ⟨d, hd, rfl, rfl⟩)
                | (refine Met.by (g := 17) (decs_ct _ _ _ _ (by omega) (by omega)) ?_; rintro q outs ⟨l, d, hl, rfl, rfl⟩)
                | (refine Met.by (g := 19) (sheets_ct _ _ _ _ _ (by omega) (by omega) (by omega) (by omega)) ?_; rintro q outs ⟨L, d, hL, rfl, rfl⟩)
                | (refine Met.by (g := 36) (standing_ct _ _ (by assumption) (by omega)) ?_; rintro q outs ⟨rfl, rfl⟩)
                | (refine Vc.mk ?_ (Step.out ?_))
              all_goals try simp only [Int.toNat_natCast] at *
              all_goals simp [-List.getD_eq_getElem?_getD, *]
              done
            all_goals
              refine Again.by (j + 1) ⟨by omega, by omega⟩ ?_
              rw [List.take_of_length_le (show S.length ≤ k by omega)] at *
              obtain rfl : j = 1 := by omega
              subst hS hN
              repeat' first
                | (refine Step.mk ?_; conv => whnf)
                | (refine Vc.om ?_ ?_; first | omega | with_reducible rfl | with_reducible exact same_rfl | (simp only [bytes_2, bytes_3, bytes_4, bytes_5, bytes_9, bytes_12, bytes_21, bytes_22, bytes_25, bytes_27, bytes_28, bytes_30, bytes_32, bytes_33, bytes_36, bytes_37, bytes_38, bytes_39, bytes_41, bytes_42, bytes_43, bytes_44, bytes_45, bytes_46, bytes_52, bytes_56, bytes_58, bytes_60, bytes_67, bytes_68, bytes_69, bytes_70, bytes_71, bytes_72, bytes_73, bytes_74, bytes_75, bytes_76, bytes_77, bytes_81, bytes_84, bytes_85, bytes_87, bytes_95, bytes_96, bytes_111, bytes_115, true_and, and_true] <;> omega))
                | (refine NilB.mk fun b hb => Step.out ?_)
                | with_reducible trivial
                | exact noSh_bool _
                | exact noSh_lit _
                | exact noSh_int _ _
                | exact noSh_str _
                | with_reducible rfl
                | with_reducible exact same_rfl
                | (refine Wr.i64 ?_ ?_; omega)
                | (refine Wr.u8 ?_ ?_; omega)
                | (refine Wr.i32 ?_ ?_; omega)
                | (with_reducible refine Br.tt ?_)
                | (with_reducible refine Br.ff ?_)
                | (refine Br.dT ?_ ?_; omega)
                | (refine Br.dF ?_ ?_; omega)
                | (refine Br.d (fun h => ?_) (fun h => ?_))
                | (refine Br.swap ?_)
                | (refine Br.bnot ?_)
                | (refine Br.mk (fun h => Step.out ?_) (fun h => Step.out ?_))
                | (refine Two.mk (Step.out ?_) (Step.out ?_))
                | (refine Cp.mk fun q hq => Step.out ?_)
                | (refine Ovl.mk (by assumption) (Step.out ?_))
                | (refine CallOK.io1 (g := 17) (Step.out ?_))
                | (refine CallOK.io1 (g := 19) (Step.out ?_))
                | (refine CallOK.ctF (g := 36) (Step.out ?_))
                | (refine CallOK.of_ct (Step.out ?_))
                | (refine CallQ.of_ct (Step.out ?_))
                | (refine Met.by (g := 8) (awake_ct) ?_; rintro q outs ⟨rfl, rfl⟩)
                | (refine Met.by (g := 9) (few_ct _) ?_; rintro q outs ⟨rfl, rfl⟩)
                | (refine Met.by (g := 10) (new_ct _ (by assumption)) ?_; rintro q outs ⟨d, hd, rfl, rfl⟩)
                | (refine Met.by (g := 17) (decs_ct _ _ _ _ (by omega) (by omega)) ?_; rintro q outs ⟨l, d, hl, rfl, rfl⟩)
                | (refine Met.by (g := 19) (sheets_ct _ _ _ _ _ (by omega) (by omega) (by omega) (by omega)) ?_; rintro q outs ⟨L, d, hL, rfl, rfl⟩)
                | (refine Met.by (g := 36) (standing_ct _ _ (by assumption) (by omega)) ?_; rintro q outs ⟨rfl, rfl⟩)
                | (refine Vc.mk ?_ (Step.out ?_))
              all_goals simp_all
        · have hSl := (hL.l (L.getD (if (j : Int).toNat = 0 then X.a.g else X.b.g).toNat []) (getD_in (by omega))).n
          refine CodeOK.loopW hΓ hm ord7 [] (by kernel_rfl) (α := Nat) (fun k => [(4, shs L), (6, des (standL L s)), (7, i64 ((s.take i).filter (stB L)).length), (9, .loc 0 0), (10, .bool ((j = 0 || isHere (L.getD X.a.g.toNat []) X.a.i X.va) && (j ≤ 1 || isHere (L.getD X.b.g.toNat []) X.b.i X.vb))), (12, .loc 1 0), (13, i64 X.va), (14, .bool (isHere ((L.getD (if (j : Int).toNat = 0 then X.a.g else X.b.g).toNat []).take k) (if (j : Int).toNat = 0 then X.a.i else X.b.i) X.va)), (34, des s), (35, i64 s.length), (36, i64 i), (44, .tab 2 2 fun j => [i64 (if j = 0 then X.a.g else X.b.g), i64 (if j = 0 then X.a.i else X.b.i)]), (45, i64 2), (46, i64 j), (61, sns (L.getD (if (j : Int).toNat = 0 then X.a.g else X.b.g).toNat [])), (62, i64 (L.getD (if (j : Int).toNat = 0 then X.a.g else X.b.g).toNat []).length), (63, i64 k)]) (fun k => [(0, .var (De.f X)), (1, .var [i64 (if (j : Int).toNat = 0 then X.a.g else X.b.g), i64 (if (j : Int).toNat = 0 then X.a.i else X.b.i)])]) 2 (fun k => k ≤ (L.getD (if (j : Int).toNat = 0 then X.a.g else X.b.g).toNat []).length) (fun k => (L.getD (if (j : Int).toNat = 0 then X.a.g else X.b.g).toNat []).length - k) ?_ ?_
          · refine Again.by 0 (Nat.zero_le _) ?_
            repeat' first
              | (refine Step.mk ?_; conv => whnf)
              | (refine Vc.om ?_ ?_; first | omega | with_reducible rfl | with_reducible exact same_rfl | (simp only [bytes_2, bytes_3, bytes_4, bytes_5, bytes_9, bytes_12, bytes_21, bytes_22, bytes_25, bytes_27, bytes_28, bytes_30, bytes_32, bytes_33, bytes_36, bytes_37, bytes_38, bytes_39, bytes_41, bytes_42, bytes_43, bytes_44, bytes_45, bytes_46, bytes_52, bytes_56, bytes_58, bytes_60, bytes_67, bytes_68, bytes_69, bytes_70, bytes_71, bytes_72, bytes_73, bytes_74, bytes_75, bytes_76, bytes_77, bytes_81, bytes_84, bytes_85, bytes_87, bytes_95, bytes_96, bytes_111, bytes_115, true_and, and_true] <;> omega))
              | (refine NilB.mk fun b hb => Step.out ?_)
              | with_reducible trivial
              | exact noSh_bool _
              | exact noSh_lit _
              | exact noSh_int _ _
              | exact noSh_str _
              | with_reducible rfl
              | with_reducible exact same_rfl
              | (refine Wr.i64 ?_ ?_; omega)
              | (refine Wr.u8 ?_ ?_; omega)
              | (refine Wr.i32 ?_ ?_; omega)
              | (with_reducible refine Br.tt ?_)
              | (with_reducible refine Br.ff ?_)
              | (refine Br.dT ?_ ?_; omega)
              | (refine Br.dF ?_ ?_; omega)
              | (refine Br.d (fun h => ?_) (fun h => ?_))
              | (refine Br.swap ?_)
              | (refine Br.bnot ?_)
              | (refine Br.mk (fun h => Step.out ?_) (fun h => Step.out ?_))
              | (refine Two.mk (Step.out ?_) (Step.out ?_))
              | (refine Cp.mk fun q hq => Step.out ?_)
              | (refine Ovl.mk (by assumption) (Step.out ?_))
              | (refine CallOK.io1 (g := 17) (Step.out ?_))
              | (refine CallOK.io1 (g := 19) (Step.out ?_))
              | (refine CallOK.ctF (g := 36) (Step.out ?_))
              | (refine CallOK.of_ct (Step.out ?_))
              | (refine CallQ.of_ct (Step.out ?_))
              | (refine Met.by (g := 8) (awake_ct) ?_; rintro q outs ⟨rfl, rfl⟩)
              | (refine Met.by (g := 9) (few_ct _) ?_; rintro q outs ⟨rfl, rfl⟩)
              | (refine Met.by (g := 10) (new_ct _ (by assumption)) ?_; rintro q outs ⟨d, hd, rfl, rfl⟩)
              | (refine Met.by (g := 17) (decs_ct _ _ _ _ (by omega) (by omega)) ?_; rintro q outs ⟨l, d, hl, rfl, rfl⟩)
              | (refine Met.by (g := 19) (sheets_ct _ _ _ _ _ (by omega) (by omega) (by omega) (by omega)) ?_; rintro q outs ⟨L, d, hL, rfl, rfl⟩)
              | (refine Met.by (g := 36) (standing_ct _ _ (by assumption) (by omega)) ?_; rintro q outs ⟨rfl, rfl⟩)
              | (refine Vc.mk ?_ (Step.out ?_))
            all_goals first | rfl | exact ⟨rfl, fun _ _ => rfl⟩
          · intro k hk
            generalize hS : (L.getD (if (j : Int).toNat = 0 then X.a.g else X.b.g).toNat []) = S at *
            generalize hN : (if (j : Int).toNat = 0 then X.a.i else X.b.i) = N at *
            repeat' first
              | (refine Step.mk ?_; conv => whnf)
              | (refine Vc.om ?_ ?_; first | omega | with_reducible rfl | with_reducible exact same_rfl | (simp only [bytes_2, bytes_3, bytes_4, bytes_5, bytes_9, bytes_12, bytes_21, bytes_22, bytes_25, bytes_27, bytes_28, bytes_30, bytes_32, bytes_33, bytes_36, bytes_37, bytes_38, bytes_39, bytes_41, bytes_42, bytes_43, bytes_44, bytes_45, bytes_46, bytes_52, bytes_56, bytes_58, bytes_60, bytes_67, bytes_68, bytes_69, bytes_70, bytes_71, bytes_72, bytes_73, bytes_74, bytes_75, bytes_76, bytes_77, bytes_81, bytes_84, bytes_85, bytes_87, bytes_95, bytes_96, bytes_111, bytes_115, true_and, and_true] <;> omega))
              | (refine NilB.mk fun b hb => Step.out ?_)
              | with_reducible trivial
              | exact noSh_bool _
              | exact noSh_lit _
              | exact noSh_int _ _
              | exact noSh_str _
              | with_reducible rfl
              | with_reducible exact same_rfl
              | (refine Wr.i64 ?_ ?_; omega)
              | (refine Wr.u8 ?_ ?_; omega)
              | (refine Wr.i32 ?_ ?_; omega)
              | (with_reducible refine Br.tt ?_)
              | (with_reducible refine Br.ff ?_)
              | (refine Br.dT ?_ ?_; omega)
              | (refine Br.dF ?_ ?_; omega)
              | (refine Br.d (fun h => ?_) (fun h => ?_))
              | (refine Br.swap ?_)
              | (refine Br.bnot ?_)
              | (refine Br.mk (fun h => Step.out ?_) (fun h => Step.out ?_))
              | (refine Two.mk (Step.out ?_) (Step.out ?_))
              | (refine Cp.mk fun q hq => Step.out ?_)
              | (refine Ovl.mk (by assumption) (Step.out ?_))
              | (refine CallOK.io1 (g := 17) (Step.out ?_))
              | (refine CallOK.io1 (g := 19) (Step.out ?_))
              | (refine CallOK.ctF (g := 36) (Step.out ?_))
              | (refine CallOK.of_ct (Step.out ?_))
              | (refine CallQ.of_ct (Step.out ?_))
              | (refine Met.by (g := 8) (awake_ct) ?_; rintro q outs ⟨rfl, rfl⟩)
              | (refine Met.by (g := 9) (few_ct _) ?_; rintro q outs ⟨rfl, rfl⟩)
              | (refine Met.by (g := 10) (new_ct _ (by assumption)) ?_; rintro q outs ⟨d, hd, rfl, rfl⟩)
              | (refine Met.by (g := 17) (decs_ct _ _ _ _ (by omega) (by omega)) ?_; rintro q outs ⟨l, d, hl, rfl, rfl⟩)
              | (refine Met.by (g := 19) (sheets_ct _ _ _ _ _ (by omega) (by omega) (by omega) (by omega)) ?_; rintro q outs ⟨L, d, hL, rfl, rfl⟩)
              | (refine Met.by (g := 36) (standing_ct _ _ (by assumption) (by omega)) ?_; rintro q outs ⟨rfl, rfl⟩)
              | (refine Vc.mk ?_ (Step.out ?_))
            all_goals try
              refine Again.by (k + 1) ⟨by omega, by omega⟩ ?_
              rw [isHere_step S N X.va k (by omega)]
              repeat' first
                | (refine Step.mk ?_; conv => whnf)
                | (refine Vc.om ?_ ?_; first | omega | with_reducible rfl | with_reducible exact same_rfl | (simp only [bytes_2, bytes_3, bytes_4, bytes_5, bytes_9, bytes_12, bytes_21, bytes_22, bytes_25, bytes_27, bytes_28, bytes_30, bytes_32, bytes_33, bytes_36, bytes_37, bytes_38, bytes_39, bytes_41, bytes_42, bytes_43, bytes_44, bytes_45, bytes_46, bytes_52, bytes_56, bytes_58, bytes_60, bytes_67, bytes_68, bytes_69, bytes_70, bytes_71, bytes_72, bytes_73, bytes_74, bytes_75, bytes_76, bytes_77, bytes_81, bytes_84, bytes_85, bytes_87, bytes_95, bytes_96, bytes_111, bytes_115, true_and, and_true] <;> omega))
                | (refine NilB.mk fun b hb => Step.out ?_)
                | with_reducible trivial
                | exact noSh_bool _
                | exact noSh_lit _
                | exact noSh_int _ _
                | exact noSh_str _
                | with_reducible rfl
                | with_reducible exact same_rfl
                | (refine Wr.i64 ?_ ?_; omega)
                | (refine Wr.u8 ?_ ?_; omega)
                | (refine Wr.i32 ?_ ?_; omega)
                | (with_reducible refine Br.tt ?_)
                | (with_reducible refine Br.ff ?_)
                | (refine Br.dT ?_ ?_; omega)
                | (refine Br.dF ?_ ?_; omega)
                | (refine Br.d (fun h => ?_) (fun h => ?_))
                | (refine Br.swap ?_)
                | (refine Br.bnot ?_)
                | (refine Br.mk (fun h => Step.out ?_) (fun h => Step.out ?_))
                | (refine Two.mk (Step.out ?_) (Step.out ?_))
                | (refine Cp.mk fun q hq => Step.out ?_)
                | (refine Ovl.mk (by assumption) (Step.out ?_))
                | (refine CallOK.io1 (g := 17) (Step.out ?_))
                | (refine CallOK.io1 (g := 19) (Step.out ?_))
                | (refine CallOK.ctF (g := 36) (Step.out ?_))
                | (refine CallOK.of_ct (Step.out ?_))
                | (refine CallQ.of_ct (Step.out ?_))
                | (refine Met.by (g := 8) (awake_ct) ?_; rintro q outs ⟨rfl, rfl⟩)
                | (refine Met.by (g := 9) (few_ct _) ?_; rintro q outs ⟨rfl, rfl⟩)
                | (refine Met.by (g := 10) (new_ct _ (by assumption)) ?_; rintro q outs ⟨d, hd, rfl, rfl⟩)
                | (refine Met.by (g := 17) (decs_ct _ _ _ _ (by omega) (by omega)) ?_; rintro q outs ⟨l, d, hl, rfl, rfl⟩)
                | (refine Met.by (g := 19) (sheets_ct _ _ _ _ _ (by omega) (by omega) (by omega) (by omega)) ?_; rintro q outs ⟨L, d, hL, rfl, rfl⟩)
                | (refine Met.by (g := 36) (standing_ct _ _ (by assumption) (by omega)) ?_; rintro q outs ⟨rfl, rfl⟩)
                | (refine Vc.mk ?_ (Step.out ?_))
              all_goals try simp only [Int.toNat_natCast] at *
              all_goals simp [-List.getD_eq_getElem?_getD, *]
              done
            all_goals
              refine Again.by (j + 1) ⟨by omega, by omega⟩ ?_
              rw [List.take_of_length_le (show S.length ≤ k by omega)] at *
              obtain rfl : j = 0 := by omega
              subst hS hN
              repeat' first
                | (refine Step.mk ?_; conv => whnf)
                | (refine Vc.om ?_ ?_; first | omega | with_reducible rfl | with_reducible exact same_rfl | (simp only [bytes_2, bytes_3, bytes_4, bytes_5, bytes_9, bytes_12, bytes_21, bytes_22, bytes_25, bytes_27, bytes_28, bytes_30, bytes_32, bytes_33, bytes_36, bytes_37, bytes_38, bytes_39, bytes_41, bytes_42, bytes_43, bytes_44, bytes_45, bytes_46, bytes_52, bytes_56, bytes_58, bytes_60, bytes_67, bytes_68, bytes_69, bytes_70, bytes_71, bytes_72, bytes_73, bytes_74, bytes_75, bytes_76, bytes_77, bytes_81, bytes_84, bytes_85, bytes_87, bytes_95, bytes_96, bytes_111, bytes_115, true_and, and_true] <;> omega))
                | (refine NilB.mk fun b hb => Step.out ?_)
                | with_reducible trivial
                | exact noSh_bool _
                | exact noSh_lit _
                | exact noSh_int _ _
                | exact noSh_str _
                | with_reducible rfl
                | with_reducible exact same_rfl
                | (refine Wr.i64 ?_ ?_; omega)
                | (refine Wr.u8 ?_ ?_; omega)
                | (refine Wr.i32 ?_ ?_; omega)
                | (with_reducible refine Br.tt ?_)
                | (with_reducible refine Br.ff ?_)
                | (refine Br.dT ?_ ?_; omega)
                | (refine Br.dF ?_ ?_; omega)
                | (refine Br.d (fun h => ?_) (fun h => ?_))
                | (refine Br.swap ?_)
                | (refine Br.bnot ?_)
                | (refine Br.mk (fun h => Step.out ?_) (fun h => Step.out ?_))
                | (refine Two.mk (Step.out ?_) (Step.out ?_))
                | (refine Cp.mk fun q hq => Step.out ?_)
                | (refine Ovl.mk (by assumption) (Step.out ?_))
                | (refine CallOK.io1 (g := 17) (Step.out ?_))
                | (refine CallOK.io1 (g := 19) (Step.out ?_))
                | (refine CallOK.ctF (g := 36) (Step.out ?_))
                | (refine CallOK.of_ct (Step.out ?_))
                | (refine CallQ.of_ct (Step.out ?_))
                | (refine Met.by (g := 8) (awake_ct) ?_; rintro q outs ⟨rfl, rfl⟩)
                | (refine Met.by (g := 9) (few_ct _) ?_; rintro q outs ⟨rfl, rfl⟩)
                | (refine Met.by (g := 10) (new_ct _ (by assumption)) ?_; rintro q outs ⟨d, hd, rfl, rfl⟩)
                | (refine Met.by (g := 17) (decs_ct _ _ _ _ (by omega) (by omega)) ?_; rintro q outs ⟨l, d, hl, rfl, rfl⟩)
                | (refine Met.by (g := 19) (sheets_ct _ _ _ _ _ (by omega) (by omega) (by omega) (by omega)) ?_; rintro q outs ⟨L, d, hL, rfl, rfl⟩)
                | (refine Met.by (g := 36) (standing_ct _ _ (by assumption) (by omega)) ?_; rintro q outs ⟨rfl, rfl⟩)
                | (refine Vc.mk ?_ (Step.out ?_))
              all_goals simp_all
        all_goals
          obtain rfl : j = 2 := by omega
          simp only [show decide ((2 : Nat) = 0) = false from rfl, show decide ((2 : Nat) ≤ 1) = false from rfl, Bool.false_or, ← hst, Int.toNat_natCast] at *
        · exfalso; have := (hfa ‹_›).1; omega
        · refine Again.by (i + 1) ⟨by omega, by omega⟩ ?_
          rw [hfs, if_pos ‹_›, List.length_append]
          repeat' first
            | (refine Step.mk ?_; conv => whnf)
            | (refine Vc.om ?_ ?_; first | omega | with_reducible rfl | with_reducible exact same_rfl | (simp only [bytes_2, bytes_3, bytes_4, bytes_5, bytes_9, bytes_12, bytes_21, bytes_22, bytes_25, bytes_27, bytes_28, bytes_30, bytes_32, bytes_33, bytes_36, bytes_37, bytes_38, bytes_39, bytes_41, bytes_42, bytes_43, bytes_44, bytes_45, bytes_46, bytes_52, bytes_56, bytes_58, bytes_60, bytes_67, bytes_68, bytes_69, bytes_70, bytes_71, bytes_72, bytes_73, bytes_74, bytes_75, bytes_76, bytes_77, bytes_81, bytes_84, bytes_85, bytes_87, bytes_95, bytes_96, bytes_111, bytes_115, true_and, and_true] <;> omega))
            | (refine NilB.mk fun b hb => Step.out ?_)
            | with_reducible trivial
            | exact noSh_bool _
            | exact noSh_lit _
            | exact noSh_int _ _
            | exact noSh_str _
            | with_reducible rfl
            | with_reducible exact same_rfl
            | (refine Wr.i64 ?_ ?_; omega)
            | (refine Wr.u8 ?_ ?_; omega)
            | (refine Wr.i32 ?_ ?_; omega)
            | (with_reducible refine Br.tt ?_)
            | (with_reducible refine Br.ff ?_)
            | (refine Br.dT ?_ ?_; omega)
            | (refine Br.dF ?_ ?_; omega)
            | (refine Br.d (fun h => ?_) (fun h => ?_))
            | (refine Br.swap ?_)
            | (refine Br.bnot ?_)
            | (refine Br.mk (fun h => Step.out ?_) (fun h => Step.out ?_))
            | (refine Two.mk (Step.out ?_) (Step.out ?_))
            | (refine Cp.mk fun q hq => Step.out ?_)
            | (refine Ovl.mk (by assumption) (Step.out ?_))
            | (refine CallOK.io1 (g := 17) (Step.out ?_))
            | (refine CallOK.io1 (g := 19) (Step.out ?_))
            | (refine CallOK.ctF (g := 36) (Step.out ?_))
            | (refine CallOK.of_ct (Step.out ?_))
            | (refine CallQ.of_ct (Step.out ?_))
            | (refine Met.by (g := 8) (awake_ct) ?_; rintro q outs ⟨rfl, rfl⟩)
            | (refine Met.by (g := 9) (few_ct _) ?_; rintro q outs ⟨rfl, rfl⟩)
            | (refine Met.by (g := 10) (new_ct _ (by assumption)) ?_; rintro q outs ⟨d, hd, rfl, rfl⟩)
            | (refine Met.by (g := 17) (decs_ct _ _ _ _ (by omega) (by omega)) ?_; rintro q outs ⟨l, d, hl, rfl, rfl⟩)
            | (refine Met.by (g := 19) (sheets_ct _ _ _ _ _ (by omega) (by omega) (by omega) (by omega)) ?_; rintro q outs ⟨L, d, hL, rfl, rfl⟩)
            | (refine Met.by (g := 36) (standing_ct _ _ (by assumption) (by omega)) ?_; rintro q outs ⟨rfl, rfl⟩)
            | (refine Vc.mk ?_ (Step.out ?_))
          all_goals simp
        · exfalso; have := (hfa ‹_›).2; rename_i hne _; rw [this] at hne; simp at hne
        · refine Again.by (i + 1) ⟨by omega, by omega⟩ ?_
          rw [hfs, if_neg (by rw [‹stB L X = false›]; simp), List.append_nil]
          repeat' first
            | (refine Step.mk ?_; conv => whnf)
            | (refine Vc.om ?_ ?_; first | omega | with_reducible rfl | with_reducible exact same_rfl | (simp only [bytes_2, bytes_3, bytes_4, bytes_5, bytes_9, bytes_12, bytes_21, bytes_22, bytes_25, bytes_27, bytes_28, bytes_30, bytes_32, bytes_33, bytes_36, bytes_37, bytes_38, bytes_39, bytes_41, bytes_42, bytes_43, bytes_44, bytes_45, bytes_46, bytes_52, bytes_56, bytes_58, bytes_60, bytes_67, bytes_68, bytes_69, bytes_70, bytes_71, bytes_72, bytes_73, bytes_74, bytes_75, bytes_76, bytes_77, bytes_81, bytes_84, bytes_85, bytes_87, bytes_95, bytes_96, bytes_111, bytes_115, true_and, and_true] <;> omega))
            | (refine NilB.mk fun b hb => Step.out ?_)
            | with_reducible trivial
            | exact noSh_bool _
            | exact noSh_lit _
            | exact noSh_int _ _
            | exact noSh_str _
            | with_reducible rfl
            | with_reducible exact same_rfl
            | (refine Wr.i64 ?_ ?_; omega)
            | (refine Wr.u8 ?_ ?_; omega)
            | (refine Wr.i32 ?_ ?_; omega)
            | (with_reducible refine Br.tt ?_)
            | (with_reducible refine Br.ff ?_)
            | (refine Br.dT ?_ ?_; omega)
            | (refine Br.dF ?_ ?_; omega)
            | (refine Br.d (fun h => ?_) (fun h => ?_))
            | (refine Br.swap ?_)
            | (refine Br.bnot ?_)
            | (refine Br.mk (fun h => Step.out ?_) (fun h => Step.out ?_))
            | (refine Two.mk (Step.out ?_) (Step.out ?_))
            | (refine Cp.mk fun q hq => Step.out ?_)
            | (refine Ovl.mk (by assumption) (Step.out ?_))
            | (refine CallOK.io1 (g := 17) (Step.out ?_))
            | (refine CallOK.io1 (g := 19) (Step.out ?_))
            | (refine CallOK.ctF (g := 36) (Step.out ?_))
            | (refine CallOK.of_ct (Step.out ?_))
            | (refine CallQ.of_ct (Step.out ?_))
            | (refine Met.by (g := 8) (awake_ct) ?_; rintro q outs ⟨rfl, rfl⟩)
            | (refine Met.by (g := 9) (few_ct _) ?_; rintro q outs ⟨rfl, rfl⟩)
            | (refine Met.by (g := 10) (new_ct _ (by assumption)) ?_; rintro q outs ⟨d, hd, rfl, rfl⟩)
            | (refine Met.by (g := 17) (decs_ct _ _ _ _ (by omega) (by omega)) ?_; rintro q outs ⟨l, d, hl, rfl, rfl⟩)
            | (refine Met.by (g := 19) (sheets_ct _ _ _ _ _ (by omega) (by omega) (by omega) (by omega)) ?_; rintro q outs ⟨L, d, hL, rfl, rfl⟩)
            | (refine Met.by (g := 36) (standing_ct _ _ (by assumption) (by omega)) ?_; rintro q outs ⟨rfl, rfl⟩)
            | (refine Vc.mk ?_ (Step.out ?_))
    · rw [List.take_of_length_le (by omega)]; exact decide_eq_true rfl
end Kx
