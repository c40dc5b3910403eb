/-
  The statements on names: twice.
  No condition beyond those written in each theorem.
-/
import Derived.Test.YtnemdlacifhdoaaKNe
import Derived.Test.YtnemdlacifhdoaaFD
open Go Sx Go.Proofs
set_option linter.unusedSimpArgs false
set_option linter.unusedVariables false
namespace Kx
def Yes (q : D) : Prop := q = .bool true ∨ q = .lit true
def rA : Ru := ⟨[[100,114]], [([98,111,98],[114,111,98,101,114,116])], []⟩
theorem rA_ok : Ru.ok rA := ⟨by decide, by decide, by decide⟩
def rAd : D := .agg [.tab 1 1 fun i => selC [[.str [100,114]]] i, .tab 2 1 fun i => selC [[.str [98,111,98], .str [114,111,98,101,114,116]]] i, .nil]
theorem rA_two {g : FuncId} {s : Str} {R : D → List D → Prop} (H : Ct Try.prog g [ruD rA, .str s] R) : Ct Try.prog g [rAd, .str s] R :=
  H.arg ⟨rfl, ⟨⟨rfl, selC_str rA.t⟩, ⟨rfl, selC_pr rA.n⟩, rfl, trivial⟩, rfl, trivial⟩
theorem rA_one {g : FuncId} {R : D → List D → Prop} (H : Ct Try.prog g [ruD rA] R) : Ct Try.prog g [rAd] R :=
  H.arg ⟨rfl, ⟨⟨rfl, selC_str rA.t⟩, ⟨rfl, selC_pr rA.n⟩, rfl, trivial⟩, trivial⟩
theorem awake_ct : Ct Try.prog 9 [] fun r outs => r = .bool true ∧ outs = [] := by
  refine .det (.of_W (fn := Try.f9) hΓ hm (by rfl) [] [] (by kernel_rfl) (Step.out ?_))
  repeat' first
    | (refine Step.mk ?_; conv => whnf)
    | (refine Vc.om ?_ ?_; first | omega | with_reducible rfl | with_reducible exact same_rfl | (simp only [bytes_2, bytes_3, bytes_4, bytes_5, bytes_9, bytes_12, bytes_21, bytes_22, bytes_25, bytes_27, bytes_28, bytes_29, bytes_30, bytes_38, bytes_43, bytes_44, bytes_47, bytes_50, bytes_51, bytes_52, bytes_54, bytes_55, bytes_66, bytes_68, bytes_69, bytes_70, bytes_83, bytes_84, bytes_85, bytes_86, bytes_97, bytes_103]; omega))
    | (refine NilB.mk fun b hb => Step.out ?_)
    | with_reducible trivial
    | exact noSh_bool _
    | exact noSh_lit _
    | exact noSh_int _ _
    | exact noSh_str _
    | with_reducible rfl
    | with_reducible exact same_rfl
    | (refine Wr.i64 ?_ ?_; omega)
    | (refine Wr.u8 ?_ ?_; omega)
    | (refine Wr.i32 ?_ ?_; omega)
    | (with_reducible refine Br.tt ?_)
    | (with_reducible refine Br.ff ?_)
    | (refine Br.dT ?_ ?_; omega)
    | (refine Br.dF ?_ ?_; omega)
    | (refine Met.by (rA_two (norm_ct rA _ rA_ok (by decide))) ?_; rintro q outs ⟨rfl, rfl⟩)
    | (refine Met.by (rA_one (check_ct rA rA_ok)) ?_; rintro q outs ⟨rfl, rfl⟩)
    | (refine Met.by (rA_two (canon_ct rA _ rA_ok)) ?_; rintro q outs ⟨rfl, rfl⟩)
    | (refine Met.by (rA_two (dropped_ct rA _ rA_ok)) ?_; rintro q outs ⟨rfl, rfl⟩)
    | (refine Br.dT (by decide +kernel) ?_)
    | (exact ⟨trivial, trivial, trivial⟩)
    | (decide +kernel)
    | (refine Br.d (fun h => ?_) (fun h => ?_))
    | (refine Br.swap ?_)
    | (refine Br.bnot ?_)
    | (refine Br.mk (fun h => Step.out ?_) (fun h => Step.out ?_))
    | (refine Two.mk (Step.out ?_) (Step.out ?_))
    | (refine CallOK.of_ct (Step.out ?_))
    | (refine Met.by (g := 19) (norm_ct _ _ (by assumption) (by first | omega | decide | (simp; done) | (simp; omega))) ?_; rintro q outs ⟨rfl, rfl⟩)
    | (refine Met.by (g := 20) (canon_ct _ _ (by assumption)) ?_; rintro q outs ⟨rfl, rfl⟩)
    | (refine Met.by (g := 21) (dropped_ct _ _ (by assumption)) ?_; rintro q outs ⟨rfl, rfl⟩)
    | (refine Met.by (g := 22) (check_ct _ (by assumption)) ?_; rintro q outs ⟨rfl, rfl⟩)
    | (refine Vc.mk ?_ (Step.out ?_))
  all_goals trace_state
theorem idem_ct (l : List Int) : Ct Try.prog 8 [ints l] fun q _ => Yes q := by
  refine .of_W (fn := Try.f8) hΓ hm (by rfl) ord8 [] (by kernel_rfl) (Step.out ?_)
  repeat' first
    | (refine Step.mk ?_; conv => whnf)
    | (refine Vc.om ?_ ?_; first | omega | with_reducible rfl | with_reducible exact same_rfl | (simp only [bytes_2, bytes_3, bytes_4, bytes_5, bytes_9, bytes_12, bytes_21, bytes_22, bytes_25, bytes_27, bytes_28, bytes_29, bytes_30, bytes_38, bytes_43, bytes_44, bytes_47, bytes_50, bytes_51, bytes_52, bytes_54, bytes_55, bytes_66, bytes_68, bytes_69, bytes_70, bytes_83, bytes_84, bytes_85, bytes_86, bytes_97, bytes_103]; omega))
    | (refine NilB.mk fun b hb => Step.out ?_)
    | with_reducible trivial
    | exact noSh_bool _
    | exact noSh_lit _
    | exact noSh_int _ _
    | exact noSh_str _
    | with_reducible rfl
    | with_reducible exact same_rfl
    | (refine Wr.i64 ?_ ?_; omega)
    | (refine Wr.u8 ?_ ?_; omega)
    | (refine Wr.i32 ?_ ?_; omega)
    | (with_reducible refine Br.tt ?_)
    | (with_reducible refine Br.ff ?_)
    | (refine Br.dT ?_ ?_; omega)
    | (refine Br.dF ?_ ?_; omega)
    | (exact .inl rfl)
    | (exact .inr rfl)
    | (refine Br.d (fun h => ?_) (fun h => ?_))
    | (refine Br.swap ?_)
    | (refine Br.bnot ?_)
    | (refine Br.mk (fun h => Step.out ?_) (fun h => Step.out ?_))
    | (refine Two.mk (Step.out ?_) (Step.out ?_))
    | (refine CallOK.io1 (g := 24) (Step.out ?_))
    | (refine CallOK.io1 (g := 26) (Step.out ?_))
    | (refine CallOK.of_ct (Step.out ?_))
    | (refine Met.by (g := 9) (awake_ct) ?_; rintro q outs ⟨rfl, rfl⟩)
    | (refine Met.by (g := 10) (few_ct _) ?_; rintro q outs ⟨rfl, rfl⟩)
    | (refine Met.by (g := 11) (new_ct _ (by assumption)) ?_; rintro q outs ⟨d, hd, rfl, rfl⟩)
    | (refine Met.by (g := 19) (norm_ct _ _ (by assumption) (by first | omega | decide | (simp; done) | (simp; omega))) ?_; rintro q outs ⟨rfl, rfl⟩)
    | (refine Met.by (g := 24) (bent_ct _) ?_; rintro q outs ⟨r, d, hr, rfl, rfl⟩)
    | (refine Met.by (g := 26) (text_ct _) ?_; rintro q outs ⟨x, d, hx, rfl, rfl⟩)
    | (refine Met.by (g := 28) (normal_ct _ _ (by assumption) (by first | omega | decide | (simp; done) | (simp; omega))) ?_; rintro q outs ⟨rfl, rfl⟩)
    | (refine Met.by (g := 32) (rtokens_ct _ (by first | omega | decide | (simp; done) | (simp; omega))) ?_; rintro q outs ⟨rfl, rfl⟩)
    | (refine Vc.mk ?_ (Step.out ?_))
  · obtain ⟨n1, n2, n3, n4⟩ := norm_twice ‹normE r x = 0›
    have nB : normB r (normO r x) = true := by rw [normB, n1, n2]; simp
    generalize normO r x = w at *
    have htc : (toks w).length ≤ 1 + w.length := toks_count w []
    repeat' first
      | (refine Step.mk ?_; conv => whnf)
      | (refine Vc.om ?_ ?_; first | omega | with_reducible rfl | with_reducible exact same_rfl | (simp only [bytes_2, bytes_3, bytes_4, bytes_5, bytes_9, bytes_12, bytes_21, bytes_22, bytes_25, bytes_27, bytes_28, bytes_29, bytes_30, bytes_38, bytes_43, bytes_44, bytes_47, bytes_50, bytes_51, bytes_52, bytes_54, bytes_55, bytes_66, bytes_68, bytes_69, bytes_70, bytes_83, bytes_84, bytes_85, bytes_86, bytes_97, bytes_103]; omega))
      | (refine NilB.mk fun b hb => Step.out ?_)
      | with_reducible trivial
      | exact noSh_bool _
      | exact noSh_lit _
      | exact noSh_int _ _
      | exact noSh_str _
      | with_reducible rfl
      | with_reducible exact same_rfl
      | (refine Wr.i64 ?_ ?_; omega)
      | (refine Wr.u8 ?_ ?_; omega)
      | (refine Wr.i32 ?_ ?_; omega)
      | (with_reducible refine Br.tt ?_)
      | (with_reducible refine Br.ff ?_)
      | (refine Br.dT ?_ ?_; omega)
      | (refine Br.dF ?_ ?_; omega)
      | (refine Met.by ((norm_ct r w hr (by omega)).mono fun q outs h => (⟨by rw [h.1, n1, n2], h.2⟩ : q = .tup [.str w, i64 0] ∧ outs = [])) ?_; rintro q outs ⟨rfl, rfl⟩)
      | (refine Met.by ((normal_ct r w hr (by omega)).mono fun q outs h => (⟨by rw [h.1, nB], h.2⟩ : q = .bool true ∧ outs = [])) ?_; rintro q outs ⟨rfl, rfl⟩)
      | (exact .inl rfl)
      | (exact .inr rfl)
      | (exact .inl (congrArg D.bool (decide_eq_true (by omega))))
      | (refine Br.d (fun h => ?_) (fun h => ?_))
      | (refine Br.swap ?_)
      | (refine Br.bnot ?_)
      | (refine Br.mk (fun h => Step.out ?_) (fun h => Step.out ?_))
      | (refine Two.mk (Step.out ?_) (Step.out ?_))
      | (refine CallOK.io1 (g := 24) (Step.out ?_))
      | (refine CallOK.io1 (g := 26) (Step.out ?_))
      | (refine CallOK.of_ct (Step.out ?_))
      | (refine Met.by (g := 9) (awake_ct) ?_; rintro q outs ⟨rfl, rfl⟩)
      | (refine Met.by (g := 10) (few_ct _) ?_; rintro q outs ⟨rfl, rfl⟩)
      | (refine Met.by (g := 11) (new_ct _ (by assumption)) ?_; rintro q outs ⟨d, hd, rfl, rfl⟩)
      | (refine Met.by (g := 19) (norm_ct _ _ (by assumption) (by first | omega | decide | (simp; done) | (simp; omega))) ?_; rintro q outs ⟨rfl, rfl⟩)
      | (refine Met.by (g := 24) (bent_ct _) ?_; rintro q outs ⟨r, d, hr, rfl, rfl⟩)
      | (refine Met.by (g := 26) (text_ct _) ?_; rintro q outs ⟨x, d, hx, rfl, rfl⟩)
      | (refine Met.by (g := 28) (normal_ct _ _ (by assumption) (by first | omega | decide | (simp; done) | (simp; omega))) ?_; rintro q outs ⟨rfl, rfl⟩)
      | (refine Met.by (g := 32) (rtokens_ct _ (by first | omega | decide | (simp; done) | (simp; omega))) ?_; rintro q outs ⟨rfl, rfl⟩)
      | (refine Vc.mk ?_ (Step.out ?_))
  · exact .inl (congrArg D.bool (decide_eq_true (by rw [normO, if_neg ‹_›])))
  · obtain ⟨n1, n2, n3, n4⟩ := norm_twice ‹normE r x = 0›
    have nB : normB r (normO r x) = true := by rw [normB, n1, n2]; simp
    generalize normO r x = w at *
    have htc : (toks w).length ≤ 1 + w.length := toks_count w []
    repeat' first
      | (refine Step.mk ?_; conv => whnf)
      | (refine Vc.om ?_ ?_; first | omega | with_reducible rfl | with_reducible exact same_rfl | (simp only [bytes_2, bytes_3, bytes_4, bytes_5, bytes_9, bytes_12, bytes_21, bytes_22, bytes_25, bytes_27, bytes_28, bytes_29, bytes_30, bytes_38, bytes_43, bytes_44, bytes_47, bytes_50, bytes_51, bytes_52, bytes_54, bytes_55, bytes_66, bytes_68, bytes_69, bytes_70, bytes_83, bytes_84, bytes_85, bytes_86, bytes_97, bytes_103]; omega))
      | (refine NilB.mk fun b hb => Step.out ?_)
      | with_reducible trivial
      | exact noSh_bool _
      | exact noSh_lit _
      | exact noSh_int _ _
      | exact noSh_str _
      | with_reducible rfl
      | with_reducible exact same_rfl
      | (refine Wr.i64 ?_ ?_; omega)
      | (refine Wr.u8 ?_ ?_; omega)
      | (refine Wr.i32 ?_ ?_; omega)
      | (with_reducible refine Br.tt ?_)
      | (with_reducible refine Br.ff ?_)
      | (refine Br.dT ?_ ?_; omega)
      | (refine Br.dF ?_ ?_; omega)
      | (refine Met.by ((norm_ct r w hr (by omega)).mono fun q outs h => (⟨by rw [h.1, n1, n2], h.2⟩ : q = .tup [.str w, i64 0] ∧ outs = [])) ?_; rintro q outs ⟨rfl, rfl⟩)
      | (refine Met.by ((normal_ct r w hr (by omega)).mono fun q outs h => (⟨by rw [h.1, nB], h.2⟩ : q = .bool true ∧ outs = [])) ?_; rintro q outs ⟨rfl, rfl⟩)
      | (exact .inl rfl)
      | (exact .inr rfl)
      | (exact .inl (congrArg D.bool (decide_eq_true (by omega))))
      | (refine Br.d (fun h => ?_) (fun h => ?_))
      | (refine Br.swap ?_)
      | (refine Br.bnot ?_)
      | (refine Br.mk (fun h => Step.out ?_) (fun h => Step.out ?_))
      | (refine Two.mk (Step.out ?_) (Step.out ?_))
      | (refine CallOK.io1 (g := 24) (Step.out ?_))
      | (refine CallOK.io1 (g := 26) (Step.out ?_))
      | (refine CallOK.of_ct (Step.out ?_))
      | (refine Met.by (g := 9) (awake_ct) ?_; rintro q outs ⟨rfl, rfl⟩)
      | (refine Met.by (g := 10) (few_ct _) ?_; rintro q outs ⟨rfl, rfl⟩)
      | (refine Met.by (g := 11) (new_ct _ (by assumption)) ?_; rintro q outs ⟨d, hd, rfl, rfl⟩)
      | (refine Met.by (g := 19) (norm_ct _ _ (by assumption) (by first | omega | decide | (simp; done) | (simp; omega))) ?_; rintro q outs ⟨rfl, rfl⟩)
      | (refine Met.by (g := 24) (bent_ct _) ?_; rintro q outs ⟨r, d, hr, rfl, rfl⟩)
      | (refine Met.by (g := 26) (text_ct _) ?_; rintro q outs ⟨x, d, hx, rfl, rfl⟩)
      | (refine Met.by (g := 28) (normal_ct _ _ (by assumption) (by first | omega | decide | (simp; done) | (simp; omega))) ?_; rintro q outs ⟨rfl, rfl⟩)
      | (refine Met.by (g := 32) (rtokens_ct _ (by first | omega | decide | (simp; done) | (simp; omega))) ?_; rintro q outs ⟨rfl, rfl⟩)
      | (refine Vc.mk ?_ (Step.out ?_))
  · exact .inl (congrArg D.bool (decide_eq_true (by rw [normO, if_neg ‹_›])))
end Kx
