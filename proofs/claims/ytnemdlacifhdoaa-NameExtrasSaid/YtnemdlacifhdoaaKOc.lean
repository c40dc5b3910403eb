/-
  The statements on names: order.
  No condition beyond those written in each theorem.
-/
import Derived.Test.YtnemdlacifhdoaaKOb
open Go Sx Go.Proofs
set_option linter.unusedSimpArgs false
set_option linter.unusedVariables false
namespace Kx
theorem order_law {r : Ru} (h : RuN r) (l : List Str) (hl : ∀ t ∈ l, Lett t) (h6 : l.length ≤ 6) (hs : (joinS [32] l).length ≤ 64) :
    ((joinS [32] (keepL r l)).length ≤ 64 → normE r (joinS [32] l) = 0 ∧ normO r (joinS [32] l) = joinS [32] (keepL r l)) ∧ (¬(joinS [32] (keepL r l)).length ≤ 64 → normE r (joinS [32] l) = 1) := by
  have hf := low_fixed (lett_tokL hl) fun y hy => (hl y hy).lo
  obtain ⟨e1, e2⟩ := fixed_fold hf hs
  have hL : normL r (joinS [32] l) = keepL r l := by
    show keepL r (toks (foldO (joinS [32] l))) = _
    rw [show foldO (joinS [32] l) = joinS [32] l from e2, toks_join l (lett_tokL hl)]
  have hk := keepL_len r l
  constructor
  · intro h4
    obtain ⟨n1, n2⟩ := norm_of (s := joinS [32] l) h.ok e1 (by rw [hL]; omega) (by rw [hL]; exact h4)
    exact ⟨n1, by rw [n2, hL]⟩
  · intro h4
    rw [normE, if_pos h.ok, if_pos e1, if_neg]
    simp only [normOK, hL, Bool.and_eq_true, decide_eq_true_eq]
    exact fun h => h4 h.2
theorem lett_app {l : List Str} {x : Str} (h : ∀ t ∈ l, Lett t) (hx : Lett x) : ∀ t ∈ l ++ [x], Lett t := fun t ht => by
  rcases List.mem_append.1 ht with ht | ht
  · exact h t ht
  · rw [List.mem_singleton.1 ht]; exact hx
theorem order_ct (l : List Int) : Ct Try.prog 5 [ints l] fun q _ => Yes q := by
  refine .of_W (fn := Try.f5) hΓ hm (by rfl) [] [] (by kernel_rfl) (Step.out ?_)
  repeat' first
    | (refine Step.mk ?_; conv => whnf)
    | (refine Vc.om ?_ ?_; first | omega | with_reducible rfl | with_reducible exact same_rfl | (simp only [bytes_2, bytes_3, bytes_4, bytes_5, bytes_9, bytes_12, bytes_21, bytes_22, bytes_25, bytes_27, bytes_28, bytes_29, bytes_30, bytes_38, bytes_43, bytes_44, bytes_47, bytes_50, bytes_51, bytes_52, bytes_54, bytes_55, bytes_66, bytes_68, bytes_69, bytes_70, bytes_83, bytes_84, bytes_85, bytes_86, bytes_97, bytes_103]; omega))
    | (refine NilB.mk fun b hb => Step.out ?_)
    | with_reducible trivial
    | exact noSh_bool _
    | exact noSh_lit _
    | exact noSh_int _ _
    | exact noSh_str _
    | with_reducible rfl
    | with_reducible exact same_rfl
    | (refine Wr.i64 ?_ ?_; omega)
    | (refine Wr.u8 ?_ ?_; omega)
    | (refine Wr.i32 ?_ ?_; omega)
    | (with_reducible refine Br.tt ?_)
    | (with_reducible refine Br.ff ?_)
    | (refine Br.dT ?_ ?_; omega)
    | (refine Br.dF ?_ ?_; omega)
    | (exact .inl rfl)
    | (exact .inr rfl)
    | (refine Br.d (fun h => ?_) (fun h => ?_))
    | (refine Br.swap ?_)
    | (refine Br.bnot ?_)
    | (refine Br.mk (fun h => Step.out ?_) (fun h => Step.out ?_))
    | (refine Two.mk (Step.out ?_) (Step.out ?_))
    | (refine CallOK.io1 (g := 12) (Step.out ?_))
    | (refine CallOK.io1 (g := 13) (Step.out ?_))
    | (refine CallOK.io1 (g := 14) (Step.out ?_))
    | (refine CallOK.of_ct (Step.out ?_))
    | (refine Met.by (g := 9) (awake_ct) ?_; rintro q outs ⟨rfl, rfl⟩)
    | (refine Met.by (g := 10) (few_ct _) ?_; rintro q outs ⟨rfl, rfl⟩)
    | (refine Met.by (g := 11) (new_ct _ (by assumption)) ?_; rintro q outs ⟨d, hd, rfl, rfl⟩)
    | (refine Met.by (g := 12) (rules_ct _) ?_; rintro q outs ⟨r, d, hr, rfl, rfl⟩)
    | (refine Met.by (g := 13) (next_ct _ _) ?_; rintro q outs ⟨x, d, hx, rfl, rfl⟩)
    | (refine Met.by (g := 14) (token_ct _) ?_; rintro q outs ⟨x, d, ⟨hx1, hx2, hx3⟩, rfl, rfl⟩)
    | (refine Met.by (g := 15) (rjoin_ct _ (by first | omega | decide | (simp; done) | (simp; omega)) (by first | omega | decide | (simp; done) | (simp; omega))) ?_; rintro q outs ⟨rfl, rfl⟩)
    | (refine Met.by (g := 19) (norm_ct _ _ (by assumption) (by first | omega | decide | (simp; done) | (simp; omega))) ?_; rintro q outs ⟨rfl, rfl⟩)
    | (refine Met.by (g := 20) (canon_ct _ _ (by assumption)) ?_; rintro q outs ⟨rfl, rfl⟩)
    | (refine Met.by (g := 21) (dropped_ct _ _ (by assumption)) ?_; rintro q outs ⟨rfl, rfl⟩)
    | (refine Vc.mk ?_ (Step.out ?_))
  · have hR := deck_runs hr
    have hok := hr.ok
    refine CodeOK.loopW hΓ hm [] [] (by kernel_rfl) (α := Dk × Int × List Str) (fun z => [(3, .loc 0 0), (4, .loc 1 0), (5, .own 2), (6, .own 3), (7, i64 z.2.1)]) (fun z => [(0, .var z.1.ls), (1, .var [strs r.t, prs r.n, prs r.s]), (2, .arr 9 1 z.2.2.length fun i => [.str (z.2.2.getD i [])]), (3, .arr 9 1 (keepL r z.2.2).length fun i => [.str ((keepL r z.2.2).getD i [])])]) 4 (fun z => 0 ≤ z.2.1 ∧ z.2.2.length + z.2.1 ≤ 6 ∧ (∀ t ∈ z.2.2, Lett t)) (fun z => z.2.1.toNat) ?_ ?_
    · refine Again.by (d, x, []) ⟨by dsimp only; omega, by simp; omega, nofun⟩ ?_
      dsimp only
      repeat' first
        | (refine Step.mk ?_; conv => whnf)
        | (refine Vc.om ?_ ?_; first | omega | with_reducible rfl | with_reducible exact same_rfl | (simp only [bytes_2, bytes_3, bytes_4, bytes_5, bytes_9, bytes_12, bytes_21, bytes_22, bytes_25, bytes_27, bytes_28, bytes_29, bytes_30, bytes_38, bytes_43, bytes_44, bytes_47, bytes_50, bytes_51, bytes_52, bytes_54, bytes_55, bytes_66, bytes_68, bytes_69, bytes_70, bytes_83, bytes_84, bytes_85, bytes_86, bytes_97, bytes_103]; omega))
        | (refine NilB.mk fun b hb => Step.out ?_)
        | with_reducible trivial
        | exact noSh_bool _
        | exact noSh_lit _
        | exact noSh_int _ _
        | exact noSh_str _
        | with_reducible rfl
        | with_reducible exact same_rfl
        | (refine Wr.i64 ?_ ?_; omega)
        | (refine Wr.u8 ?_ ?_; omega)
        | (refine Wr.i32 ?_ ?_; omega)
        | (with_reducible refine Br.tt ?_)
        | (with_reducible refine Br.ff ?_)
        | (refine Br.dT ?_ ?_; omega)
        | (refine Br.dF ?_ ?_; omega)
        | (rfl)
        | (refine Br.d (fun h => ?_) (fun h => ?_))
        | (refine Br.swap ?_)
        | (refine Br.bnot ?_)
        | (refine Br.mk (fun h => Step.out ?_) (fun h => Step.out ?_))
        | (refine Two.mk (Step.out ?_) (Step.out ?_))
        | (refine CallOK.io1 (g := 12) (Step.out ?_))
        | (refine CallOK.io1 (g := 13) (Step.out ?_))
        | (refine CallOK.io1 (g := 14) (Step.out ?_))
        | (refine CallOK.of_ct (Step.out ?_))
        | (refine Met.by (g := 9) (awake_ct) ?_; rintro q outs ⟨rfl, rfl⟩)
        | (refine Met.by (g := 10) (few_ct _) ?_; rintro q outs ⟨rfl, rfl⟩)
        | (refine Met.by (g := 11) (new_ct _ (by assumption)) ?_; rintro q outs ⟨d, hd, rfl, rfl⟩)
        | (refine Met.by (g := 12) (rules_ct _) ?_; rintro q outs ⟨r, d, hr, rfl, rfl⟩)
        | (refine Met.by (g := 13) (next_ct _ _) ?_; rintro q outs ⟨x, d, hx, rfl, rfl⟩)
        | (refine Met.by (g := 14) (token_ct _) ?_; rintro q outs ⟨x, d, ⟨hx1, hx2, hx3⟩, rfl, rfl⟩)
        | (refine Met.by (g := 15) (rjoin_ct _ (by first | omega | decide | (simp; done) | (simp; omega)) (by first | omega | decide | (simp; done) | (simp; omega))) ?_; rintro q outs ⟨rfl, rfl⟩)
        | (refine Met.by (g := 19) (norm_ct _ _ (by assumption) (by first | omega | decide | (simp; done) | (simp; omega))) ?_; rintro q outs ⟨rfl, rfl⟩)
        | (refine Met.by (g := 20) (canon_ct _ _ (by assumption)) ?_; rintro q outs ⟨rfl, rfl⟩)
        | (refine Met.by (g := 21) (dropped_ct _ _ (by assumption)) ?_; rintro q outs ⟨rfl, rfl⟩)
        | (refine Vc.mk ?_ (Step.out ?_))
    · intro ⟨d, k, T⟩ ⟨h1, h2, h3⟩
      dsimp only at h1 h2 h3 ⊢
      have hkl := keepL_len r T
      have hj := join_len8 T fun t ht => (h3 t ht).le
      have hj2 := join_len8 (keepL r T) (keep_le hR T h3)
      have hn := fun h => order_law hR T h3 h
      repeat' first
        | (refine Step.mk ?_; conv => whnf)
        | (refine Vc.om ?_ ?_; first | omega | with_reducible rfl | with_reducible exact same_rfl | (simp only [bytes_2, bytes_3, bytes_4, bytes_5, bytes_9, bytes_12, bytes_21, bytes_22, bytes_25, bytes_27, bytes_28, bytes_29, bytes_30, bytes_38, bytes_43, bytes_44, bytes_47, bytes_50, bytes_51, bytes_52, bytes_54, bytes_55, bytes_66, bytes_68, bytes_69, bytes_70, bytes_83, bytes_84, bytes_85, bytes_86, bytes_97, bytes_103]; omega))
        | (refine NilB.mk fun b hb => Step.out ?_)
        | with_reducible trivial
        | exact noSh_bool _
        | exact noSh_lit _
        | exact noSh_int _ _
        | exact noSh_str _
        | with_reducible rfl
        | with_reducible exact same_rfl
        | (refine Wr.i64 ?_ ?_; omega)
        | (refine Wr.u8 ?_ ?_; omega)
        | (refine Wr.i32 ?_ ?_; omega)
        | (with_reducible refine Br.tt ?_)
        | (with_reducible refine Br.ff ?_)
        | (refine Br.dT ?_ ?_; omega)
        | (refine Br.dF ?_ ?_; omega)
        | (refine Met.by (canon_ct r _ hok) ?_; rintro q outs ⟨rfl, rfl⟩)
        | (refine Met.by (dropped_ct r _ hok) ?_; rintro q outs ⟨rfl, rfl⟩)
        | (refine Met.by (rjoin_ct T (by omega) (by omega)) ?_; rintro q outs ⟨rfl, rfl⟩)
        | (refine Met.by (rjoin_ct (keepL r T) (by omega) (by omega)) ?_; rintro q outs ⟨rfl, rfl⟩)
        | (refine Met.by (norm_ct r _ hok (by omega)) ?_; rintro q outs ⟨rfl, rfl⟩)
        | (refine Br.d (fun h => ?_) (fun h => ?_))
        | (refine Br.swap ?_)
        | (refine Br.bnot ?_)
        | (refine Br.mk (fun h => Step.out ?_) (fun h => Step.out ?_))
        | (refine Two.mk (Step.out ?_) (Step.out ?_))
        | (refine CallOK.io1 (g := 12) (Step.out ?_))
        | (refine CallOK.io1 (g := 13) (Step.out ?_))
        | (refine CallOK.io1 (g := 14) (Step.out ?_))
        | (refine CallOK.of_ct (Step.out ?_))
        | (refine Met.by (g := 9) (awake_ct) ?_; rintro q outs ⟨rfl, rfl⟩)
        | (refine Met.by (g := 10) (few_ct _) ?_; rintro q outs ⟨rfl, rfl⟩)
        | (refine Met.by (g := 11) (new_ct _ (by assumption)) ?_; rintro q outs ⟨d, hd, rfl, rfl⟩)
        | (refine Met.by (g := 12) (rules_ct _) ?_; rintro q outs ⟨r, d, hr, rfl, rfl⟩)
        | (refine Met.by (g := 13) (next_ct _ _) ?_; rintro q outs ⟨x, d, hx, rfl, rfl⟩)
        | (refine Met.by (g := 14) (token_ct _) ?_; rintro q outs ⟨x, d, ⟨hx1, hx2, hx3⟩, rfl, rfl⟩)
        | (refine Met.by (g := 15) (rjoin_ct _ (by first | omega | decide | (simp; done) | (simp; omega)) (by first | omega | decide | (simp; done) | (simp; omega))) ?_; rintro q outs ⟨rfl, rfl⟩)
        | (refine Met.by (g := 19) (norm_ct _ _ (by assumption) (by first | omega | decide | (simp; done) | (simp; omega))) ?_; rintro q outs ⟨rfl, rfl⟩)
        | (refine Met.by (g := 20) (canon_ct _ _ (by assumption)) ?_; rintro q outs ⟨rfl, rfl⟩)
        | (refine Met.by (g := 21) (dropped_ct _ _ (by assumption)) ?_; rintro q outs ⟨rfl, rfl⟩)
        | (refine Vc.mk ?_ (Step.out ?_))
      · have hx := tok_lett hx1 hx2 hx3
        have ek : keepL r (T ++ [x]) = keepL r T := by rw [keepL_app, keep_lett hx, if_pos ‹_›, List.append_nil]
        refine Again.by (d, k - 1, T ++ [x]) ⟨⟨by dsimp only; omega, by simp only [List.length_append, List.length_cons, List.length_nil]; omega, lett_app h3 hx⟩, by dsimp only; omega⟩ ?_
        dsimp only
        rw [ek]
        repeat' first
          | (refine Step.mk ?_; conv => whnf)
          | (refine Vc.om ?_ ?_; first | omega | with_reducible rfl | with_reducible exact same_rfl | (simp only [bytes_2, bytes_3, bytes_4, bytes_5, bytes_9, bytes_12, bytes_21, bytes_22, bytes_25, bytes_27, bytes_28, bytes_29, bytes_30, bytes_38, bytes_43, bytes_44, bytes_47, bytes_50, bytes_51, bytes_52, bytes_54, bytes_55, bytes_66, bytes_68, bytes_69, bytes_70, bytes_83, bytes_84, bytes_85, bytes_86, bytes_97, bytes_103]; omega))
          | (refine NilB.mk fun b hb => Step.out ?_)
          | with_reducible trivial
          | exact noSh_bool _
          | exact noSh_lit _
          | exact noSh_int _ _
          | exact noSh_str _
          | with_reducible rfl
          | with_reducible exact same_rfl
          | (refine Wr.i64 ?_ ?_; omega)
          | (refine Wr.u8 ?_ ?_; omega)
          | (refine Wr.i32 ?_ ?_; omega)
          | (with_reducible refine Br.tt ?_)
          | (with_reducible refine Br.ff ?_)
          | (refine Br.dT ?_ ?_; omega)
          | (refine Br.dF ?_ ?_; omega)
          | (exact str_app _ _ rfl)
          | (refine Br.d (fun h => ?_) (fun h => ?_))
          | (refine Br.swap ?_)
          | (refine Br.bnot ?_)
          | (refine Br.mk (fun h => Step.out ?_) (fun h => Step.out ?_))
          | (refine Two.mk (Step.out ?_) (Step.out ?_))
          | (refine CallOK.io1 (g := 12) (Step.out ?_))
          | (refine CallOK.io1 (g := 13) (Step.out ?_))
          | (refine CallOK.io1 (g := 14) (Step.out ?_))
          | (refine CallOK.of_ct (Step.out ?_))
          | (refine Met.by (g := 9) (awake_ct) ?_; rintro q outs ⟨rfl, rfl⟩)
          | (refine Met.by (g := 10) (few_ct _) ?_; rintro q outs ⟨rfl, rfl⟩)
          | (refine Met.by (g := 11) (new_ct _ (by assumption)) ?_; rintro q outs ⟨d, hd, rfl, rfl⟩)
          | (refine Met.by (g := 12) (rules_ct _) ?_; rintro q outs ⟨r, d, hr, rfl, rfl⟩)
          | (refine Met.by (g := 13) (next_ct _ _) ?_; rintro q outs ⟨x, d, hx, rfl, rfl⟩)
          | (refine Met.by (g := 14) (token_ct _) ?_; rintro q outs ⟨x, d, ⟨hx1, hx2, hx3⟩, rfl, rfl⟩)
          | (refine Met.by (g := 15) (rjoin_ct _ (by first | omega | decide | (simp; done) | (simp; omega)) (by first | omega | decide | (simp; done) | (simp; omega))) ?_; rintro q outs ⟨rfl, rfl⟩)
          | (refine Met.by (g := 19) (norm_ct _ _ (by assumption) (by first | omega | decide | (simp; done) | (simp; omega))) ?_; rintro q outs ⟨rfl, rfl⟩)
          | (refine Met.by (g := 20) (canon_ct _ _ (by assumption)) ?_; rintro q outs ⟨rfl, rfl⟩)
          | (refine Met.by (g := 21) (dropped_ct _ _ (by assumption)) ?_; rintro q outs ⟨rfl, rfl⟩)
          | (refine Vc.mk ?_ (Step.out ?_))
      · have hx := tok_lett hx1 hx2 hx3
        have ek : keepL r (T ++ [x]) = keepL r T ++ [replS r.n x] := by rw [keepL_app, keep_lett hx, if_neg (by rw [‹hasS r.t x = false›]; simp)]
        refine Again.by (d, k - 1, T ++ [x]) ⟨⟨by dsimp only; omega, by simp only [List.length_append, List.length_cons, List.length_nil]; omega, lett_app h3 hx⟩, by dsimp only; omega⟩ ?_
        dsimp only
        rw [ek]
        repeat' first
          | (refine Step.mk ?_; conv => whnf)
          | (refine Vc.om ?_ ?_; first | omega | with_reducible rfl | with_reducible exact same_rfl | (simp only [bytes_2, bytes_3, bytes_4, bytes_5, bytes_9, bytes_12, bytes_21, bytes_22, bytes_25, bytes_27, bytes_28, bytes_29, bytes_30, bytes_38, bytes_43, bytes_44, bytes_47, bytes_50, bytes_51, bytes_52, bytes_54, bytes_55, bytes_66, bytes_68, bytes_69, bytes_70, bytes_83, bytes_84, bytes_85, bytes_86, bytes_97, bytes_103]; omega))
          | (refine NilB.mk fun b hb => Step.out ?_)
          | with_reducible trivial
          | exact noSh_bool _
          | exact noSh_lit _
          | exact noSh_int _ _
          | exact noSh_str _
          | with_reducible rfl
          | with_reducible exact same_rfl
          | (refine Wr.i64 ?_ ?_; omega)
          | (refine Wr.u8 ?_ ?_; omega)
          | (refine Wr.i32 ?_ ?_; omega)
          | (with_reducible refine Br.tt ?_)
          | (with_reducible refine Br.ff ?_)
          | (refine Br.dT ?_ ?_; omega)
          | (refine Br.dF ?_ ?_; omega)
          | (exact str_app _ _ rfl)
          | (refine Br.d (fun h => ?_) (fun h => ?_))
          | (refine Br.swap ?_)
          | (refine Br.bnot ?_)
          | (refine Br.mk (fun h => Step.out ?_) (fun h => Step.out ?_))
          | (refine Two.mk (Step.out ?_) (Step.out ?_))
          | (refine CallOK.io1 (g := 12) (Step.out ?_))
          | (refine CallOK.io1 (g := 13) (Step.out ?_))
          | (refine CallOK.io1 (g := 14) (Step.out ?_))
          | (refine CallOK.of_ct (Step.out ?_))
          | (refine Met.by (g := 9) (awake_ct) ?_; rintro q outs ⟨rfl, rfl⟩)
          | (refine Met.by (g := 10) (few_ct _) ?_; rintro q outs ⟨rfl, rfl⟩)
          | (refine Met.by (g := 11) (new_ct _ (by assumption)) ?_; rintro q outs ⟨d, hd, rfl, rfl⟩)
          | (refine Met.by (g := 12) (rules_ct _) ?_; rintro q outs ⟨r, d, hr, rfl, rfl⟩)
          | (refine Met.by (g := 13) (next_ct _ _) ?_; rintro q outs ⟨x, d, hx, rfl, rfl⟩)
          | (refine Met.by (g := 14) (token_ct _) ?_; rintro q outs ⟨x, d, ⟨hx1, hx2, hx3⟩, rfl, rfl⟩)
          | (refine Met.by (g := 15) (rjoin_ct _ (by first | omega | decide | (simp; done) | (simp; omega)) (by first | omega | decide | (simp; done) | (simp; omega))) ?_; rintro q outs ⟨rfl, rfl⟩)
          | (refine Met.by (g := 19) (norm_ct _ _ (by assumption) (by first | omega | decide | (simp; done) | (simp; omega))) ?_; rintro q outs ⟨rfl, rfl⟩)
          | (refine Met.by (g := 20) (canon_ct _ _ (by assumption)) ?_; rintro q outs ⟨rfl, rfl⟩)
          | (refine Met.by (g := 21) (dropped_ct _ _ (by assumption)) ?_; rintro q outs ⟨rfl, rfl⟩)
          | (refine Vc.mk ?_ (Step.out ?_))
      · exact .inr rfl
      · exact absurd ((hn (by omega) (by omega)).1 (by omega)).2 ‹_›
end Kx
