/-
  The laws of folding: tokens, parts, pairs of letters.
  No condition beyond those written in each theorem.
-/
import Derived.Test.YteohonkidphofaaKTb
open Go Sx Go.Proofs
set_option linter.unusedSimpArgs false
set_option linter.unusedVariables false
namespace Kx
theorem join_foldO (s : Str) : joinS [32] (toks (foldO s)) = foldO s := by
  rcases foldE_cases s with ⟨_, _, h⟩ | ⟨_, _, h⟩
  · rw [h]; exact (foldS_fixed s).2
  · rw [h]; rfl
theorem tokL_app {l : List Str} {t : Str} (h : tokL l) (h1 : 1 ≤ t.length) (h3 : ∀ x ∈ t, isLet x = true) : tokL (l ++ [t]) := fun u hu => by
  rcases List.mem_append.1 hu with hu | hu
  · exact h u hu
  · rw [List.mem_singleton.1 hu]; exact tok_ok h1 h3
theorem tokens_law (l : List Int) : Ct Try.prog 4 [ints l] fun q _ => Yes q := by
  refine .of_W (fn := Try.f4) hΓ hm (by rfl) [] [] (by kernel_rfl) (Step.out ?_)
  repeat' first
    | (refine Step.mk ?_; conv => whnf)
    | (refine Vc.om ?_ ?_; first | omega | with_reducible rfl | with_reducible exact same_rfl | (simp only [bytes_2, bytes_3, bytes_4, bytes_5, bytes_9, bytes_12, bytes_21, bytes_22, bytes_25, bytes_27, bytes_32, bytes_37, bytes_42, bytes_43, bytes_44, bytes_49, bytes_51, bytes_52, bytes_53, bytes_60, bytes_64, bytes_66, bytes_67, bytes_68, bytes_78, bytes_84]; omega))
    | (refine NilB.mk fun b hb => Step.out ?_)
    | with_reducible trivial
    | exact noSh_bool _
    | exact noSh_lit _
    | exact noSh_int _ _
    | exact noSh_str _
    | with_reducible rfl
    | with_reducible exact same_rfl
    | (refine Wr.i64 ?_ ?_; omega)
    | (refine Wr.u8 ?_ ?_; omega)
    | (refine Wr.i32 ?_ ?_; omega)
    | (with_reducible refine Br.tt ?_)
    | (with_reducible refine Br.ff ?_)
    | (refine Br.dT ?_ ?_; omega)
    | (refine Br.dF ?_ ?_; omega)
    | (exact .inl rfl)
    | (exact .inr rfl)
    | (refine Br.d (fun h => ?_) (fun h => ?_))
    | (refine Br.swap ?_)
    | (refine Br.bnot ?_)
    | (refine Br.mk (fun h => Step.out ?_) (fun h => Step.out ?_))
    | (refine Two.mk (Step.out ?_) (Step.out ?_))
    | (refine CallOK.io1 (g := 13) (Step.out ?_))
    | (refine CallOK.io1 (g := 16) (Step.out ?_))
    | (refine CallOK.io1 (g := 17) (Step.out ?_))
    | (refine CallOK.of_ct (Step.out ?_))
    | (refine Met.by (g := 9) (awake_ct) ?_; rintro q outs ⟨rfl, rfl⟩)
    | (refine Met.by (g := 10) (few_ct _) ?_; rintro q outs ⟨rfl, rfl⟩)
    | (refine Met.by (g := 11) (new_ct _ (by assumption)) ?_; rintro q outs ⟨d, hd, rfl, rfl⟩)
    | (refine Met.by (g := 12) (rfold_ct _ (by first | omega | decide | (simp; done) | (simp; omega))) ?_; rintro q outs ⟨rfl, rfl⟩)
    | (refine Met.by (g := 13) (token_ct _) ?_; rintro q outs ⟨x, d, ⟨hx1, hx2, hx3⟩, rfl, rfl⟩)
    | (refine Met.by (g := 16) (text_ct _) ?_; rintro q outs ⟨x, d, hx, rfl, rfl⟩)
    | (refine Met.by (g := 17) (next_ct _ _) ?_; rintro q outs ⟨x, d, hx, rfl, rfl⟩)
    | (refine Met.by (g := 19) (tokens_ct _ (by first | omega | decide | (simp; done) | (simp; omega))) ?_; rintro q outs ⟨rfl, rfl⟩)
    | (refine Met.by (g := 20) (rsame_ct _ _ (by first | omega | decide | (simp; done) | (simp; omega)) (by first | omega | decide | (simp; done) | (simp; omega))) ?_; rintro q outs ⟨rfl, rfl⟩)
    | (refine Vc.mk ?_ (Step.out ?_))
  · rename_i x0 d0 hx0
    have hfo := foldO_len x0
    have hjo := join_foldO x0
    generalize foldO x0 = S at hfo hjo
    have htc : (toks S).length ≤ 1 + S.length := toks_count S []
    refine CodeOK.loopW hΓ hm [] [] (by kernel_rfl) (α := Dk × Int × List Str) (fun z => [(3, .loc 0 0), (4, .str S), (6, .own 1), (7, i64 z.2.1)]) (fun z => [(0, .var z.1.ls), (1, .arr 9 1 z.2.2.length fun i => [.str (z.2.2.getD i [])])]) 2 (fun z => 0 ≤ z.2.1 ∧ z.2.2.length + z.2.1 ≤ 6 ∧ tokL z.2.2 ∧ (∀ t ∈ z.2.2, t.length ≤ 8)) (fun z => z.2.1.toNat) ?_ ?_
    · refine Again.by (d, x, []) ⟨by dsimp only; omega, by simp; omega, nofun, nofun⟩ ?_
      dsimp only
      repeat' first
        | (refine Step.mk ?_; conv => whnf)
        | (refine Vc.om ?_ ?_; first | omega | with_reducible rfl | with_reducible exact same_rfl | (simp only [bytes_2, bytes_3, bytes_4, bytes_5, bytes_9, bytes_12, bytes_21, bytes_22, bytes_25, bytes_27, bytes_32, bytes_37, bytes_42, bytes_43, bytes_44, bytes_49, bytes_51, bytes_52, bytes_53, bytes_60, bytes_64, bytes_66, bytes_67, bytes_68, bytes_78, bytes_84]; omega))
        | (refine NilB.mk fun b hb => Step.out ?_)
        | with_reducible trivial
        | exact noSh_bool _
        | exact noSh_lit _
        | exact noSh_int _ _
        | exact noSh_str _
        | with_reducible rfl
        | with_reducible exact same_rfl
        | (refine Wr.i64 ?_ ?_; omega)
        | (refine Wr.u8 ?_ ?_; omega)
        | (refine Wr.i32 ?_ ?_; omega)
        | (with_reducible refine Br.tt ?_)
        | (with_reducible refine Br.ff ?_)
        | (refine Br.dT ?_ ?_; omega)
        | (refine Br.dF ?_ ?_; omega)
        | (refine Br.d (fun h => ?_) (fun h => ?_))
        | (refine Br.swap ?_)
        | (refine Br.bnot ?_)
        | (refine Br.mk (fun h => Step.out ?_) (fun h => Step.out ?_))
        | (refine Two.mk (Step.out ?_) (Step.out ?_))
        | (refine CallOK.io1 (g := 13) (Step.out ?_))
        | (refine CallOK.io1 (g := 16) (Step.out ?_))
        | (refine CallOK.io1 (g := 17) (Step.out ?_))
        | (refine CallOK.of_ct (Step.out ?_))
        | (refine Met.by (g := 9) (awake_ct) ?_; rintro q outs ⟨rfl, rfl⟩)
        | (refine Met.by (g := 10) (few_ct _) ?_; rintro q outs ⟨rfl, rfl⟩)
        | (refine Met.by (g := 11) (new_ct _ (by assumption)) ?_; rintro q outs ⟨d, hd, rfl, rfl⟩)
        | (refine Met.by (g := 12) (rfold_ct _ (by first | omega | decide | (simp; done) | (simp; omega))) ?_; rintro q outs ⟨rfl, rfl⟩)
        | (refine Met.by (g := 13) (token_ct _) ?_; rintro q outs ⟨x, d, ⟨hx1, hx2, hx3⟩, rfl, rfl⟩)
        | (refine Met.by (g := 16) (text_ct _) ?_; rintro q outs ⟨x, d, hx, rfl, rfl⟩)
        | (refine Met.by (g := 17) (next_ct _ _) ?_; rintro q outs ⟨x, d, hx, rfl, rfl⟩)
        | (refine Met.by (g := 19) (tokens_ct _ (by first | omega | decide | (simp; done) | (simp; omega))) ?_; rintro q outs ⟨rfl, rfl⟩)
        | (refine Met.by (g := 20) (rsame_ct _ _ (by first | omega | decide | (simp; done) | (simp; omega)) (by first | omega | decide | (simp; done) | (simp; omega))) ?_; rintro q outs ⟨rfl, rfl⟩)
        | (refine Vc.mk ?_ (Step.out ?_))
    · intro ⟨d, k, T⟩ ⟨h1, h2, h3, h4⟩
      dsimp only at h1 h2 h3 h4 ⊢
      have hj := join_bd 8 T h4
      have htk := toks_join T h3
      repeat' first
        | (refine Step.mk ?_; conv => whnf)
        | (refine Vc.om ?_ ?_; first | omega | with_reducible rfl | with_reducible exact same_rfl | (simp only [bytes_2, bytes_3, bytes_4, bytes_5, bytes_9, bytes_12, bytes_21, bytes_22, bytes_25, bytes_27, bytes_32, bytes_37, bytes_42, bytes_43, bytes_44, bytes_49, bytes_51, bytes_52, bytes_53, bytes_60, bytes_64, bytes_66, bytes_67, bytes_68, bytes_78, bytes_84]; omega))
        | (refine NilB.mk fun b hb => Step.out ?_)
        | with_reducible trivial
        | exact noSh_bool _
        | exact noSh_lit _
        | exact noSh_int _ _
        | exact noSh_str _
        | with_reducible rfl
        | with_reducible exact same_rfl
        | (refine Wr.i64 ?_ ?_; omega)
        | (refine Wr.u8 ?_ ?_; omega)
        | (refine Wr.i32 ?_ ?_; omega)
        | (with_reducible refine Br.tt ?_)
        | (with_reducible refine Br.ff ?_)
        | (refine Br.dT ?_ ?_; omega)
        | (refine Br.dF ?_ ?_; omega)
        | (refine Met.by (join1_ct (toks S) (by omega) (by rw [hjo]; omega)) ?_; rintro q outs ⟨rfl, rfl⟩)
        | (refine Met.by (join1_ct T (by omega) (by omega)) ?_; rintro q outs ⟨rfl, rfl⟩)
        | (refine Br.d (fun h => ?_) (fun h => ?_))
        | (refine Br.swap ?_)
        | (refine Br.bnot ?_)
        | (refine Br.mk (fun h => Step.out ?_) (fun h => Step.out ?_))
        | (refine Two.mk (Step.out ?_) (Step.out ?_))
        | (refine CallOK.io1 (g := 13) (Step.out ?_))
        | (refine CallOK.io1 (g := 16) (Step.out ?_))
        | (refine CallOK.io1 (g := 17) (Step.out ?_))
        | (refine CallOK.of_ct (Step.out ?_))
        | (refine Met.by (g := 9) (awake_ct) ?_; rintro q outs ⟨rfl, rfl⟩)
        | (refine Met.by (g := 10) (few_ct _) ?_; rintro q outs ⟨rfl, rfl⟩)
        | (refine Met.by (g := 11) (new_ct _ (by assumption)) ?_; rintro q outs ⟨d, hd, rfl, rfl⟩)
        | (refine Met.by (g := 12) (rfold_ct _ (by first | omega | decide | (simp; done) | (simp; omega))) ?_; rintro q outs ⟨rfl, rfl⟩)
        | (refine Met.by (g := 13) (token_ct _) ?_; rintro q outs ⟨x, d, ⟨hx1, hx2, hx3⟩, rfl, rfl⟩)
        | (refine Met.by (g := 16) (text_ct _) ?_; rintro q outs ⟨x, d, hx, rfl, rfl⟩)
        | (refine Met.by (g := 17) (next_ct _ _) ?_; rintro q outs ⟨x, d, hx, rfl, rfl⟩)
        | (refine Met.by (g := 19) (tokens_ct _ (by first | omega | decide | (simp; done) | (simp; omega))) ?_; rintro q outs ⟨rfl, rfl⟩)
        | (refine Met.by (g := 20) (rsame_ct _ _ (by first | omega | decide | (simp; done) | (simp; omega)) (by first | omega | decide | (simp; done) | (simp; omega))) ?_; rintro q outs ⟨rfl, rfl⟩)
        | (refine Vc.mk ?_ (Step.out ?_))
      · refine Again.by (d, k - 1, T ++ [x]) ⟨⟨by dsimp only; omega, by simp only [List.length_append, List.length_cons, List.length_nil]; omega, tokL_app h3 hx1 hx3, fun t ht => ?_⟩, by dsimp only; omega⟩ ?_
        · rcases List.mem_append.1 ht with ht | ht
          · exact h4 t ht
          · rw [List.mem_singleton.1 ht]; exact hx2
        · dsimp only
          repeat' first
            | (refine Step.mk ?_; conv => whnf)
            | (refine Vc.om ?_ ?_; first | omega | with_reducible rfl | with_reducible exact same_rfl | (simp only [bytes_2, bytes_3, bytes_4, bytes_5, bytes_9, bytes_12, bytes_21, bytes_22, bytes_25, bytes_27, bytes_32, bytes_37, bytes_42, bytes_43, bytes_44, bytes_49, bytes_51, bytes_52, bytes_53, bytes_60, bytes_64, bytes_66, bytes_67, bytes_68, bytes_78, bytes_84]; omega))
            | (refine NilB.mk fun b hb => Step.out ?_)
            | with_reducible trivial
            | exact noSh_bool _
            | exact noSh_lit _
            | exact noSh_int _ _
            | exact noSh_str _
            | with_reducible rfl
            | with_reducible exact same_rfl
            | (refine Wr.i64 ?_ ?_; omega)
            | (refine Wr.u8 ?_ ?_; omega)
            | (refine Wr.i32 ?_ ?_; omega)
            | (with_reducible refine Br.tt ?_)
            | (with_reducible refine Br.ff ?_)
            | (refine Br.dT ?_ ?_; omega)
            | (refine Br.dF ?_ ?_; omega)
            | (exact str_app _ _ rfl)
            | (refine Br.d (fun h => ?_) (fun h => ?_))
            | (refine Br.swap ?_)
            | (refine Br.bnot ?_)
            | (refine Br.mk (fun h => Step.out ?_) (fun h => Step.out ?_))
            | (refine Two.mk (Step.out ?_) (Step.out ?_))
            | (refine CallOK.io1 (g := 13) (Step.out ?_))
            | (refine CallOK.io1 (g := 16) (Step.out ?_))
            | (refine CallOK.io1 (g := 17) (Step.out ?_))
            | (refine CallOK.of_ct (Step.out ?_))
            | (refine Met.by (g := 9) (awake_ct) ?_; rintro q outs ⟨rfl, rfl⟩)
            | (refine Met.by (g := 10) (few_ct _) ?_; rintro q outs ⟨rfl, rfl⟩)
            | (refine Met.by (g := 11) (new_ct _ (by assumption)) ?_; rintro q outs ⟨d, hd, rfl, rfl⟩)
            | (refine Met.by (g := 12) (rfold_ct _ (by first | omega | decide | (simp; done) | (simp; omega))) ?_; rintro q outs ⟨rfl, rfl⟩)
            | (refine Met.by (g := 13) (token_ct _) ?_; rintro q outs ⟨x, d, ⟨hx1, hx2, hx3⟩, rfl, rfl⟩)
            | (refine Met.by (g := 16) (text_ct _) ?_; rintro q outs ⟨x, d, hx, rfl, rfl⟩)
            | (refine Met.by (g := 17) (next_ct _ _) ?_; rintro q outs ⟨x, d, hx, rfl, rfl⟩)
            | (refine Met.by (g := 19) (tokens_ct _ (by first | omega | decide | (simp; done) | (simp; omega))) ?_; rintro q outs ⟨rfl, rfl⟩)
            | (refine Met.by (g := 20) (rsame_ct _ _ (by first | omega | decide | (simp; done) | (simp; omega)) (by first | omega | decide | (simp; done) | (simp; omega))) ?_; rintro q outs ⟨rfl, rfl⟩)
            | (refine Vc.mk ?_ (Step.out ?_))
      · rw [htk]
        repeat' first
          | (refine Step.mk ?_; conv => whnf)
          | (refine Vc.om ?_ ?_; first | omega | with_reducible rfl | with_reducible exact same_rfl | (simp only [bytes_2, bytes_3, bytes_4, bytes_5, bytes_9, bytes_12, bytes_21, bytes_22, bytes_25, bytes_27, bytes_32, bytes_37, bytes_42, bytes_43, bytes_44, bytes_49, bytes_51, bytes_52, bytes_53, bytes_60, bytes_64, bytes_66, bytes_67, bytes_68, bytes_78, bytes_84]; omega))
          | (refine NilB.mk fun b hb => Step.out ?_)
          | with_reducible trivial
          | exact noSh_bool _
          | exact noSh_lit _
          | exact noSh_int _ _
          | exact noSh_str _
          | with_reducible rfl
          | with_reducible exact same_rfl
          | (refine Wr.i64 ?_ ?_; omega)
          | (refine Wr.u8 ?_ ?_; omega)
          | (refine Wr.i32 ?_ ?_; omega)
          | (with_reducible refine Br.tt ?_)
          | (with_reducible refine Br.ff ?_)
          | (refine Br.dT ?_ ?_; omega)
          | (refine Br.dF ?_ ?_; omega)
          | (refine Met.by (rsame_ct T T (by omega) (by omega)) ?_; rintro q outs ⟨rfl, rfl⟩)
          | (refine Br.d (fun h => ?_) (fun h => ?_))
          | (refine Br.swap ?_)
          | (refine Br.bnot ?_)
          | (refine Br.mk (fun h => Step.out ?_) (fun h => Step.out ?_))
          | (refine Two.mk (Step.out ?_) (Step.out ?_))
          | (refine CallOK.io1 (g := 13) (Step.out ?_))
          | (refine CallOK.io1 (g := 16) (Step.out ?_))
          | (refine CallOK.io1 (g := 17) (Step.out ?_))
          | (refine CallOK.of_ct (Step.out ?_))
          | (refine Met.by (g := 9) (awake_ct) ?_; rintro q outs ⟨rfl, rfl⟩)
          | (refine Met.by (g := 10) (few_ct _) ?_; rintro q outs ⟨rfl, rfl⟩)
          | (refine Met.by (g := 11) (new_ct _ (by assumption)) ?_; rintro q outs ⟨d, hd, rfl, rfl⟩)
          | (refine Met.by (g := 12) (rfold_ct _ (by first | omega | decide | (simp; done) | (simp; omega))) ?_; rintro q outs ⟨rfl, rfl⟩)
          | (refine Met.by (g := 13) (token_ct _) ?_; rintro q outs ⟨x, d, ⟨hx1, hx2, hx3⟩, rfl, rfl⟩)
          | (refine Met.by (g := 16) (text_ct _) ?_; rintro q outs ⟨x, d, hx, rfl, rfl⟩)
          | (refine Met.by (g := 17) (next_ct _ _) ?_; rintro q outs ⟨x, d, hx, rfl, rfl⟩)
          | (refine Met.by (g := 19) (tokens_ct _ (by first | omega | decide | (simp; done) | (simp; omega))) ?_; rintro q outs ⟨rfl, rfl⟩)
          | (refine Met.by (g := 20) (rsame_ct _ _ (by first | omega | decide | (simp; done) | (simp; omega)) (by first | omega | decide | (simp; done) | (simp; omega))) ?_; rintro q outs ⟨rfl, rfl⟩)
          | (refine Vc.mk ?_ (Step.out ?_))
        all_goals first | exact .inl (congrArg D.bool (decide_eq_true rfl)) | exact absurd hjo ‹_›
theorem prn_fold (t : Str) (h : ∀ x ∈ t, isPrn x = true) (hl : t.length ≤ 64) : foldE t = 0 ∧ foldO t = joinS [32] (toks (t.flatMap plainS)) := by
  obtain ⟨h1, h2⟩ := rawL_prn t h
  have hv : validS t = true := by rw [validS, h1, Bool.true_and]; exact decide_eq_true hl
  obtain ⟨h3, h4⟩ := foldE_ok hv
  exact ⟨h3, by rw [h4, foldS, h2]⟩
theorem tok_prn {a : Str} (h : ∀ x ∈ a, isLet x = true) : ∀ x ∈ a, isPrn x = true := fun x hx => (plain_an x (tok_an h x hx)).2
theorem tok_flat {a : Str} (h : ∀ x ∈ a, isLet x = true) : a.flatMap plainS = a := by
  rw [← (rawL_prn a (tok_prn h)).2]; exact (rawL_an a (tok_an h)).2
theorem fold_to {t w : Str} (h : ∀ x ∈ t, isPrn x = true) (hl : t.length ≤ 64) (hw : joinS [32] (toks (t.flatMap plainS)) = w) : Ct Try.prog 15 [.str t] fun r outs => r = .tup [.str w, i64 0] ∧ outs = [] :=
  (fold_ct t (by omega)).mono fun r outs e => by
    obtain ⟨h1, h2⟩ := prn_fold t h hl
    rw [h1, h2, hw] at e; exact e
theorem prn_app {a b : Str} (h : ∀ x ∈ a, isPrn x = true) (g : ∀ x ∈ b, isPrn x = true) : ∀ x ∈ a ++ b, isPrn x = true := fun x hx => (List.mem_append.1 hx).elim (h x) (g x)
theorem prn_lit {a : Str} (h : a.all isPrn = true) : ∀ x ∈ a, isPrn x = true := List.all_eq_true.1 h
theorem toks_sp (s : Str) : toks (32 :: s) = toks s := by unfold toks; rw [toksF_sp]; simp [opt]
section
variable {a b : Str} (a1 : 1 ≤ a.length) (a2 : a.length ≤ 8) (a3 : ∀ x ∈ a, isLet x = true) (b1 : 1 ≤ b.length) (b2 : b.length ≤ 8) (b3 : ∀ x ∈ b, isLet x = true)
include a1 a2 a3 b1 b2 b3
theorem dash_ct : Ct Try.prog 15 [.str (a ++ [45] ++ b)] fun r outs => r = .tup [.str (a ++ [32] ++ b), i64 0] ∧ outs = [] := by
  refine fold_to (prn_app (prn_app (tok_prn a3) (prn_lit (by decide +kernel))) (tok_prn b3)) (by simp only [List.length_append, List.length_cons, List.length_nil]; omega) ?_
  rw [List.flatMap_append, List.flatMap_append, tok_flat a3, tok_flat b3]
  exact (pair_fixed a1 a3 b1 b3).2
theorem apo_ct : Ct Try.prog 15 [.str (a ++ [39] ++ b)] fun r outs => r = .tup [.str (a ++ b), i64 0] ∧ outs = [] := by
  refine fold_to (prn_app (prn_app (tok_prn a3) (prn_lit (by decide +kernel))) (tok_prn b3)) (by simp only [List.length_append, List.length_cons, List.length_nil]; omega) ?_
  rw [List.flatMap_append, List.flatMap_append, tok_flat a3, tok_flat b3]
  show joinS [32] (toks (a ++ [] ++ b)) = _
  have h := tok_ok (a := a ++ b) (by simp only [List.length_append]; omega) (fun x hx => (List.mem_append.1 hx).elim (a3 x) (b3 x))
  have := toks_join [a ++ b] (fun t ht => by rw [List.mem_singleton.1 ht]; exact h)
  rw [List.append_nil]
  have e : joinS [32] [a ++ b] = a ++ b := by simp [joinS, tailS]
  rw [e] at this
  rw [this, e]
theorem many_ct : Ct Try.prog 15 [.str ([32] ++ a ++ [32, 46, 47, 32] ++ b ++ [44])] fun r outs => r = .tup [.str (a ++ [32] ++ b), i64 0] ∧ outs = [] := by
  refine fold_to (prn_app (prn_app (prn_app (prn_app (prn_lit (by decide +kernel)) (tok_prn a3)) (prn_lit (by decide +kernel))) (tok_prn b3)) (prn_lit (by decide +kernel))) (by simp only [List.length_append, List.length_cons, List.length_nil]; omega) ?_
  rw [List.flatMap_append, List.flatMap_append, List.flatMap_append, List.flatMap_append, tok_flat a3, tok_flat b3]
  show joinS [32] (toks ([32] ++ a ++ [32, 32, 32, 32] ++ b ++ [32])) = _
  have e1 : toks ([32] ++ a ++ [32, 32, 32, 32] ++ b ++ [32]) = toks (a ++ [32] ++ b) := by
    unfold toks
    rw [toksF_end]
    have e : [32] ++ a ++ [32, 32, 32, 32] ++ b = 32 :: (a ++ 32 :: 32 :: 32 :: 32 :: b) := by simp
    rw [e, toksF_sp]
    simp only [opt, if_true, List.nil_append]
    rw [toksF_dup a [] (32 :: 32 :: b), toksF_dup a [] (32 :: b), toksF_dup a [] b]
    simp
  rw [e1]
  exact (pair_fixed a1 a3 b1 b3).2
omit a2 b2 in
theorem two_len : (toks (a ++ [32] ++ b)).length = 2 := by rw [toks_two (tok_ok a1 a3) (tok_ok b1 b3)]; rfl
end
theorem parts_law (l : List Int) : Ct Try.prog 6 [ints l] fun q _ => Yes q := by
  refine .of_W (fn := Try.f6) hΓ hm (by rfl) [] [] (by kernel_rfl) (Step.out ?_)
  repeat' first
    | (refine Step.mk ?_; conv => whnf)
    | (refine Vc.om ?_ ?_; first | omega | with_reducible rfl | with_reducible exact same_rfl | (simp only [bytes_2, bytes_3, bytes_4, bytes_5, bytes_9, bytes_12, bytes_21, bytes_22, bytes_25, bytes_27, bytes_32, bytes_37, bytes_42, bytes_43, bytes_44, bytes_49, bytes_51, bytes_52, bytes_53, bytes_60, bytes_64, bytes_66, bytes_67, bytes_68, bytes_78, bytes_84]; omega))
    | (refine NilB.mk fun b hb => Step.out ?_)
    | with_reducible trivial
    | exact noSh_bool _
    | exact noSh_lit _
    | exact noSh_int _ _
    | exact noSh_str _
    | with_reducible rfl
    | with_reducible exact same_rfl
    | (refine Wr.i64 ?_ ?_; omega)
    | (refine Wr.u8 ?_ ?_; omega)
    | (refine Wr.i32 ?_ ?_; omega)
    | (with_reducible refine Br.tt ?_)
    | (with_reducible refine Br.ff ?_)
    | (refine Br.dT ?_ ?_; omega)
    | (refine Br.dF ?_ ?_; omega)
    | (exact .inl rfl)
    | (exact .inr rfl)
    | (refine Vc.om ?_ ?_; focus ((simp only [List.length_append, List.length_cons, List.length_nil]; omega); done))
    | (refine Wr.i64 ?_ ?_; focus ((simp only [List.length_append, List.length_cons, List.length_nil]; omega); done))
    | (refine Wr.u8 ?_ ?_; focus ((simp only [List.length_append, List.length_cons, List.length_nil]; omega); done))
    | (refine Br.dT ?_ ?_; focus ((simp only [List.length_append, List.length_cons, List.length_nil]; omega); done))
    | (refine Br.dF ?_ ?_; focus ((simp only [List.length_append, List.length_cons, List.length_nil]; omega); done))
    | (refine Met.by (dash_ct (by assumption) (by assumption) (by assumption) (by assumption) (by assumption) (by assumption)) ?_; rintro q outs ⟨rfl, rfl⟩)
    | (refine Met.by (apo_ct (by assumption) (by assumption) (by assumption) (by assumption) (by assumption) (by assumption)) ?_; rintro q outs ⟨rfl, rfl⟩)
    | (refine Met.by (many_ct (by assumption) (by assumption) (by assumption) (by assumption) (by assumption) (by assumption)) ?_; rintro q outs ⟨rfl, rfl⟩)
    | (refine Br.same ?_)
    | (refine Br.samb ?_)
    | (refine Met.by (tokens_ct (_ ++ [32] ++ _) (by simp only [List.length_append, List.length_cons, List.length_nil]; omega)) ?_; rintro q outs ⟨rfl, rfl⟩)
    | (refine Br.d (fun h => ?_) (fun h => ?_))
    | (refine Br.swap ?_)
    | (refine Br.bnot ?_)
    | (refine Br.mk (fun h => Step.out ?_) (fun h => Step.out ?_))
    | (refine Two.mk (Step.out ?_) (Step.out ?_))
    | (refine CallOK.io1 (g := 13) (Step.out ?_))
    | (refine CallOK.of_ct (Step.out ?_))
    | (refine Met.by (g := 9) (awake_ct) ?_; rintro q outs ⟨rfl, rfl⟩)
    | (refine Met.by (g := 10) (few_ct _) ?_; rintro q outs ⟨rfl, rfl⟩)
    | (refine Met.by (g := 11) (new_ct _ (by assumption)) ?_; rintro q outs ⟨d, hd, rfl, rfl⟩)
    | (refine Met.by (g := 13) (token_ct _) ?_; rintro q outs ⟨x, d, ⟨hx1, hx2, hx3⟩, rfl, rfl⟩)
    | (refine Met.by (g := 15) (fold_ct _ (by first | omega | decide | (simp; done) | (simp; omega))) ?_; rintro q outs ⟨rfl, rfl⟩)
    | (refine Met.by (g := 19) (tokens_ct _ (by first | omega | decide | (simp; done) | (simp; omega))) ?_; rintro q outs ⟨rfl, rfl⟩)
    | (refine Vc.mk ?_ (Step.out ?_))
  exact .inl (congrArg D.bool (decide_eq_true (by rw [two_len (by assumption) (by assumption) (by assumption) (by assumption)]; rfl)))
theorem one_val {v : Int} {x : UInt8} (h : v = x.toNat) (i : Nat) (hi : i < [x].length) : selC [[D.int .u8 v]] i = bytesF [x] i := by
  subst h; exact one_by x i hi
def lo (k : UInt8) : UInt8 := UInt8.ofNat (128 + k.toNat % 32)
def hi (k : UInt8) : UInt8 := UInt8.ofNat (160 + k.toNat % 32)
theorem pr_num : ∀ k : UInt8, (lo k).toNat = 128 + k.toNat % 32 ∧ (hi k).toNat = 160 + k.toNat % 32 := u8_dec (by decide +kernel)
theorem pr_fold : ∀ k : UInt8, foldE ([195] ++ [lo k]) = 0 ∧ foldE ([195] ++ [hi k]) = 0 ∧ (k.toNat % 32 = 31 → foldO ([195] ++ [lo k]) = [115, 115] ∧ foldO ([195] ++ [hi k]) = [121]) ∧ (k.toNat % 32 ≠ 31 → foldO ([195] ++ [lo k]) = foldO ([195] ++ [hi k])) ∧ (foldO ([195] ++ [lo k])).length ≤ 2 ∧ letters (foldO ([195] ++ [lo k])) = foldO ([195] ++ [lo k]) := u8_dec (by decide +kernel)
theorem pairs_law (a : Int) (ha : 0 ≤ a ∧ a ≤ 255) : Ct Try.prog 5 [u8 a] fun q _ => Yes q := by
  obtain ⟨k, rfl⟩ : ∃ k : UInt8, a = k.toNat := ⟨UInt8.ofNat a.toNat, by rw [UInt8.toNat_ofNat']; omega⟩
  have hmd : (k.toNat : Int).tmod 32 = (k.toNat % 32 : Nat) := by rw [Int.tmod_eq_emod_of_nonneg (by omega)]; omega
  obtain ⟨hy, hz⟩ := pr_num k
  obtain ⟨e1, e2, e3, e4, e5, e6⟩ := pr_fold k
  have hmb : k.toNat % 32 < 32 := Nat.mod_lt _ (by decide)
  refine .of_W (fn := Try.f5) hΓ hm (by rfl) [] [] (by kernel_rfl) (Step.out ?_)
  repeat' first
    | (refine Step.mk ?_; conv => whnf)
    | (refine Vc.om ?_ ?_; first | omega | with_reducible rfl | with_reducible exact same_rfl | (simp only [bytes_2, bytes_3, bytes_4, bytes_5, bytes_9, bytes_12, bytes_21, bytes_22, bytes_25, bytes_27, bytes_32, bytes_37, bytes_42, bytes_43, bytes_44, bytes_49, bytes_51, bytes_52, bytes_53, bytes_60, bytes_64, bytes_66, bytes_67, bytes_68, bytes_78, bytes_84]; omega))
    | (refine NilB.mk fun b hb => Step.out ?_)
    | with_reducible trivial
    | exact noSh_bool _
    | exact noSh_lit _
    | exact noSh_int _ _
    | exact noSh_str _
    | with_reducible rfl
    | with_reducible exact same_rfl
    | (refine Wr.i64 ?_ ?_; omega)
    | (refine Wr.u8 ?_ ?_; omega)
    | (refine Wr.i32 ?_ ?_; omega)
    | (with_reducible refine Br.tt ?_)
    | (with_reducible refine Br.ff ?_)
    | (refine Br.dT ?_ ?_; omega)
    | (refine Br.dF ?_ ?_; omega)
    | (exact .inl rfl)
    | (exact .inr rfl)
    | (refine Br.d (fun h => ?_) (fun h => ?_))
    | (refine Br.swap ?_)
    | (refine Br.bnot ?_)
    | (refine Br.mk (fun h => Step.out ?_) (fun h => Step.out ?_))
    | (refine Two.mk (Step.out ?_) (Step.out ?_))
    | (refine CallOK.of_ct (Step.out ?_))
    | (refine Met.by (g := 9) (awake_ct) ?_; rintro q outs ⟨rfl, rfl⟩)
    | (refine Met.by (g := 15) (fold_ct _ (by first | omega | decide | (simp; done) | (simp; omega))) ?_; rintro q outs ⟨rfl, rfl⟩)
    | (refine Met.by (g := 21) (rletters_ct _ (by first | omega | decide | (simp; done) | (simp; omega))) ?_; rintro q outs ⟨rfl, rfl⟩)
    | (refine Vc.mk ?_ (Step.out ?_))
  rw [hmd]
  generalize lo k = y at *
  generalize hi k = z at *
  generalize k.toNat % 32 = m at *
  have c1 : Ct Try.prog 15 [.str ([195] ++ [y])] fun r outs => r = .tup [.str (foldO ([195] ++ [y])), i64 0] ∧ outs = [] := (fold_ct _ (by simp)).mono fun r outs e => by rw [e1] at e; exact e
  have c2 : Ct Try.prog 15 [.str ([195] ++ [z])] fun r outs => r = .tup [.str (foldO ([195] ++ [z])), i64 0] ∧ outs = [] := (fold_ct _ (by simp)).mono fun r outs e => by rw [e2] at e; exact e
  have c3 : Ct Try.prog 15 [.str [97, 195]] fun r outs => r = .tup [.str [], i64 3] ∧ outs = [] := (fold_ct _ (by decide)).mono fun r outs e => e
  have c4 : Ct Try.prog 15 [.str [195, 192]] fun r outs => r = .tup [.str [], i64 3] ∧ outs = [] := (fold_ct _ (by decide)).mono fun r outs e => e
  generalize foldO ([195] ++ [y]) = A at *
  generalize foldO ([195] ++ [z]) = B at *
  repeat' first
    | (refine Step.mk ?_; conv => whnf)
    | (refine Vc.om ?_ ?_; first | omega | with_reducible rfl | with_reducible exact same_rfl | (simp only [bytes_2, bytes_3, bytes_4, bytes_5, bytes_9, bytes_12, bytes_21, bytes_22, bytes_25, bytes_27, bytes_32, bytes_37, bytes_42, bytes_43, bytes_44, bytes_49, bytes_51, bytes_52, bytes_53, bytes_60, bytes_64, bytes_66, bytes_67, bytes_68, bytes_78, bytes_84]; omega))
    | (refine NilB.mk fun b hb => Step.out ?_)
    | with_reducible trivial
    | exact noSh_bool _
    | exact noSh_lit _
    | exact noSh_int _ _
    | exact noSh_str _
    | with_reducible rfl
    | with_reducible exact same_rfl
    | (refine Wr.i64 ?_ ?_; omega)
    | (refine Wr.u8 ?_ ?_; omega)
    | (refine Wr.i32 ?_ ?_; omega)
    | (with_reducible refine Br.tt ?_)
    | (with_reducible refine Br.ff ?_)
    | (refine Br.dT ?_ ?_; omega)
    | (refine Br.dF ?_ ?_; omega)
    | (exact .inl rfl)
    | (exact .inr rfl)
    | (refine Lf.by [y] ⟨rfl, one_val (by omega)⟩ ?_)
    | (refine Lf.by [z] ⟨rfl, one_val (by omega)⟩ ?_)
    | (refine Met.by c1 ?_; rintro q outs ⟨rfl, rfl⟩)
    | (refine Met.by c2 ?_; rintro q outs ⟨rfl, rfl⟩)
    | (refine Met.by c3 ?_; rintro q outs ⟨rfl, rfl⟩)
    | (refine Met.by c4 ?_; rintro q outs ⟨rfl, rfl⟩)
    | (refine Vc.om ?_ ?_; focus ((simp only [List.length_cons, List.length_nil]; omega); done))
    | (refine Wr.i64 ?_ ?_; focus ((simp only [List.length_cons, List.length_nil]; omega); done))
    | (refine Wr.u8 ?_ ?_; focus ((simp only [List.length_cons, List.length_nil]; omega); done))
    | (refine Br.dT ?_ ?_; focus ((simp only [List.length_cons, List.length_nil]; omega); done))
    | (refine Br.dF ?_ ?_; focus ((simp only [List.length_cons, List.length_nil]; omega); done))
    | (exact .inl (congrArg D.bool (decide_eq_true e6)))
    | (refine Br.d (fun h => ?_) (fun h => ?_))
    | (refine Br.swap ?_)
    | (refine Br.bnot ?_)
    | (refine Br.mk (fun h => Step.out ?_) (fun h => Step.out ?_))
    | (refine Two.mk (Step.out ?_) (Step.out ?_))
    | (refine CallOK.of_ct (Step.out ?_))
    | (refine Met.by (g := 9) (awake_ct) ?_; rintro q outs ⟨rfl, rfl⟩)
    | (refine Met.by (g := 15) (fold_ct _ (by first | omega | decide | (simp; done) | (simp; omega))) ?_; rintro q outs ⟨rfl, rfl⟩)
    | (refine Met.by (g := 21) (rletters_ct _ (by first | omega | decide | (simp; done) | (simp; omega))) ?_; rintro q outs ⟨rfl, rfl⟩)
    | (refine Vc.mk ?_ (Step.out ?_))
  · exact absurd (e3 (by omega)).2 ‹_›
  · exact absurd (e3 (by omega)).1 ‹_›
  · exact absurd (e4 (by omega)) ‹_›
end Kx
