/-
  The statements on names: as the reference does.
  No condition beyond those written in each theorem.
-/
import Derived.Test.YtnemdlacifhdoaaKOa
open Go Sx Go.Proofs
set_option linter.unusedSimpArgs false
set_option linter.unusedVariables false
namespace Kx
theorem all_two {s t : Str} (h : ([s, t].all fun s => decide (s.length ≤ 200)) = true) : s.length ≤ 200 ∧ t.length ≤ 200 := by simpa using h
def ruz : Ru := ⟨[], [], []⟩
def rus (l : List Ru) (i : Nat) : List D := [strs (l.getD i ruz).t, prs (l.getD i ruz).n, prs (l.getD i ruz).s]
theorem normO_len (r : Ru) (s : Str) : (normO r s).length ≤ 64 := by
  unfold normO
  split
  · rename_i h
    unfold normE at h
    by_cases h1 : checkE r = 0
    · rw [if_pos h1] at h
      by_cases h2 : foldE s = 0
      · rw [if_pos h2] at h
        by_cases h3 : normOK r s = true
        · simp only [normOK, Bool.and_eq_true, decide_eq_true_eq] at h3
          exact h3.2
        · rw [if_neg h3] at h; cases h
      · rw [if_neg h2] at h; exact absurd h h2
    · rw [if_neg h1] at h; exact absurd h h1
  · simp
set_option maxHeartbeats 4000000 in
theorem exact_ct (l : List Int) (raw : Ru) (s t : Str) : Ct Try.prog 7 [ints l, ruD raw, .str s, .str t] fun q _ => Yes q := by
  refine .of_W (fn := Try.f7) hΓ hm (by rfl) ord7 [4] (by kernel_rfl) (Step.out ?_)
  repeat' first
    | (refine Step.mk ?_; conv => whnf)
    | (refine Vc.om ?_ ?_; first | omega | with_reducible rfl | with_reducible exact same_rfl | (simp only [bytes_2, bytes_3, bytes_4, bytes_5, bytes_9, bytes_12, bytes_21, bytes_22, bytes_25, bytes_27, bytes_28, bytes_29, bytes_30, bytes_38, bytes_43, bytes_44, bytes_47, bytes_50, bytes_51, bytes_52, bytes_54, bytes_55, bytes_66, bytes_68, bytes_69, bytes_70, bytes_83, bytes_84, bytes_85, bytes_86, bytes_97, bytes_103]; omega))
    | (refine NilB.mk fun b hb => Step.out ?_)
    | with_reducible trivial
    | exact noSh_bool _
    | exact noSh_lit _
    | exact noSh_int _ _
    | exact noSh_str _
    | with_reducible rfl
    | with_reducible exact same_rfl
    | (refine Wr.i64 ?_ ?_; omega)
    | (refine Wr.u8 ?_ ?_; omega)
    | (refine Wr.i32 ?_ ?_; omega)
    | (with_reducible refine Br.tt ?_)
    | (with_reducible refine Br.ff ?_)
    | (refine Br.dT ?_ ?_; omega)
    | (refine Br.dF ?_ ?_; omega)
    | (exact .inl rfl)
    | (exact .inr rfl)
    | (refine Met.by (Ct.lit1 [s, t] (short_ct [s, t] (by first | omega | decide | (simp; done) | (simp; omega)))) ?_; rintro q outs ⟨rfl, rfl⟩)
    | (refine Br.d (fun h => ?_) (fun h => ?_))
    | (refine Br.swap ?_)
    | (refine Br.bnot ?_)
    | (refine Br.mk (fun h => Step.out ?_) (fun h => Step.out ?_))
    | (refine Two.mk (Step.out ?_) (Step.out ?_))
    | (refine CallOK.io1 (g := 12) (Step.out ?_))
    | (refine CallOK.io1 (g := 14) (Step.out ?_))
    | (refine CallOK.io1 (g := 24) (Step.out ?_))
    | (refine CallOK.io1 (g := 26) (Step.out ?_))
    | (refine CallOK.of_ct (Step.out ?_))
    | (refine Met.by (g := 9) (awake_ct) ?_; rintro q outs ⟨rfl, rfl⟩)
    | (refine Met.by (g := 10) (few_ct _) ?_; rintro q outs ⟨rfl, rfl⟩)
    | (refine Met.by (g := 11) (new_ct _ (by assumption)) ?_; rintro q outs ⟨d, hd, rfl, rfl⟩)
    | (refine Met.by (g := 12) (rules_ct _) ?_; rintro q outs ⟨r, d, hr, rfl, rfl⟩)
    | (refine Met.by (g := 14) (token_ct _) ?_; rintro q outs ⟨x, d, ⟨hx1, hx2, hx3⟩, rfl, rfl⟩)
    | (refine Met.by (g := 19) (norm_ct _ _ (by assumption) (by first | omega | decide | (simp; done) | (simp; omega))) ?_; rintro q outs ⟨rfl, rfl⟩)
    | (refine Met.by (g := 20) (canon_ct _ _ (by assumption)) ?_; rintro q outs ⟨rfl, rfl⟩)
    | (refine Met.by (g := 21) (dropped_ct _ _ (by assumption)) ?_; rintro q outs ⟨rfl, rfl⟩)
    | (refine Met.by (g := 22) (check_ct _ (by assumption)) ?_; rintro q outs ⟨rfl, rfl⟩)
    | (refine Met.by (g := 23) (short_ct _ (by first | omega | decide | (simp; done) | (simp; omega))) ?_; rintro q outs ⟨rfl, rfl⟩)
    | (refine Met.by (g := 24) (bent_ct _) ?_; rintro q outs ⟨r, d, hr, rfl, rfl⟩)
    | (refine Met.by (g := 25) (rcheck_ct _ (by assumption)) ?_; rintro q outs ⟨rfl, rfl⟩)
    | (refine Met.by (g := 26) (text_ct _) ?_; rintro q outs ⟨x, d, hx, rfl, rfl⟩)
    | (refine Met.by (g := 27) (rnorm_ct _ _ (by assumption) (by first | omega | decide | (simp; done) | (simp; omega))) ?_; rintro q outs ⟨rfl, rfl⟩)
    | (refine Met.by (g := 28) (normal_ct _ _ (by assumption) (by first | omega | decide | (simp; done) | (simp; omega))) ?_; rintro q outs ⟨rfl, rfl⟩)
    | (refine Met.by (g := 29) (rnormal_ct _ _ (by assumption) (by first | omega | decide | (simp; done) | (simp; omega))) ?_; rintro q outs ⟨rfl, rfl⟩)
    | (refine Met.by (g := 30) (rcanon_ct _ _ (by assumption)) ?_; rintro q outs ⟨rfl, rfl⟩)
    | (refine Met.by (g := 31) (rdropped_ct _ _ (by assumption)) ?_; rintro q outs ⟨rfl, rfl⟩)
    | (refine Vc.mk ?_ (Step.out ?_))
  obtain ⟨hs, ht⟩ := all_two ‹_›
  have hraw : Ru.ok raw := ⟨by omega, by omega, by omega⟩
  refine CodeOK.cutW hΓ hm ord7 [4] (by kernel_rfl) (α := Unit) (fun z => []) (fun z => []) 0 (fun z => True) ?_ ?_
  · repeat' first
      | (refine Step.mk ?_; conv => whnf)
      | (refine Vc.om ?_ ?_; first | omega | with_reducible rfl | with_reducible exact same_rfl | (simp only [bytes_2, bytes_3, bytes_4, bytes_5, bytes_9, bytes_12, bytes_21, bytes_22, bytes_25, bytes_27, bytes_28, bytes_29, bytes_30, bytes_38, bytes_43, bytes_44, bytes_47, bytes_50, bytes_51, bytes_52, bytes_54, bytes_55, bytes_66, bytes_68, bytes_69, bytes_70, bytes_83, bytes_84, bytes_85, bytes_86, bytes_97, bytes_103]; omega))
      | (refine NilB.mk fun b hb => Step.out ?_)
      | with_reducible trivial
      | exact noSh_bool _
      | exact noSh_lit _
      | exact noSh_int _ _
      | exact noSh_str _
      | with_reducible rfl
      | with_reducible exact same_rfl
      | (refine Wr.i64 ?_ ?_; omega)
      | (refine Wr.u8 ?_ ?_; omega)
      | (refine Wr.i32 ?_ ?_; omega)
      | (with_reducible refine Br.tt ?_)
      | (with_reducible refine Br.ff ?_)
      | (refine Br.dT ?_ ?_; omega)
      | (refine Br.dF ?_ ?_; omega)
      | (refine Br.d (fun h => ?_) (fun h => ?_))
      | (refine Br.swap ?_)
      | (refine Br.bnot ?_)
      | (refine Br.mk (fun h => Step.out ?_) (fun h => Step.out ?_))
      | (refine Two.mk (Step.out ?_) (Step.out ?_))
      | (refine CallOK.io1 (g := 12) (Step.out ?_))
      | (refine CallOK.io1 (g := 14) (Step.out ?_))
      | (refine CallOK.io1 (g := 24) (Step.out ?_))
      | (refine CallOK.io1 (g := 26) (Step.out ?_))
      | (refine CallOK.of_ct (Step.out ?_))
      | (refine Met.by (g := 9) (awake_ct) ?_; rintro q outs ⟨rfl, rfl⟩)
      | (refine Met.by (g := 10) (few_ct _) ?_; rintro q outs ⟨rfl, rfl⟩)
      | (refine Met.by (g := 11) (new_ct _ (by assumption)) ?_; rintro q outs ⟨d, hd, rfl, rfl⟩)
      | (refine Met.by (g := 12) (rules_ct _) ?_; rintro q outs ⟨r, d, hr, rfl, rfl⟩)
      | (refine Met.by (g := 14) (token_ct _) ?_; rintro q outs ⟨x, d, ⟨hx1, hx2, hx3⟩, rfl, rfl⟩)
      | (refine Met.by (g := 19) (norm_ct _ _ (by assumption) (by first | omega | decide | (simp; done) | (simp; omega))) ?_; rintro q outs ⟨rfl, rfl⟩)
      | (refine Met.by (g := 20) (canon_ct _ _ (by assumption)) ?_; rintro q outs ⟨rfl, rfl⟩)
      | (refine Met.by (g := 21) (dropped_ct _ _ (by assumption)) ?_; rintro q outs ⟨rfl, rfl⟩)
      | (refine Met.by (g := 22) (check_ct _ (by assumption)) ?_; rintro q outs ⟨rfl, rfl⟩)
      | (refine Met.by (g := 23) (short_ct _ (by first | omega | decide | (simp; done) | (simp; omega))) ?_; rintro q outs ⟨rfl, rfl⟩)
      | (refine Met.by (g := 24) (bent_ct _) ?_; rintro q outs ⟨r, d, hr, rfl, rfl⟩)
      | (refine Met.by (g := 25) (rcheck_ct _ (by assumption)) ?_; rintro q outs ⟨rfl, rfl⟩)
      | (refine Met.by (g := 26) (text_ct _) ?_; rintro q outs ⟨x, d, hx, rfl, rfl⟩)
      | (refine Met.by (g := 27) (rnorm_ct _ _ (by assumption) (by first | omega | decide | (simp; done) | (simp; omega))) ?_; rintro q outs ⟨rfl, rfl⟩)
      | (refine Met.by (g := 28) (normal_ct _ _ (by assumption) (by first | omega | decide | (simp; done) | (simp; omega))) ?_; rintro q outs ⟨rfl, rfl⟩)
      | (refine Met.by (g := 29) (rnormal_ct _ _ (by assumption) (by first | omega | decide | (simp; done) | (simp; omega))) ?_; rintro q outs ⟨rfl, rfl⟩)
      | (refine Met.by (g := 30) (rcanon_ct _ _ (by assumption)) ?_; rintro q outs ⟨rfl, rfl⟩)
      | (refine Met.by (g := 31) (rdropped_ct _ _ (by assumption)) ?_; rintro q outs ⟨rfl, rfl⟩)
      | (refine Vc.mk ?_ (Step.out ?_))
    refine CodeOK.cutW hΓ hm ord7 [] (by kernel_rfl) (α := Dk × Ru × Ru) (fun z => [(2, .str s), (3, .str t), (9, .loc 0 0), (58, .tab 3 3 (rus [raw, z.2.1, z.2.2])), (59, i64 3), (60, i64 0)]) (fun z => [(0, .var z.1.ls)]) 1 (fun z => Ru.ok z.2.1 ∧ Ru.ok z.2.2) ?_ ?_
    · repeat' first
        | (refine Step.mk ?_; conv => whnf)
        | (refine Vc.om ?_ ?_; first | omega | with_reducible rfl | with_reducible exact same_rfl | (simp only [bytes_2, bytes_3, bytes_4, bytes_5, bytes_9, bytes_12, bytes_21, bytes_22, bytes_25, bytes_27, bytes_28, bytes_29, bytes_30, bytes_38, bytes_43, bytes_44, bytes_47, bytes_50, bytes_51, bytes_52, bytes_54, bytes_55, bytes_66, bytes_68, bytes_69, bytes_70, bytes_83, bytes_84, bytes_85, bytes_86, bytes_97, bytes_103]; omega))
        | (refine NilB.mk fun b hb => Step.out ?_)
        | with_reducible trivial
        | exact noSh_bool _
        | exact noSh_lit _
        | exact noSh_int _ _
        | exact noSh_str _
        | with_reducible rfl
        | with_reducible exact same_rfl
        | (refine Wr.i64 ?_ ?_; omega)
        | (refine Wr.u8 ?_ ?_; omega)
        | (refine Wr.i32 ?_ ?_; omega)
        | (with_reducible refine Br.tt ?_)
        | (with_reducible refine Br.ff ?_)
        | (refine Br.dT ?_ ?_; omega)
        | (refine Br.dF ?_ ?_; omega)
        | (refine Br.d (fun h => ?_) (fun h => ?_))
        | (refine Br.swap ?_)
        | (refine Br.bnot ?_)
        | (refine Br.mk (fun h => Step.out ?_) (fun h => Step.out ?_))
        | (refine Two.mk (Step.out ?_) (Step.out ?_))
        | (refine CallOK.io1 (g := 12) (Step.out ?_))
        | (refine CallOK.io1 (g := 14) (Step.out ?_))
        | (refine CallOK.io1 (g := 24) (Step.out ?_))
        | (refine CallOK.io1 (g := 26) (Step.out ?_))
        | (refine CallOK.of_ct (Step.out ?_))
        | (refine Met.by (g := 9) (awake_ct) ?_; rintro q outs ⟨rfl, rfl⟩)
        | (refine Met.by (g := 10) (few_ct _) ?_; rintro q outs ⟨rfl, rfl⟩)
        | (refine Met.by (g := 11) (new_ct _ (by assumption)) ?_; rintro q outs ⟨d, hd, rfl, rfl⟩)
        | (refine Met.by (g := 12) (rules_ct _) ?_; rintro q outs ⟨r, d, hr, rfl, rfl⟩)
        | (refine Met.by (g := 14) (token_ct _) ?_; rintro q outs ⟨x, d, ⟨hx1, hx2, hx3⟩, rfl, rfl⟩)
        | (refine Met.by (g := 19) (norm_ct _ _ (by assumption) (by first | omega | decide | (simp; done) | (simp; omega))) ?_; rintro q outs ⟨rfl, rfl⟩)
        | (refine Met.by (g := 20) (canon_ct _ _ (by assumption)) ?_; rintro q outs ⟨rfl, rfl⟩)
        | (refine Met.by (g := 21) (dropped_ct _ _ (by assumption)) ?_; rintro q outs ⟨rfl, rfl⟩)
        | (refine Met.by (g := 22) (check_ct _ (by assumption)) ?_; rintro q outs ⟨rfl, rfl⟩)
        | (refine Met.by (g := 23) (short_ct _ (by first | omega | decide | (simp; done) | (simp; omega))) ?_; rintro q outs ⟨rfl, rfl⟩)
        | (refine Met.by (g := 24) (bent_ct _) ?_; rintro q outs ⟨r, d, hr, rfl, rfl⟩)
        | (refine Met.by (g := 25) (rcheck_ct _ (by assumption)) ?_; rintro q outs ⟨rfl, rfl⟩)
        | (refine Met.by (g := 26) (text_ct _) ?_; rintro q outs ⟨x, d, hx, rfl, rfl⟩)
        | (refine Met.by (g := 27) (rnorm_ct _ _ (by assumption) (by first | omega | decide | (simp; done) | (simp; omega))) ?_; rintro q outs ⟨rfl, rfl⟩)
        | (refine Met.by (g := 28) (normal_ct _ _ (by assumption) (by first | omega | decide | (simp; done) | (simp; omega))) ?_; rintro q outs ⟨rfl, rfl⟩)
        | (refine Met.by (g := 29) (rnormal_ct _ _ (by assumption) (by first | omega | decide | (simp; done) | (simp; omega))) ?_; rintro q outs ⟨rfl, rfl⟩)
        | (refine Met.by (g := 30) (rcanon_ct _ _ (by assumption)) ?_; rintro q outs ⟨rfl, rfl⟩)
        | (refine Met.by (g := 31) (rdropped_ct _ _ (by assumption)) ?_; rintro q outs ⟨rfl, rfl⟩)
        | (refine Vc.mk ?_ (Step.out ?_))
      all_goals rename_i r0 d0 hr0
      all_goals refine Again.by (d, r0, r) ⟨hr0.ok, hr⟩ ?_
      all_goals dsimp only
      all_goals
        repeat' first
          | (refine Step.mk ?_; conv => whnf)
          | (refine Vc.om ?_ ?_; first | omega | with_reducible rfl | with_reducible exact same_rfl | (simp only [bytes_2, bytes_3, bytes_4, bytes_5, bytes_9, bytes_12, bytes_21, bytes_22, bytes_25, bytes_27, bytes_28, bytes_29, bytes_30, bytes_38, bytes_43, bytes_44, bytes_47, bytes_50, bytes_51, bytes_52, bytes_54, bytes_55, bytes_66, bytes_68, bytes_69, bytes_70, bytes_83, bytes_84, bytes_85, bytes_86, bytes_97, bytes_103]; omega))
          | (refine NilB.mk fun b hb => Step.out ?_)
          | with_reducible trivial
          | exact noSh_bool _
          | exact noSh_lit _
          | exact noSh_int _ _
          | exact noSh_str _
          | with_reducible rfl
          | with_reducible exact same_rfl
          | (refine Wr.i64 ?_ ?_; omega)
          | (refine Wr.u8 ?_ ?_; omega)
          | (refine Wr.i32 ?_ ?_; omega)
          | (with_reducible refine Br.tt ?_)
          | (with_reducible refine Br.ff ?_)
          | (refine Br.dT ?_ ?_; omega)
          | (refine Br.dF ?_ ?_; omega)
          | (refine ⟨rfl, fun i hi => ?_⟩; match i with | 0 => rfl | 1 => rfl | 2 => rfl | n + 3 => exact absurd hi (by omega))
          | (refine Br.d (fun h => ?_) (fun h => ?_))
          | (refine Br.swap ?_)
          | (refine Br.bnot ?_)
          | (refine Br.mk (fun h => Step.out ?_) (fun h => Step.out ?_))
          | (refine Two.mk (Step.out ?_) (Step.out ?_))
          | (refine CallOK.io1 (g := 12) (Step.out ?_))
          | (refine CallOK.io1 (g := 14) (Step.out ?_))
          | (refine CallOK.io1 (g := 24) (Step.out ?_))
          | (refine CallOK.io1 (g := 26) (Step.out ?_))
          | (refine CallOK.of_ct (Step.out ?_))
          | (refine Met.by (g := 9) (awake_ct) ?_; rintro q outs ⟨rfl, rfl⟩)
          | (refine Met.by (g := 10) (few_ct _) ?_; rintro q outs ⟨rfl, rfl⟩)
          | (refine Met.by (g := 11) (new_ct _ (by assumption)) ?_; rintro q outs ⟨d, hd, rfl, rfl⟩)
          | (refine Met.by (g := 12) (rules_ct _) ?_; rintro q outs ⟨r, d, hr, rfl, rfl⟩)
          | (refine Met.by (g := 14) (token_ct _) ?_; rintro q outs ⟨x, d, ⟨hx1, hx2, hx3⟩, rfl, rfl⟩)
          | (refine Met.by (g := 19) (norm_ct _ _ (by assumption) (by first | omega | decide | (simp; done) | (simp; omega))) ?_; rintro q outs ⟨rfl, rfl⟩)
          | (refine Met.by (g := 20) (canon_ct _ _ (by assumption)) ?_; rintro q outs ⟨rfl, rfl⟩)
          | (refine Met.by (g := 21) (dropped_ct _ _ (by assumption)) ?_; rintro q outs ⟨rfl, rfl⟩)
          | (refine Met.by (g := 22) (check_ct _ (by assumption)) ?_; rintro q outs ⟨rfl, rfl⟩)
          | (refine Met.by (g := 23) (short_ct _ (by first | omega | decide | (simp; done) | (simp; omega))) ?_; rintro q outs ⟨rfl, rfl⟩)
          | (refine Met.by (g := 24) (bent_ct _) ?_; rintro q outs ⟨r, d, hr, rfl, rfl⟩)
          | (refine Met.by (g := 25) (rcheck_ct _ (by assumption)) ?_; rintro q outs ⟨rfl, rfl⟩)
          | (refine Met.by (g := 26) (text_ct _) ?_; rintro q outs ⟨x, d, hx, rfl, rfl⟩)
          | (refine Met.by (g := 27) (rnorm_ct _ _ (by assumption) (by first | omega | decide | (simp; done) | (simp; omega))) ?_; rintro q outs ⟨rfl, rfl⟩)
          | (refine Met.by (g := 28) (normal_ct _ _ (by assumption) (by first | omega | decide | (simp; done) | (simp; omega))) ?_; rintro q outs ⟨rfl, rfl⟩)
          | (refine Met.by (g := 29) (rnormal_ct _ _ (by assumption) (by first | omega | decide | (simp; done) | (simp; omega))) ?_; rintro q outs ⟨rfl, rfl⟩)
          | (refine Met.by (g := 30) (rcanon_ct _ _ (by assumption)) ?_; rintro q outs ⟨rfl, rfl⟩)
          | (refine Met.by (g := 31) (rdropped_ct _ _ (by assumption)) ?_; rintro q outs ⟨rfl, rfl⟩)
          | (refine Vc.mk ?_ (Step.out ?_))
    · intro ⟨d, r1, r2⟩ ⟨h1, h2⟩
      dsimp only at h1 h2 ⊢
      repeat' first
        | (refine Step.mk ?_; conv => whnf)
        | (refine Vc.om ?_ ?_; first | omega | with_reducible rfl | with_reducible exact same_rfl | (simp only [bytes_2, bytes_3, bytes_4, bytes_5, bytes_9, bytes_12, bytes_21, bytes_22, bytes_25, bytes_27, bytes_28, bytes_29, bytes_30, bytes_38, bytes_43, bytes_44, bytes_47, bytes_50, bytes_51, bytes_52, bytes_54, bytes_55, bytes_66, bytes_68, bytes_69, bytes_70, bytes_83, bytes_84, bytes_85, bytes_86, bytes_97, bytes_103]; omega))
        | (refine NilB.mk fun b hb => Step.out ?_)
        | with_reducible trivial
        | exact noSh_bool _
        | exact noSh_lit _
        | exact noSh_int _ _
        | exact noSh_str _
        | with_reducible rfl
        | with_reducible exact same_rfl
        | (refine Wr.i64 ?_ ?_; omega)
        | (refine Wr.u8 ?_ ?_; omega)
        | (refine Wr.i32 ?_ ?_; omega)
        | (with_reducible refine Br.tt ?_)
        | (with_reducible refine Br.ff ?_)
        | (refine Br.dT ?_ ?_; omega)
        | (refine Br.dF ?_ ?_; omega)
        | (refine Br.d (fun h => ?_) (fun h => ?_))
        | (refine Br.swap ?_)
        | (refine Br.bnot ?_)
        | (refine Br.mk (fun h => Step.out ?_) (fun h => Step.out ?_))
        | (refine Two.mk (Step.out ?_) (Step.out ?_))
        | (refine CallOK.io1 (g := 12) (Step.out ?_))
        | (refine CallOK.io1 (g := 14) (Step.out ?_))
        | (refine CallOK.io1 (g := 24) (Step.out ?_))
        | (refine CallOK.io1 (g := 26) (Step.out ?_))
        | (refine CallOK.of_ct (Step.out ?_))
        | (refine Met.by (g := 9) (awake_ct) ?_; rintro q outs ⟨rfl, rfl⟩)
        | (refine Met.by (g := 10) (few_ct _) ?_; rintro q outs ⟨rfl, rfl⟩)
        | (refine Met.by (g := 11) (new_ct _ (by assumption)) ?_; rintro q outs ⟨d, hd, rfl, rfl⟩)
        | (refine Met.by (g := 12) (rules_ct _) ?_; rintro q outs ⟨r, d, hr, rfl, rfl⟩)
        | (refine Met.by (g := 14) (token_ct _) ?_; rintro q outs ⟨x, d, ⟨hx1, hx2, hx3⟩, rfl, rfl⟩)
        | (refine Met.by (g := 19) (norm_ct _ _ (by assumption) (by first | omega | decide | (simp; done) | (simp; omega))) ?_; rintro q outs ⟨rfl, rfl⟩)
        | (refine Met.by (g := 20) (canon_ct _ _ (by assumption)) ?_; rintro q outs ⟨rfl, rfl⟩)
        | (refine Met.by (g := 21) (dropped_ct _ _ (by assumption)) ?_; rintro q outs ⟨rfl, rfl⟩)
        | (refine Met.by (g := 22) (check_ct _ (by assumption)) ?_; rintro q outs ⟨rfl, rfl⟩)
        | (refine Met.by (g := 23) (short_ct _ (by first | omega | decide | (simp; done) | (simp; omega))) ?_; rintro q outs ⟨rfl, rfl⟩)
        | (refine Met.by (g := 24) (bent_ct _) ?_; rintro q outs ⟨r, d, hr, rfl, rfl⟩)
        | (refine Met.by (g := 25) (rcheck_ct _ (by assumption)) ?_; rintro q outs ⟨rfl, rfl⟩)
        | (refine Met.by (g := 26) (text_ct _) ?_; rintro q outs ⟨x, d, hx, rfl, rfl⟩)
        | (refine Met.by (g := 27) (rnorm_ct _ _ (by assumption) (by first | omega | decide | (simp; done) | (simp; omega))) ?_; rintro q outs ⟨rfl, rfl⟩)
        | (refine Met.by (g := 28) (normal_ct _ _ (by assumption) (by first | omega | decide | (simp; done) | (simp; omega))) ?_; rintro q outs ⟨rfl, rfl⟩)
        | (refine Met.by (g := 29) (rnormal_ct _ _ (by assumption) (by first | omega | decide | (simp; done) | (simp; omega))) ?_; rintro q outs ⟨rfl, rfl⟩)
        | (refine Met.by (g := 30) (rcanon_ct _ _ (by assumption)) ?_; rintro q outs ⟨rfl, rfl⟩)
        | (refine Met.by (g := 31) (rdropped_ct _ _ (by assumption)) ?_; rintro q outs ⟨rfl, rfl⟩)
        | (refine Vc.mk ?_ (Step.out ?_))
      refine CodeOK.loopW hΓ hm ord7 [7] (by kernel_rfl) (α := Dk × Nat) (fun z => [(2, .str s), (3, .str t), (9, .loc 0 0), (58, .tab 3 3 (rus [raw, r1, r2])), (59, i64 3), (60, i64 z.2)]) (fun z => [(0, .var z.1.ls)]) 1 (fun z => z.2 ≤ 3) (fun z => 3 - z.2) ?_ ?_
      · refine Again.by (d, 0) (Nat.zero_le _) ?_
        dsimp only
        repeat' first
          | (refine Step.mk ?_; conv => whnf)
          | (refine Vc.om ?_ ?_; first | omega | with_reducible rfl | with_reducible exact same_rfl | (simp only [bytes_2, bytes_3, bytes_4, bytes_5, bytes_9, bytes_12, bytes_21, bytes_22, bytes_25, bytes_27, bytes_28, bytes_29, bytes_30, bytes_38, bytes_43, bytes_44, bytes_47, bytes_50, bytes_51, bytes_52, bytes_54, bytes_55, bytes_66, bytes_68, bytes_69, bytes_70, bytes_83, bytes_84, bytes_85, bytes_86, bytes_97, bytes_103]; omega))
          | (refine NilB.mk fun b hb => Step.out ?_)
          | with_reducible trivial
          | exact noSh_bool _
          | exact noSh_lit _
          | exact noSh_int _ _
          | exact noSh_str _
          | with_reducible rfl
          | with_reducible exact same_rfl
          | (refine Wr.i64 ?_ ?_; omega)
          | (refine Wr.u8 ?_ ?_; omega)
          | (refine Wr.i32 ?_ ?_; omega)
          | (with_reducible refine Br.tt ?_)
          | (with_reducible refine Br.ff ?_)
          | (refine Br.dT ?_ ?_; omega)
          | (refine Br.dF ?_ ?_; omega)
          | (refine Br.d (fun h => ?_) (fun h => ?_))
          | (refine Br.swap ?_)
          | (refine Br.bnot ?_)
          | (refine Br.mk (fun h => Step.out ?_) (fun h => Step.out ?_))
          | (refine Two.mk (Step.out ?_) (Step.out ?_))
          | (refine CallOK.io1 (g := 12) (Step.out ?_))
          | (refine CallOK.io1 (g := 14) (Step.out ?_))
          | (refine CallOK.io1 (g := 24) (Step.out ?_))
          | (refine CallOK.io1 (g := 26) (Step.out ?_))
          | (refine CallOK.of_ct (Step.out ?_))
          | (refine Met.by (g := 9) (awake_ct) ?_; rintro q outs ⟨rfl, rfl⟩)
          | (refine Met.by (g := 10) (few_ct _) ?_; rintro q outs ⟨rfl, rfl⟩)
          | (refine Met.by (g := 11) (new_ct _ (by assumption)) ?_; rintro q outs ⟨d, hd, rfl, rfl⟩)
          | (refine Met.by (g := 12) (rules_ct _) ?_; rintro q outs ⟨r, d, hr, rfl, rfl⟩)
          | (refine Met.by (g := 14) (token_ct _) ?_; rintro q outs ⟨x, d, ⟨hx1, hx2, hx3⟩, rfl, rfl⟩)
          | (refine Met.by (g := 19) (norm_ct _ _ (by assumption) (by first | omega | decide | (simp; done) | (simp; omega))) ?_; rintro q outs ⟨rfl, rfl⟩)
          | (refine Met.by (g := 20) (canon_ct _ _ (by assumption)) ?_; rintro q outs ⟨rfl, rfl⟩)
          | (refine Met.by (g := 21) (dropped_ct _ _ (by assumption)) ?_; rintro q outs ⟨rfl, rfl⟩)
          | (refine Met.by (g := 22) (check_ct _ (by assumption)) ?_; rintro q outs ⟨rfl, rfl⟩)
          | (refine Met.by (g := 23) (short_ct _ (by first | omega | decide | (simp; done) | (simp; omega))) ?_; rintro q outs ⟨rfl, rfl⟩)
          | (refine Met.by (g := 24) (bent_ct _) ?_; rintro q outs ⟨r, d, hr, rfl, rfl⟩)
          | (refine Met.by (g := 25) (rcheck_ct _ (by assumption)) ?_; rintro q outs ⟨rfl, rfl⟩)
          | (refine Met.by (g := 26) (text_ct _) ?_; rintro q outs ⟨x, d, hx, rfl, rfl⟩)
          | (refine Met.by (g := 27) (rnorm_ct _ _ (by assumption) (by first | omega | decide | (simp; done) | (simp; omega))) ?_; rintro q outs ⟨rfl, rfl⟩)
          | (refine Met.by (g := 28) (normal_ct _ _ (by assumption) (by first | omega | decide | (simp; done) | (simp; omega))) ?_; rintro q outs ⟨rfl, rfl⟩)
          | (refine Met.by (g := 29) (rnormal_ct _ _ (by assumption) (by first | omega | decide | (simp; done) | (simp; omega))) ?_; rintro q outs ⟨rfl, rfl⟩)
          | (refine Met.by (g := 30) (rcanon_ct _ _ (by assumption)) ?_; rintro q outs ⟨rfl, rfl⟩)
          | (refine Met.by (g := 31) (rdropped_ct _ _ (by assumption)) ?_; rintro q outs ⟨rfl, rfl⟩)
          | (refine Vc.mk ?_ (Step.out ?_))
      · intro ⟨d, i⟩ hi
        dsimp only at hi ⊢
        have hk : Ru.ok ([raw, r1, r2].getD (i : Int).toNat ruz) := by
          rw [Int.toNat_natCast]
          match i with
          | 0 => exact hraw
          | 1 => exact h1
          | 2 => exact h2
          | 3 => exact ⟨Nat.zero_le _, Nat.zero_le _, Nat.zero_le _⟩
          | n + 4 => exact absurd hi (by omega)
        repeat' first
          | (refine Step.mk ?_; conv => whnf)
          | (refine Vc.om ?_ ?_; first | omega | with_reducible rfl | with_reducible exact same_rfl | (simp only [bytes_2, bytes_3, bytes_4, bytes_5, bytes_9, bytes_12, bytes_21, bytes_22, bytes_25, bytes_27, bytes_28, bytes_29, bytes_30, bytes_38, bytes_43, bytes_44, bytes_47, bytes_50, bytes_51, bytes_52, bytes_54, bytes_55, bytes_66, bytes_68, bytes_69, bytes_70, bytes_83, bytes_84, bytes_85, bytes_86, bytes_97, bytes_103]; omega))
          | (refine NilB.mk fun b hb => Step.out ?_)
          | with_reducible trivial
          | exact noSh_bool _
          | exact noSh_lit _
          | exact noSh_int _ _
          | exact noSh_str _
          | with_reducible rfl
          | with_reducible exact same_rfl
          | (refine Wr.i64 ?_ ?_; omega)
          | (refine Wr.u8 ?_ ?_; omega)
          | (refine Wr.i32 ?_ ?_; omega)
          | (with_reducible refine Br.tt ?_)
          | (with_reducible refine Br.ff ?_)
          | (refine Br.dT ?_ ?_; omega)
          | (refine Br.dF ?_ ?_; omega)
          | (refine Br.d (fun h => ?_) (fun h => ?_))
          | (refine Br.swap ?_)
          | (refine Br.bnot ?_)
          | (refine Br.mk (fun h => Step.out ?_) (fun h => Step.out ?_))
          | (refine Two.mk (Step.out ?_) (Step.out ?_))
          | (refine CallOK.io1 (g := 12) (Step.out ?_))
          | (refine CallOK.io1 (g := 14) (Step.out ?_))
          | (refine CallOK.io1 (g := 24) (Step.out ?_))
          | (refine CallOK.io1 (g := 26) (Step.out ?_))
          | (refine CallOK.of_ct (Step.out ?_))
          | (refine Met.by (g := 9) (awake_ct) ?_; rintro q outs ⟨rfl, rfl⟩)
          | (refine Met.by (g := 10) (few_ct _) ?_; rintro q outs ⟨rfl, rfl⟩)
          | (refine Met.by (g := 11) (new_ct _ (by assumption)) ?_; rintro q outs ⟨d, hd, rfl, rfl⟩)
          | (refine Met.by (g := 12) (rules_ct _) ?_; rintro q outs ⟨r, d, hr, rfl, rfl⟩)
          | (refine Met.by (g := 14) (token_ct _) ?_; rintro q outs ⟨x, d, ⟨hx1, hx2, hx3⟩, rfl, rfl⟩)
          | (refine Met.by (g := 19) (norm_ct _ _ (by assumption) (by first | omega | decide | (simp; done) | (simp; omega))) ?_; rintro q outs ⟨rfl, rfl⟩)
          | (refine Met.by (g := 20) (canon_ct _ _ (by assumption)) ?_; rintro q outs ⟨rfl, rfl⟩)
          | (refine Met.by (g := 21) (dropped_ct _ _ (by assumption)) ?_; rintro q outs ⟨rfl, rfl⟩)
          | (refine Met.by (g := 22) (check_ct _ (by assumption)) ?_; rintro q outs ⟨rfl, rfl⟩)
          | (refine Met.by (g := 23) (short_ct _ (by first | omega | decide | (simp; done) | (simp; omega))) ?_; rintro q outs ⟨rfl, rfl⟩)
          | (refine Met.by (g := 24) (bent_ct _) ?_; rintro q outs ⟨r, d, hr, rfl, rfl⟩)
          | (refine Met.by (g := 25) (rcheck_ct _ (by assumption)) ?_; rintro q outs ⟨rfl, rfl⟩)
          | (refine Met.by (g := 26) (text_ct _) ?_; rintro q outs ⟨x, d, hx, rfl, rfl⟩)
          | (refine Met.by (g := 27) (rnorm_ct _ _ (by assumption) (by first | omega | decide | (simp; done) | (simp; omega))) ?_; rintro q outs ⟨rfl, rfl⟩)
          | (refine Met.by (g := 28) (normal_ct _ _ (by assumption) (by first | omega | decide | (simp; done) | (simp; omega))) ?_; rintro q outs ⟨rfl, rfl⟩)
          | (refine Met.by (g := 29) (rnormal_ct _ _ (by assumption) (by first | omega | decide | (simp; done) | (simp; omega))) ?_; rintro q outs ⟨rfl, rfl⟩)
          | (refine Met.by (g := 30) (rcanon_ct _ _ (by assumption)) ?_; rintro q outs ⟨rfl, rfl⟩)
          | (refine Met.by (g := 31) (rdropped_ct _ _ (by assumption)) ?_; rintro q outs ⟨rfl, rfl⟩)
          | (refine Vc.mk ?_ (Step.out ?_))
        · generalize [raw, r1, r2].getD (i : Int).toNat ruz = r at *
          refine CodeOK.cutW hΓ hm ord7 [] (by kernel_rfl) (α := Unit) (fun z => [(2, .str s), (3, .str t), (9, .loc 0 0), (11, .loc 1 0), (58, .tab 3 3 (rus [raw, r1, r2])), (59, i64 3), (60, i64 i)]) (fun z => [(0, .var d.ls), (1, .var [strs r.t, prs r.n, prs r.s])]) 2 (fun z => True) ?_ ?_
          · repeat' first
              | (refine Step.mk ?_; conv => whnf)
              | (refine Vc.om ?_ ?_; first | omega | with_reducible rfl | with_reducible exact same_rfl | (simp only [bytes_2, bytes_3, bytes_4, bytes_5, bytes_9, bytes_12, bytes_21, bytes_22, bytes_25, bytes_27, bytes_28, bytes_29, bytes_30, bytes_38, bytes_43, bytes_44, bytes_47, bytes_50, bytes_51, bytes_52, bytes_54, bytes_55, bytes_66, bytes_68, bytes_69, bytes_70, bytes_83, bytes_84, bytes_85, bytes_86, bytes_97, bytes_103]; omega))
              | (refine NilB.mk fun b hb => Step.out ?_)
              | with_reducible trivial
              | exact noSh_bool _
              | exact noSh_lit _
              | exact noSh_int _ _
              | exact noSh_str _
              | with_reducible rfl
              | with_reducible exact same_rfl
              | (refine Wr.i64 ?_ ?_; omega)
              | (refine Wr.u8 ?_ ?_; omega)
              | (refine Wr.i32 ?_ ?_; omega)
              | (with_reducible refine Br.tt ?_)
              | (with_reducible refine Br.ff ?_)
              | (refine Br.dT ?_ ?_; omega)
              | (refine Br.dF ?_ ?_; omega)
              | (refine Met.by (check_ct r hk) ?_; rintro q outs ⟨rfl, rfl⟩)
              | (refine Met.by (rcheck_ct r hk) ?_; rintro q outs ⟨rfl, rfl⟩)
              | (refine Again.by () trivial ?_)
              | (refine Br.d (fun h => ?_) (fun h => ?_))
              | (refine Br.swap ?_)
              | (refine Br.bnot ?_)
              | (refine Br.mk (fun h => Step.out ?_) (fun h => Step.out ?_))
              | (refine Two.mk (Step.out ?_) (Step.out ?_))
              | (refine CallOK.io1 (g := 12) (Step.out ?_))
              | (refine CallOK.io1 (g := 14) (Step.out ?_))
              | (refine CallOK.io1 (g := 24) (Step.out ?_))
              | (refine CallOK.io1 (g := 26) (Step.out ?_))
              | (refine CallOK.of_ct (Step.out ?_))
              | (refine Met.by (g := 9) (awake_ct) ?_; rintro q outs ⟨rfl, rfl⟩)
              | (refine Met.by (g := 10) (few_ct _) ?_; rintro q outs ⟨rfl, rfl⟩)
              | (refine Met.by (g := 11) (new_ct _ (by assumption)) ?_; rintro q outs ⟨d, hd, rfl, rfl⟩)
              | (refine Met.by (g := 12) (rules_ct _) ?_; rintro q outs ⟨r, d, hr, rfl, rfl⟩)
              | (refine Met.by (g := 14) (token_ct _) ?_; rintro q outs ⟨x, d, ⟨hx1, hx2, hx3⟩, rfl, rfl⟩)
              | (refine Met.by (g := 19) (norm_ct _ _ (by assumption) (by first | omega | decide | (simp; done) | (simp; omega))) ?_; rintro q outs ⟨rfl, rfl⟩)
              | (refine Met.by (g := 20) (canon_ct _ _ (by assumption)) ?_; rintro q outs ⟨rfl, rfl⟩)
              | (refine Met.by (g := 21) (dropped_ct _ _ (by assumption)) ?_; rintro q outs ⟨rfl, rfl⟩)
              | (refine Met.by (g := 22) (check_ct _ (by assumption)) ?_; rintro q outs ⟨rfl, rfl⟩)
              | (refine Met.by (g := 23) (short_ct _ (by first | omega | decide | (simp; done) | (simp; omega))) ?_; rintro q outs ⟨rfl, rfl⟩)
              | (refine Met.by (g := 24) (bent_ct _) ?_; rintro q outs ⟨r, d, hr, rfl, rfl⟩)
              | (refine Met.by (g := 25) (rcheck_ct _ (by assumption)) ?_; rintro q outs ⟨rfl, rfl⟩)
              | (refine Met.by (g := 26) (text_ct _) ?_; rintro q outs ⟨x, d, hx, rfl, rfl⟩)
              | (refine Met.by (g := 27) (rnorm_ct _ _ (by assumption) (by first | omega | decide | (simp; done) | (simp; omega))) ?_; rintro q outs ⟨rfl, rfl⟩)
              | (refine Met.by (g := 28) (normal_ct _ _ (by assumption) (by first | omega | decide | (simp; done) | (simp; omega))) ?_; rintro q outs ⟨rfl, rfl⟩)
              | (refine Met.by (g := 29) (rnormal_ct _ _ (by assumption) (by first | omega | decide | (simp; done) | (simp; omega))) ?_; rintro q outs ⟨rfl, rfl⟩)
              | (refine Met.by (g := 30) (rcanon_ct _ _ (by assumption)) ?_; rintro q outs ⟨rfl, rfl⟩)
              | (refine Met.by (g := 31) (rdropped_ct _ _ (by assumption)) ?_; rintro q outs ⟨rfl, rfl⟩)
              | (refine Vc.mk ?_ (Step.out ?_))
          · intro _ _
            repeat' first
              | (refine Step.mk ?_; conv => whnf)
              | (refine Vc.om ?_ ?_; first | omega | with_reducible rfl | with_reducible exact same_rfl | (simp only [bytes_2, bytes_3, bytes_4, bytes_5, bytes_9, bytes_12, bytes_21, bytes_22, bytes_25, bytes_27, bytes_28, bytes_29, bytes_30, bytes_38, bytes_43, bytes_44, bytes_47, bytes_50, bytes_51, bytes_52, bytes_54, bytes_55, bytes_66, bytes_68, bytes_69, bytes_70, bytes_83, bytes_84, bytes_85, bytes_86, bytes_97, bytes_103]; omega))
              | (refine NilB.mk fun b hb => Step.out ?_)
              | with_reducible trivial
              | exact noSh_bool _
              | exact noSh_lit _
              | exact noSh_int _ _
              | exact noSh_str _
              | with_reducible rfl
              | with_reducible exact same_rfl
              | (refine Wr.i64 ?_ ?_; omega)
              | (refine Wr.u8 ?_ ?_; omega)
              | (refine Wr.i32 ?_ ?_; omega)
              | (with_reducible refine Br.tt ?_)
              | (with_reducible refine Br.ff ?_)
              | (refine Br.dT ?_ ?_; omega)
              | (refine Br.dF ?_ ?_; omega)
              | (refine Br.d (fun h => ?_) (fun h => ?_))
              | (refine Br.swap ?_)
              | (refine Br.bnot ?_)
              | (refine Br.mk (fun h => Step.out ?_) (fun h => Step.out ?_))
              | (refine Two.mk (Step.out ?_) (Step.out ?_))
              | (refine CallOK.io1 (g := 12) (Step.out ?_))
              | (refine CallOK.io1 (g := 14) (Step.out ?_))
              | (refine CallOK.io1 (g := 24) (Step.out ?_))
              | (refine CallOK.io1 (g := 26) (Step.out ?_))
              | (refine CallOK.of_ct (Step.out ?_))
              | (refine Met.by (g := 9) (awake_ct) ?_; rintro q outs ⟨rfl, rfl⟩)
              | (refine Met.by (g := 10) (few_ct _) ?_; rintro q outs ⟨rfl, rfl⟩)
              | (refine Met.by (g := 11) (new_ct _ (by assumption)) ?_; rintro q outs ⟨d, hd, rfl, rfl⟩)
              | (refine Met.by (g := 12) (rules_ct _) ?_; rintro q outs ⟨r, d, hr, rfl, rfl⟩)
              | (refine Met.by (g := 14) (token_ct _) ?_; rintro q outs ⟨x, d, ⟨hx1, hx2, hx3⟩, rfl, rfl⟩)
              | (refine Met.by (g := 19) (norm_ct _ _ (by assumption) (by first | omega | decide | (simp; done) | (simp; omega))) ?_; rintro q outs ⟨rfl, rfl⟩)
              | (refine Met.by (g := 20) (canon_ct _ _ (by assumption)) ?_; rintro q outs ⟨rfl, rfl⟩)
              | (refine Met.by (g := 21) (dropped_ct _ _ (by assumption)) ?_; rintro q outs ⟨rfl, rfl⟩)
              | (refine Met.by (g := 22) (check_ct _ (by assumption)) ?_; rintro q outs ⟨rfl, rfl⟩)
              | (refine Met.by (g := 23) (short_ct _ (by first | omega | decide | (simp; done) | (simp; omega))) ?_; rintro q outs ⟨rfl, rfl⟩)
              | (refine Met.by (g := 24) (bent_ct _) ?_; rintro q outs ⟨r, d, hr, rfl, rfl⟩)
              | (refine Met.by (g := 25) (rcheck_ct _ (by assumption)) ?_; rintro q outs ⟨rfl, rfl⟩)
              | (refine Met.by (g := 26) (text_ct _) ?_; rintro q outs ⟨x, d, hx, rfl, rfl⟩)
              | (refine Met.by (g := 27) (rnorm_ct _ _ (by assumption) (by first | omega | decide | (simp; done) | (simp; omega))) ?_; rintro q outs ⟨rfl, rfl⟩)
              | (refine Met.by (g := 28) (normal_ct _ _ (by assumption) (by first | omega | decide | (simp; done) | (simp; omega))) ?_; rintro q outs ⟨rfl, rfl⟩)
              | (refine Met.by (g := 29) (rnormal_ct _ _ (by assumption) (by first | omega | decide | (simp; done) | (simp; omega))) ?_; rintro q outs ⟨rfl, rfl⟩)
              | (refine Met.by (g := 30) (rcanon_ct _ _ (by assumption)) ?_; rintro q outs ⟨rfl, rfl⟩)
              | (refine Met.by (g := 31) (rdropped_ct _ _ (by assumption)) ?_; rintro q outs ⟨rfl, rfl⟩)
              | (refine Vc.mk ?_ (Step.out ?_))
            rename_i x0 d0; have hx0 := hx
            refine CodeOK.loopW hΓ hm ord7 [] (by kernel_rfl) (α := Nat) (fun j => [(2, .str s), (3, .str t), (9, .loc 0 0), (11, .loc 1 0), (58, .tab 3 3 (rus [raw, r1, r2])), (59, i64 3), (60, i64 i), (75, strs [s, t, x0, x]), (76, i64 4), (77, i64 j)]) (fun j => [(0, .var d.ls), (1, .var [strs r.t, prs r.n, prs r.s])]) 2 (fun j => j ≤ 4) (fun j => 4 - j) ?_ ?_
            · refine Again.by 0 (Nat.zero_le _) ?_
              repeat' first
                | (exact ⟨rfl, selC_str [s, t, x0, x]⟩)
                | (refine Step.mk ?_; conv => whnf)
                | (refine Vc.om ?_ ?_; first | omega | with_reducible rfl | with_reducible exact same_rfl | (simp only [bytes_2, bytes_3, bytes_4, bytes_5, bytes_9, bytes_12, bytes_21, bytes_22, bytes_25, bytes_27, bytes_28, bytes_29, bytes_30, bytes_38, bytes_43, bytes_44, bytes_47, bytes_50, bytes_51, bytes_52, bytes_54, bytes_55, bytes_66, bytes_68, bytes_69, bytes_70, bytes_83, bytes_84, bytes_85, bytes_86, bytes_97, bytes_103]; omega))
                | (refine NilB.mk fun b hb => Step.out ?_)
                | with_reducible trivial
                | exact noSh_bool _
                | exact noSh_lit _
                | exact noSh_int _ _
                | exact noSh_str _
                | with_reducible rfl
                | with_reducible exact same_rfl
                | (refine Wr.i64 ?_ ?_; omega)
                | (refine Wr.u8 ?_ ?_; omega)
                | (refine Wr.i32 ?_ ?_; omega)
                | (with_reducible refine Br.tt ?_)
                | (with_reducible refine Br.ff ?_)
                | (refine Br.dT ?_ ?_; omega)
                | (refine Br.dF ?_ ?_; omega)
                | (refine Br.d (fun h => ?_) (fun h => ?_))
                | (refine Br.swap ?_)
                | (refine Br.bnot ?_)
                | (refine Br.mk (fun h => Step.out ?_) (fun h => Step.out ?_))
                | (refine Two.mk (Step.out ?_) (Step.out ?_))
                | (refine CallOK.io1 (g := 12) (Step.out ?_))
                | (refine CallOK.io1 (g := 14) (Step.out ?_))
                | (refine CallOK.io1 (g := 24) (Step.out ?_))
                | (refine CallOK.io1 (g := 26) (Step.out ?_))
                | (refine CallOK.of_ct (Step.out ?_))
                | (refine Met.by (g := 9) (awake_ct) ?_; rintro q outs ⟨rfl, rfl⟩)
                | (refine Met.by (g := 10) (few_ct _) ?_; rintro q outs ⟨rfl, rfl⟩)
                | (refine Met.by (g := 11) (new_ct _ (by assumption)) ?_; rintro q outs ⟨d, hd, rfl, rfl⟩)
                | (refine Met.by (g := 12) (rules_ct _) ?_; rintro q outs ⟨r, d, hr, rfl, rfl⟩)
                | (refine Met.by (g := 14) (token_ct _) ?_; rintro q outs ⟨x, d, ⟨hx1, hx2, hx3⟩, rfl, rfl⟩)
                | (refine Met.by (g := 19) (norm_ct _ _ (by assumption) (by first | omega | decide | (simp; done) | (simp; omega))) ?_; rintro q outs ⟨rfl, rfl⟩)
                | (refine Met.by (g := 20) (canon_ct _ _ (by assumption)) ?_; rintro q outs ⟨rfl, rfl⟩)
                | (refine Met.by (g := 21) (dropped_ct _ _ (by assumption)) ?_; rintro q outs ⟨rfl, rfl⟩)
                | (refine Met.by (g := 22) (check_ct _ (by assumption)) ?_; rintro q outs ⟨rfl, rfl⟩)
                | (refine Met.by (g := 23) (short_ct _ (by first | omega | decide | (simp; done) | (simp; omega))) ?_; rintro q outs ⟨rfl, rfl⟩)
                | (refine Met.by (g := 24) (bent_ct _) ?_; rintro q outs ⟨r, d, hr, rfl, rfl⟩)
                | (refine Met.by (g := 25) (rcheck_ct _ (by assumption)) ?_; rintro q outs ⟨rfl, rfl⟩)
                | (refine Met.by (g := 26) (text_ct _) ?_; rintro q outs ⟨x, d, hx, rfl, rfl⟩)
                | (refine Met.by (g := 27) (rnorm_ct _ _ (by assumption) (by first | omega | decide | (simp; done) | (simp; omega))) ?_; rintro q outs ⟨rfl, rfl⟩)
                | (refine Met.by (g := 28) (normal_ct _ _ (by assumption) (by first | omega | decide | (simp; done) | (simp; omega))) ?_; rintro q outs ⟨rfl, rfl⟩)
                | (refine Met.by (g := 29) (rnormal_ct _ _ (by assumption) (by first | omega | decide | (simp; done) | (simp; omega))) ?_; rintro q outs ⟨rfl, rfl⟩)
                | (refine Met.by (g := 30) (rcanon_ct _ _ (by assumption)) ?_; rintro q outs ⟨rfl, rfl⟩)
                | (refine Met.by (g := 31) (rdropped_ct _ _ (by assumption)) ?_; rintro q outs ⟨rfl, rfl⟩)
                | (refine Vc.mk ?_ (Step.out ?_))
            · intro j hj
              repeat' first
                | (refine Step.mk ?_; conv => whnf)
                | (refine Vc.om ?_ ?_; first | omega | with_reducible rfl | with_reducible exact same_rfl | (simp only [bytes_2, bytes_3, bytes_4, bytes_5, bytes_9, bytes_12, bytes_21, bytes_22, bytes_25, bytes_27, bytes_28, bytes_29, bytes_30, bytes_38, bytes_43, bytes_44, bytes_47, bytes_50, bytes_51, bytes_52, bytes_54, bytes_55, bytes_66, bytes_68, bytes_69, bytes_70, bytes_83, bytes_84, bytes_85, bytes_86, bytes_97, bytes_103]; omega))
                | (refine NilB.mk fun b hb => Step.out ?_)
                | with_reducible trivial
                | exact noSh_bool _
                | exact noSh_lit _
                | exact noSh_int _ _
                | exact noSh_str _
                | with_reducible rfl
                | with_reducible exact same_rfl
                | (refine Wr.i64 ?_ ?_; omega)
                | (refine Wr.u8 ?_ ?_; omega)
                | (refine Wr.i32 ?_ ?_; omega)
                | (with_reducible refine Br.tt ?_)
                | (with_reducible refine Br.ff ?_)
                | (refine Br.dT ?_ ?_; omega)
                | (refine Br.dF ?_ ?_; omega)
                | (refine Vc.om ?_ ?_; focus (simp; omega; done))
                | (refine Wr.i64 ?_ ?_; focus (simp; omega; done))
                | (refine Wr.u8 ?_ ?_; focus (simp; omega; done))
                | (refine Br.dT ?_ ?_; focus (simp; omega; done))
                | (refine Br.dF ?_ ?_; focus (simp; omega; done))
                | (refine Br.d (fun h => ?_) (fun h => ?_))
                | (refine Br.swap ?_)
                | (refine Br.bnot ?_)
                | (refine Br.mk (fun h => Step.out ?_) (fun h => Step.out ?_))
                | (refine Two.mk (Step.out ?_) (Step.out ?_))
                | (refine CallOK.io1 (g := 12) (Step.out ?_))
                | (refine CallOK.io1 (g := 14) (Step.out ?_))
                | (refine CallOK.io1 (g := 24) (Step.out ?_))
                | (refine CallOK.io1 (g := 26) (Step.out ?_))
                | (refine CallOK.of_ct (Step.out ?_))
                | (refine Met.by (g := 9) (awake_ct) ?_; rintro q outs ⟨rfl, rfl⟩)
                | (refine Met.by (g := 10) (few_ct _) ?_; rintro q outs ⟨rfl, rfl⟩)
                | (refine Met.by (g := 11) (new_ct _ (by assumption)) ?_; rintro q outs ⟨d, hd, rfl, rfl⟩)
                | (refine Met.by (g := 12) (rules_ct _) ?_; rintro q outs ⟨r, d, hr, rfl, rfl⟩)
                | (refine Met.by (g := 14) (token_ct _) ?_; rintro q outs ⟨x, d, ⟨hx1, hx2, hx3⟩, rfl, rfl⟩)
                | (refine Met.by (g := 19) (norm_ct _ _ (by assumption) (by first | omega | decide | (simp; done) | (simp; omega))) ?_; rintro q outs ⟨rfl, rfl⟩)
                | (refine Met.by (g := 20) (canon_ct _ _ (by assumption)) ?_; rintro q outs ⟨rfl, rfl⟩)
                | (refine Met.by (g := 21) (dropped_ct _ _ (by assumption)) ?_; rintro q outs ⟨rfl, rfl⟩)
                | (refine Met.by (g := 22) (check_ct _ (by assumption)) ?_; rintro q outs ⟨rfl, rfl⟩)
                | (refine Met.by (g := 23) (short_ct _ (by first | omega | decide | (simp; done) | (simp; omega))) ?_; rintro q outs ⟨rfl, rfl⟩)
                | (refine Met.by (g := 24) (bent_ct _) ?_; rintro q outs ⟨r, d, hr, rfl, rfl⟩)
                | (refine Met.by (g := 25) (rcheck_ct _ (by assumption)) ?_; rintro q outs ⟨rfl, rfl⟩)
                | (refine Met.by (g := 26) (text_ct _) ?_; rintro q outs ⟨x, d, hx, rfl, rfl⟩)
                | (refine Met.by (g := 27) (rnorm_ct _ _ (by assumption) (by first | omega | decide | (simp; done) | (simp; omega))) ?_; rintro q outs ⟨rfl, rfl⟩)
                | (refine Met.by (g := 28) (normal_ct _ _ (by assumption) (by first | omega | decide | (simp; done) | (simp; omega))) ?_; rintro q outs ⟨rfl, rfl⟩)
                | (refine Met.by (g := 29) (rnormal_ct _ _ (by assumption) (by first | omega | decide | (simp; done) | (simp; omega))) ?_; rintro q outs ⟨rfl, rfl⟩)
                | (refine Met.by (g := 30) (rcanon_ct _ _ (by assumption)) ?_; rintro q outs ⟨rfl, rfl⟩)
                | (refine Met.by (g := 31) (rdropped_ct _ _ (by assumption)) ?_; rintro q outs ⟨rfl, rfl⟩)
                | (refine Vc.mk ?_ (Step.out ?_))
              · have hxl : ([s, t, x0, x].getD (j : Int).toNat []).length ≤ 200 := by
                  rw [Int.toNat_natCast]
                  match j with
                  | 0 => exact hs
                  | 1 => exact ht
                  | 2 => exact Nat.le_trans hx0 (show 64 ≤ 200 by decide)
                  | 3 => exact Nat.le_trans hx2 (show 8 ≤ 200 by decide)
                  | n + 4 => simp
                generalize [s, t, x0, x].getD (j : Int).toNat [] = y at *
                have hol := normO_len r y
                repeat' first
                  | (refine Step.mk ?_; conv => whnf)
                  | (refine Vc.om ?_ ?_; first | omega | with_reducible rfl | with_reducible exact same_rfl | (simp only [bytes_2, bytes_3, bytes_4, bytes_5, bytes_9, bytes_12, bytes_21, bytes_22, bytes_25, bytes_27, bytes_28, bytes_29, bytes_30, bytes_38, bytes_43, bytes_44, bytes_47, bytes_50, bytes_51, bytes_52, bytes_54, bytes_55, bytes_66, bytes_68, bytes_69, bytes_70, bytes_83, bytes_84, bytes_85, bytes_86, bytes_97, bytes_103]; omega))
                  | (refine NilB.mk fun b hb => Step.out ?_)
                  | with_reducible trivial
                  | exact noSh_bool _
                  | exact noSh_lit _
                  | exact noSh_int _ _
                  | exact noSh_str _
                  | with_reducible rfl
                  | with_reducible exact same_rfl
                  | (refine Wr.i64 ?_ ?_; omega)
                  | (refine Wr.u8 ?_ ?_; omega)
                  | (refine Wr.i32 ?_ ?_; omega)
                  | (with_reducible refine Br.tt ?_)
                  | (with_reducible refine Br.ff ?_)
                  | (refine Br.dT ?_ ?_; omega)
                  | (refine Br.dF ?_ ?_; omega)
                  | (refine Met.by (norm_ct r _ hk (by omega)) ?_; rintro q outs ⟨rfl, rfl⟩)
                  | (refine Met.by (rnorm_ct r _ hk (by omega)) ?_; rintro q outs ⟨rfl, rfl⟩)
                  | (refine Met.by (normal_ct r _ hk (by omega)) ?_; rintro q outs ⟨rfl, rfl⟩)
                  | (refine Met.by (rnormal_ct r _ hk (by omega)) ?_; rintro q outs ⟨rfl, rfl⟩)
                  | (refine Met.by (canon_ct r _ hk) ?_; rintro q outs ⟨rfl, rfl⟩)
                  | (refine Met.by (rcanon_ct r _ hk) ?_; rintro q outs ⟨rfl, rfl⟩)
                  | (refine Met.by (dropped_ct r _ hk) ?_; rintro q outs ⟨rfl, rfl⟩)
                  | (refine Met.by (rdropped_ct r _ hk) ?_; rintro q outs ⟨rfl, rfl⟩)
                  | (refine Again.by (j + 1) ⟨by omega, by omega⟩ ?_)
                  | (with_reducible rfl)
                  | (refine Br.d (fun h => ?_) (fun h => ?_))
                  | (refine Br.swap ?_)
                  | (refine Br.bnot ?_)
                  | (refine Br.mk (fun h => Step.out ?_) (fun h => Step.out ?_))
                  | (refine Two.mk (Step.out ?_) (Step.out ?_))
                  | (refine CallOK.io1 (g := 12) (Step.out ?_))
                  | (refine CallOK.io1 (g := 14) (Step.out ?_))
                  | (refine CallOK.io1 (g := 24) (Step.out ?_))
                  | (refine CallOK.io1 (g := 26) (Step.out ?_))
                  | (refine CallOK.of_ct (Step.out ?_))
                  | (refine Met.by (g := 9) (awake_ct) ?_; rintro q outs ⟨rfl, rfl⟩)
                  | (refine Met.by (g := 10) (few_ct _) ?_; rintro q outs ⟨rfl, rfl⟩)
                  | (refine Met.by (g := 11) (new_ct _ (by assumption)) ?_; rintro q outs ⟨d, hd, rfl, rfl⟩)
                  | (refine Met.by (g := 12) (rules_ct _) ?_; rintro q outs ⟨r, d, hr, rfl, rfl⟩)
                  | (refine Met.by (g := 14) (token_ct _) ?_; rintro q outs ⟨x, d, ⟨hx1, hx2, hx3⟩, rfl, rfl⟩)
                  | (refine Met.by (g := 19) (norm_ct _ _ (by assumption) (by first | omega | decide | (simp; done) | (simp; omega))) ?_; rintro q outs ⟨rfl, rfl⟩)
                  | (refine Met.by (g := 20) (canon_ct _ _ (by assumption)) ?_; rintro q outs ⟨rfl, rfl⟩)
                  | (refine Met.by (g := 21) (dropped_ct _ _ (by assumption)) ?_; rintro q outs ⟨rfl, rfl⟩)
                  | (refine Met.by (g := 22) (check_ct _ (by assumption)) ?_; rintro q outs ⟨rfl, rfl⟩)
                  | (refine Met.by (g := 23) (short_ct _ (by first | omega | decide | (simp; done) | (simp; omega))) ?_; rintro q outs ⟨rfl, rfl⟩)
                  | (refine Met.by (g := 24) (bent_ct _) ?_; rintro q outs ⟨r, d, hr, rfl, rfl⟩)
                  | (refine Met.by (g := 25) (rcheck_ct _ (by assumption)) ?_; rintro q outs ⟨rfl, rfl⟩)
                  | (refine Met.by (g := 26) (text_ct _) ?_; rintro q outs ⟨x, d, hx, rfl, rfl⟩)
                  | (refine Met.by (g := 27) (rnorm_ct _ _ (by assumption) (by first | omega | decide | (simp; done) | (simp; omega))) ?_; rintro q outs ⟨rfl, rfl⟩)
                  | (refine Met.by (g := 28) (normal_ct _ _ (by assumption) (by first | omega | decide | (simp; done) | (simp; omega))) ?_; rintro q outs ⟨rfl, rfl⟩)
                  | (refine Met.by (g := 29) (rnormal_ct _ _ (by assumption) (by first | omega | decide | (simp; done) | (simp; omega))) ?_; rintro q outs ⟨rfl, rfl⟩)
                  | (refine Met.by (g := 30) (rcanon_ct _ _ (by assumption)) ?_; rintro q outs ⟨rfl, rfl⟩)
                  | (refine Met.by (g := 31) (rdropped_ct _ _ (by assumption)) ?_; rintro q outs ⟨rfl, rfl⟩)
                  | (refine Vc.mk ?_ (Step.out ?_))
              · refine Again.by (d, i + 1) ⟨by dsimp only; omega, by dsimp only; omega⟩ ?_
                dsimp only
                repeat' first
                  | (refine Step.mk ?_; conv => whnf)
                  | (refine Vc.om ?_ ?_; first | omega | with_reducible rfl | with_reducible exact same_rfl | (simp only [bytes_2, bytes_3, bytes_4, bytes_5, bytes_9, bytes_12, bytes_21, bytes_22, bytes_25, bytes_27, bytes_28, bytes_29, bytes_30, bytes_38, bytes_43, bytes_44, bytes_47, bytes_50, bytes_51, bytes_52, bytes_54, bytes_55, bytes_66, bytes_68, bytes_69, bytes_70, bytes_83, bytes_84, bytes_85, bytes_86, bytes_97, bytes_103]; omega))
                  | (refine NilB.mk fun b hb => Step.out ?_)
                  | with_reducible trivial
                  | exact noSh_bool _
                  | exact noSh_lit _
                  | exact noSh_int _ _
                  | exact noSh_str _
                  | with_reducible rfl
                  | with_reducible exact same_rfl
                  | (refine Wr.i64 ?_ ?_; omega)
                  | (refine Wr.u8 ?_ ?_; omega)
                  | (refine Wr.i32 ?_ ?_; omega)
                  | (with_reducible refine Br.tt ?_)
                  | (with_reducible refine Br.ff ?_)
                  | (refine Br.dT ?_ ?_; omega)
                  | (refine Br.dF ?_ ?_; omega)
                  | (refine Br.d (fun h => ?_) (fun h => ?_))
                  | (refine Br.swap ?_)
                  | (refine Br.bnot ?_)
                  | (refine Br.mk (fun h => Step.out ?_) (fun h => Step.out ?_))
                  | (refine Two.mk (Step.out ?_) (Step.out ?_))
                  | (refine CallOK.io1 (g := 12) (Step.out ?_))
                  | (refine CallOK.io1 (g := 14) (Step.out ?_))
                  | (refine CallOK.io1 (g := 24) (Step.out ?_))
                  | (refine CallOK.io1 (g := 26) (Step.out ?_))
                  | (refine CallOK.of_ct (Step.out ?_))
                  | (refine Met.by (g := 9) (awake_ct) ?_; rintro q outs ⟨rfl, rfl⟩)
                  | (refine Met.by (g := 10) (few_ct _) ?_; rintro q outs ⟨rfl, rfl⟩)
                  | (refine Met.by (g := 11) (new_ct _ (by assumption)) ?_; rintro q outs ⟨d, hd, rfl, rfl⟩)
                  | (refine Met.by (g := 12) (rules_ct _) ?_; rintro q outs ⟨r, d, hr, rfl, rfl⟩)
                  | (refine Met.by (g := 14) (token_ct _) ?_; rintro q outs ⟨x, d, ⟨hx1, hx2, hx3⟩, rfl, rfl⟩)
                  | (refine Met.by (g := 19) (norm_ct _ _ (by assumption) (by first | omega | decide | (simp; done) | (simp; omega))) ?_; rintro q outs ⟨rfl, rfl⟩)
                  | (refine Met.by (g := 20) (canon_ct _ _ (by assumption)) ?_; rintro q outs ⟨rfl, rfl⟩)
                  | (refine Met.by (g := 21) (dropped_ct _ _ (by assumption)) ?_; rintro q outs ⟨rfl, rfl⟩)
                  | (refine Met.by (g := 22) (check_ct _ (by assumption)) ?_; rintro q outs ⟨rfl, rfl⟩)
                  | (refine Met.by (g := 23) (short_ct _ (by first | omega | decide | (simp; done) | (simp; omega))) ?_; rintro q outs ⟨rfl, rfl⟩)
                  | (refine Met.by (g := 24) (bent_ct _) ?_; rintro q outs ⟨r, d, hr, rfl, rfl⟩)
                  | (refine Met.by (g := 25) (rcheck_ct _ (by assumption)) ?_; rintro q outs ⟨rfl, rfl⟩)
                  | (refine Met.by (g := 26) (text_ct _) ?_; rintro q outs ⟨x, d, hx, rfl, rfl⟩)
                  | (refine Met.by (g := 27) (rnorm_ct _ _ (by assumption) (by first | omega | decide | (simp; done) | (simp; omega))) ?_; rintro q outs ⟨rfl, rfl⟩)
                  | (refine Met.by (g := 28) (normal_ct _ _ (by assumption) (by first | omega | decide | (simp; done) | (simp; omega))) ?_; rintro q outs ⟨rfl, rfl⟩)
                  | (refine Met.by (g := 29) (rnormal_ct _ _ (by assumption) (by first | omega | decide | (simp; done) | (simp; omega))) ?_; rintro q outs ⟨rfl, rfl⟩)
                  | (refine Met.by (g := 30) (rcanon_ct _ _ (by assumption)) ?_; rintro q outs ⟨rfl, rfl⟩)
                  | (refine Met.by (g := 31) (rdropped_ct _ _ (by assumption)) ?_; rintro q outs ⟨rfl, rfl⟩)
                  | (refine Vc.mk ?_ (Step.out ?_))
        · refine Again.by () trivial ?_
          repeat' first
            | (refine Step.mk ?_; conv => whnf)
            | (refine Vc.om ?_ ?_; first | omega | with_reducible rfl | with_reducible exact same_rfl | (simp only [bytes_2, bytes_3, bytes_4, bytes_5, bytes_9, bytes_12, bytes_21, bytes_22, bytes_25, bytes_27, bytes_28, bytes_29, bytes_30, bytes_38, bytes_43, bytes_44, bytes_47, bytes_50, bytes_51, bytes_52, bytes_54, bytes_55, bytes_66, bytes_68, bytes_69, bytes_70, bytes_83, bytes_84, bytes_85, bytes_86, bytes_97, bytes_103]; omega))
            | (refine NilB.mk fun b hb => Step.out ?_)
            | with_reducible trivial
            | exact noSh_bool _
            | exact noSh_lit _
            | exact noSh_int _ _
            | exact noSh_str _
            | with_reducible rfl
            | with_reducible exact same_rfl
            | (refine Wr.i64 ?_ ?_; omega)
            | (refine Wr.u8 ?_ ?_; omega)
            | (refine Wr.i32 ?_ ?_; omega)
            | (with_reducible refine Br.tt ?_)
            | (with_reducible refine Br.ff ?_)
            | (refine Br.dT ?_ ?_; omega)
            | (refine Br.dF ?_ ?_; omega)
            | (refine Br.d (fun h => ?_) (fun h => ?_))
            | (refine Br.swap ?_)
            | (refine Br.bnot ?_)
            | (refine Br.mk (fun h => Step.out ?_) (fun h => Step.out ?_))
            | (refine Two.mk (Step.out ?_) (Step.out ?_))
            | (refine CallOK.io1 (g := 12) (Step.out ?_))
            | (refine CallOK.io1 (g := 14) (Step.out ?_))
            | (refine CallOK.io1 (g := 24) (Step.out ?_))
            | (refine CallOK.io1 (g := 26) (Step.out ?_))
            | (refine CallOK.of_ct (Step.out ?_))
            | (refine Met.by (g := 9) (awake_ct) ?_; rintro q outs ⟨rfl, rfl⟩)
            | (refine Met.by (g := 10) (few_ct _) ?_; rintro q outs ⟨rfl, rfl⟩)
            | (refine Met.by (g := 11) (new_ct _ (by assumption)) ?_; rintro q outs ⟨d, hd, rfl, rfl⟩)
            | (refine Met.by (g := 12) (rules_ct _) ?_; rintro q outs ⟨r, d, hr, rfl, rfl⟩)
            | (refine Met.by (g := 14) (token_ct _) ?_; rintro q outs ⟨x, d, ⟨hx1, hx2, hx3⟩, rfl, rfl⟩)
            | (refine Met.by (g := 19) (norm_ct _ _ (by assumption) (by first | omega | decide | (simp; done) | (simp; omega))) ?_; rintro q outs ⟨rfl, rfl⟩)
            | (refine Met.by (g := 20) (canon_ct _ _ (by assumption)) ?_; rintro q outs ⟨rfl, rfl⟩)
            | (refine Met.by (g := 21) (dropped_ct _ _ (by assumption)) ?_; rintro q outs ⟨rfl, rfl⟩)
            | (refine Met.by (g := 22) (check_ct _ (by assumption)) ?_; rintro q outs ⟨rfl, rfl⟩)
            | (refine Met.by (g := 23) (short_ct _ (by first | omega | decide | (simp; done) | (simp; omega))) ?_; rintro q outs ⟨rfl, rfl⟩)
            | (refine Met.by (g := 24) (bent_ct _) ?_; rintro q outs ⟨r, d, hr, rfl, rfl⟩)
            | (refine Met.by (g := 25) (rcheck_ct _ (by assumption)) ?_; rintro q outs ⟨rfl, rfl⟩)
            | (refine Met.by (g := 26) (text_ct _) ?_; rintro q outs ⟨x, d, hx, rfl, rfl⟩)
            | (refine Met.by (g := 27) (rnorm_ct _ _ (by assumption) (by first | omega | decide | (simp; done) | (simp; omega))) ?_; rintro q outs ⟨rfl, rfl⟩)
            | (refine Met.by (g := 28) (normal_ct _ _ (by assumption) (by first | omega | decide | (simp; done) | (simp; omega))) ?_; rintro q outs ⟨rfl, rfl⟩)
            | (refine Met.by (g := 29) (rnormal_ct _ _ (by assumption) (by first | omega | decide | (simp; done) | (simp; omega))) ?_; rintro q outs ⟨rfl, rfl⟩)
            | (refine Met.by (g := 30) (rcanon_ct _ _ (by assumption)) ?_; rintro q outs ⟨rfl, rfl⟩)
            | (refine Met.by (g := 31) (rdropped_ct _ _ (by assumption)) ?_; rintro q outs ⟨rfl, rfl⟩)
            | (refine Vc.mk ?_ (Step.out ?_))
  · intro _ _
    repeat' first
      | (refine Step.mk ?_; conv => whnf)
      | (refine Vc.om ?_ ?_; first | omega | with_reducible rfl | with_reducible exact same_rfl | (simp only [bytes_2, bytes_3, bytes_4, bytes_5, bytes_9, bytes_12, bytes_21, bytes_22, bytes_25, bytes_27, bytes_28, bytes_29, bytes_30, bytes_38, bytes_43, bytes_44, bytes_47, bytes_50, bytes_51, bytes_52, bytes_54, bytes_55, bytes_66, bytes_68, bytes_69, bytes_70, bytes_83, bytes_84, bytes_85, bytes_86, bytes_97, bytes_103]; omega))
      | (refine NilB.mk fun b hb => Step.out ?_)
      | with_reducible trivial
      | exact noSh_bool _
      | exact noSh_lit _
      | exact noSh_int _ _
      | exact noSh_str _
      | with_reducible rfl
      | with_reducible exact same_rfl
      | (refine Wr.i64 ?_ ?_; omega)
      | (refine Wr.u8 ?_ ?_; omega)
      | (refine Wr.i32 ?_ ?_; omega)
      | (with_reducible refine Br.tt ?_)
      | (with_reducible refine Br.ff ?_)
      | (refine Br.dT ?_ ?_; omega)
      | (refine Br.dF ?_ ?_; omega)
      | (exact .inl rfl)
      | (exact .inr rfl)
      | (refine Br.d (fun h => ?_) (fun h => ?_))
      | (refine Br.swap ?_)
      | (refine Br.bnot ?_)
      | (refine Br.mk (fun h => Step.out ?_) (fun h => Step.out ?_))
      | (refine Two.mk (Step.out ?_) (Step.out ?_))
      | (refine CallOK.io1 (g := 12) (Step.out ?_))
      | (refine CallOK.io1 (g := 14) (Step.out ?_))
      | (refine CallOK.io1 (g := 24) (Step.out ?_))
      | (refine CallOK.io1 (g := 26) (Step.out ?_))
      | (refine CallOK.of_ct (Step.out ?_))
      | (refine Met.by (g := 9) (awake_ct) ?_; rintro q outs ⟨rfl, rfl⟩)
      | (refine Met.by (g := 10) (few_ct _) ?_; rintro q outs ⟨rfl, rfl⟩)
      | (refine Met.by (g := 11) (new_ct _ (by assumption)) ?_; rintro q outs ⟨d, hd, rfl, rfl⟩)
      | (refine Met.by (g := 12) (rules_ct _) ?_; rintro q outs ⟨r, d, hr, rfl, rfl⟩)
      | (refine Met.by (g := 14) (token_ct _) ?_; rintro q outs ⟨x, d, ⟨hx1, hx2, hx3⟩, rfl, rfl⟩)
      | (refine Met.by (g := 19) (norm_ct _ _ (by assumption) (by first | omega | decide | (simp; done) | (simp; omega))) ?_; rintro q outs ⟨rfl, rfl⟩)
      | (refine Met.by (g := 20) (canon_ct _ _ (by assumption)) ?_; rintro q outs ⟨rfl, rfl⟩)
      | (refine Met.by (g := 21) (dropped_ct _ _ (by assumption)) ?_; rintro q outs ⟨rfl, rfl⟩)
      | (refine Met.by (g := 22) (check_ct _ (by assumption)) ?_; rintro q outs ⟨rfl, rfl⟩)
      | (refine Met.by (g := 23) (short_ct _ (by first | omega | decide | (simp; done) | (simp; omega))) ?_; rintro q outs ⟨rfl, rfl⟩)
      | (refine Met.by (g := 24) (bent_ct _) ?_; rintro q outs ⟨r, d, hr, rfl, rfl⟩)
      | (refine Met.by (g := 25) (rcheck_ct _ (by assumption)) ?_; rintro q outs ⟨rfl, rfl⟩)
      | (refine Met.by (g := 26) (text_ct _) ?_; rintro q outs ⟨x, d, hx, rfl, rfl⟩)
      | (refine Met.by (g := 27) (rnorm_ct _ _ (by assumption) (by first | omega | decide | (simp; done) | (simp; omega))) ?_; rintro q outs ⟨rfl, rfl⟩)
      | (refine Met.by (g := 28) (normal_ct _ _ (by assumption) (by first | omega | decide | (simp; done) | (simp; omega))) ?_; rintro q outs ⟨rfl, rfl⟩)
      | (refine Met.by (g := 29) (rnormal_ct _ _ (by assumption) (by first | omega | decide | (simp; done) | (simp; omega))) ?_; rintro q outs ⟨rfl, rfl⟩)
      | (refine Met.by (g := 30) (rcanon_ct _ _ (by assumption)) ?_; rintro q outs ⟨rfl, rfl⟩)
      | (refine Met.by (g := 31) (rdropped_ct _ _ (by assumption)) ?_; rintro q outs ⟨rfl, rfl⟩)
      | (refine Vc.mk ?_ (Step.out ?_))
end Kx
