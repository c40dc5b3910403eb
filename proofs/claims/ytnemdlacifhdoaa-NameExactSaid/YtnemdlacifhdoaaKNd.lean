/-
  Names: their normal forms.
  No condition beyond those written in each theorem.
-/
import Derived.Test.YtnemdlacifhdoaaKNc
import Derived.Test.YtnemdlacifhdoaaFD
open Go Sx Go.Proofs
set_option linter.unusedSimpArgs false
set_option linter.unusedVariables false
namespace Kx
theorem lettersS_ct (s : Str) (hs : s.length ≤ 1000000000000) : Ct Try.prog 38 [.str s] fun r outs => r = .str (lettersS s) ∧ outs = [] := letters_ct s hs
theorem rlettersS_ct (s : Str) (hs : s.length ≤ 1000000000000) : Ct Try.prog 51 [.str s] fun r outs => r = .str (lettersS s) ∧ outs = [] := rletters_ct s (by omega)
theorem tok_len (s : Str) : ∀ t ∈ toks (foldO s), t.length ≤ s.length := fun t ht => by
  have h2 := join_mem_len ht
  rw [(foldO_fixed s).2] at h2
  have := foldO_le s
  omega
theorem join_bd (n : Nat) : ∀ (l : List Str), (∀ t ∈ l, t.length ≤ n) → (joinS [32] l).length ≤ (n + 1) * l.length
  | [], _ => by simp [joinS]
  | t :: l, h => by
    have ht := h t (by simp)
    have : ∀ m : List Str, (∀ t ∈ m, t.length ≤ n) → (tailS [32] m).length ≤ (n + 1) * m.length := fun m => by
      induction m with
      | nil => intro _; simp [tailS]
      | cons u m ih =>
        intro hm
        have hu := hm u (by simp)
        have hi := ih fun v hv => hm v (by simp [hv])
        have e : tailS [32] (u :: m) = 32 :: (u ++ tailS [32] m) := by simp [tailS]
        rw [e]; simp only [List.length_cons, List.length_append, Nat.mul_add, Nat.mul_one]; omega
    have h2 := this l fun v hv => h v (by simp [hv])
    unfold joinS
    simp only [List.length_cons, List.length_append, Nat.mul_add, Nat.mul_one]; omega
theorem norm_bd {r : Ru} (hr : checkE r = 0) {s : Str} (hs : s.length ≤ 10000) : (normL r s).length ≤ 10001 ∧ (joinS [32] (normL r s)).length ≤ 1000000000 := by
  have h1 := keepL_len r (toks (foldO s))
  have h2 : (toks (foldO s)).length ≤ 1 + (foldO s).length := toks_count (foldO s) []
  have h3 := foldO_le s
  have h4 := join_bd (64 + s.length) (normL r s) (keep_len hr s)
  have h5 : (normL r s).length ≤ 10001 := by unfold normL; omega
  refine ⟨h5, Nat.le_trans h4 ?_⟩
  calc (64 + s.length + 1) * (normL r s).length ≤ 10065 * 10001 := Nat.mul_le_mul (by omega) h5
    _ ≤ 1000000000 := by decide
theorem normE_c {r : Ru} {s : Str} (h : ¬checkE r = 0) : checkE r = normE r s ∧ [] = normO r s := by
  have e : normE r s = checkE r := by rw [normE, if_neg h]
  exact ⟨e.symm, by rw [normO, e, if_neg h]⟩
theorem normE_f {r : Ru} {s : Str} (h1 : checkE r = 0) (h : ¬foldE s = 0) : foldE s = normE r s ∧ [] = normO r s := by
  have e : normE r s = foldE s := by rw [normE, if_pos h1, if_neg h]
  exact ⟨e.symm, by rw [normO, e, if_neg h]⟩
theorem normE_big {r : Ru} {s : Str} (h1 : checkE r = 0) (h2 : foldE s = 0) (h : (6 : Int) < (normL r s).length ∨ (64 : Int) < (joinS [32] (normL r s)).length) : 1 = normE r s ∧ [] = normO r s := by
  have e : normE r s = 1 := by
    have : normOK r s = false := by
      unfold normOK
      rcases h with h | h
      · rw [decide_eq_false (by omega), Bool.false_and]
      · rw [decide_eq_false (show ¬(joinS [32] (normL r s)).length ≤ 64 by omega), Bool.and_false]
    rw [normE, if_pos h1, if_pos h2, this]; rfl
  exact ⟨e.symm, by rw [normO, e]; rfl⟩
theorem normE_ok {r : Ru} {s : Str} (h1 : checkE r = 0) (h2 : foldE s = 0) (h3 : ¬(6 : Int) < (normL r s).length) (h4 : ¬(64 : Int) < (joinS [32] (normL r s)).length) : 0 = normE r s ∧ joinS [32] (normL r s) = normO r s := by
  have e : normE r s = 0 := by
    have : normOK r s = true := by
      unfold normOK
      rw [decide_eq_true (by omega), decide_eq_true (show (joinS [32] (normL r s)).length ≤ 64 by omega)]; rfl
    rw [normE, if_pos h1, if_pos h2, this]; rfl
  exact ⟨e.symm, by rw [normO, e]; rfl⟩
theorem norm_ct (r : Ru) (s : Str) (hr : Ru.ok r) (hs : s.length ≤ 10000) : Ct Try.prog 19 [ruD r, .str s] fun q outs => q = .tup [.str (normO r s), i64 (normE r s)] ∧ outs = [] := by
  have hfo := foldO_le s
  have htc : (toks (foldO s)).length ≤ 1 + (foldO s).length := toks_count (foldO s) []
  have htl := tok_len s
  refine .det (.of_W (fn := Try.f19) hΓ hm (by rfl) [] [] (by kernel_rfl) (Step.out ?_))
  repeat' first
    | (refine Step.mk ?_; conv => whnf)
    | (refine Vc.om ?_ ?_; first | omega | with_reducible rfl | with_reducible exact same_rfl | (simp only [bytes_2, bytes_3, bytes_4, bytes_5, bytes_9, bytes_12, bytes_21, bytes_22, bytes_25, bytes_27, bytes_28, bytes_29, bytes_30, bytes_38, bytes_43, bytes_44, bytes_47, bytes_50, bytes_51, bytes_52, bytes_54, bytes_55, bytes_66, bytes_68, bytes_69, bytes_70, bytes_83, bytes_84, bytes_85, bytes_86, bytes_97, bytes_103]; omega))
    | (refine NilB.mk fun b hb => Step.out ?_)
    | with_reducible trivial
    | exact noSh_bool _
    | exact noSh_lit _
    | exact noSh_int _ _
    | exact noSh_str _
    | with_reducible rfl
    | with_reducible exact same_rfl
    | (refine Wr.i64 ?_ ?_; omega)
    | (refine Wr.u8 ?_ ?_; omega)
    | (refine Wr.i32 ?_ ?_; omega)
    | (with_reducible refine Br.tt ?_)
    | (with_reducible refine Br.ff ?_)
    | (refine Br.dT ?_ ?_; omega)
    | (refine Br.dF ?_ ?_; omega)
    | (refine Met.by (check_ct r hr) ?_; rintro q outs ⟨rfl, rfl⟩)
    | (refine Br.d (fun h => ?_) (fun h => ?_))
    | (refine Br.swap ?_)
    | (refine Br.bnot ?_)
    | (refine Br.mk (fun h => Step.out ?_) (fun h => Step.out ?_))
    | (refine Two.mk (Step.out ?_) (Step.out ?_))
    | (refine CallOK.of_ct (Step.out ?_))
    | (refine Met.by (g := 20) (canon_ct _ _ (by assumption)) ?_; rintro q outs ⟨rfl, rfl⟩)
    | (refine Met.by (g := 21) (dropped_ct _ _ (by assumption)) ?_; rintro q outs ⟨rfl, rfl⟩)
    | (refine Met.by (g := 22) (check_ct _ (by assumption)) ?_; rintro q outs ⟨rfl, rfl⟩)
    | (refine Met.by (g := 36) (fold_ct _ (by first | omega | decide | (simp; done) | (simp; omega))) ?_; rintro q outs ⟨rfl, rfl⟩)
    | (refine Met.by (g := 37) (tokens_ct _ (by first | omega | decide | (simp; done) | (simp; omega))) ?_; rintro q outs ⟨rfl, rfl⟩)
    | (refine Met.by (g := 38) (lettersS_ct _ (by first | omega | decide | (simp; done) | (simp; omega))) ?_; rintro q outs ⟨rfl, rfl⟩)
    | (refine Vc.mk ?_ (Step.out ?_))
  · obtain ⟨hb1, hb2⟩ := norm_bd ‹checkE r = 0› hs
    have hL : normL r s = keepL r (toks (foldO s)) := rfl
    generalize hT : toks (foldO s) = T at *
    refine CodeOK.loopW hΓ hm [] [] (by kernel_rfl) (α := Nat) (fun i => [(2, .loc 0 0), (9, .own 2), (27, .own 1), (28, i64 T.length), (29, i64 i)]) (fun i => [(0, .var [strs r.t, prs r.n, prs r.s]), (1, .arr 9 1 T.length fun i => [.str (T.getD i [])]), (2, .arr 9 1 (keepL r (T.take i)).length fun j => [.str ((keepL r (T.take i)).getD j [])])]) 3 (fun i => i ≤ T.length) (fun i => T.length - i) ?_ ?_
    · refine Again.by 0 (Nat.zero_le _) ?_
      repeat' first
        | (refine Step.mk ?_; conv => whnf)
        | (refine Vc.om ?_ ?_; first | omega | with_reducible rfl | with_reducible exact same_rfl | (simp only [bytes_2, bytes_3, bytes_4, bytes_5, bytes_9, bytes_12, bytes_21, bytes_22, bytes_25, bytes_27, bytes_28, bytes_29, bytes_30, bytes_38, bytes_43, bytes_44, bytes_47, bytes_50, bytes_51, bytes_52, bytes_54, bytes_55, bytes_66, bytes_68, bytes_69, bytes_70, bytes_83, bytes_84, bytes_85, bytes_86, bytes_97, bytes_103]; omega))
        | (refine NilB.mk fun b hb => Step.out ?_)
        | with_reducible trivial
        | exact noSh_bool _
        | exact noSh_lit _
        | exact noSh_int _ _
        | exact noSh_str _
        | with_reducible rfl
        | with_reducible exact same_rfl
        | (refine Wr.i64 ?_ ?_; omega)
        | (refine Wr.u8 ?_ ?_; omega)
        | (refine Wr.i32 ?_ ?_; omega)
        | (with_reducible refine Br.tt ?_)
        | (with_reducible refine Br.ff ?_)
        | (refine Br.dT ?_ ?_; omega)
        | (refine Br.dF ?_ ?_; omega)
        | (rfl)
        | (refine Br.d (fun h => ?_) (fun h => ?_))
        | (refine Br.swap ?_)
        | (refine Br.bnot ?_)
        | (refine Br.mk (fun h => Step.out ?_) (fun h => Step.out ?_))
        | (refine Two.mk (Step.out ?_) (Step.out ?_))
        | (refine CallOK.of_ct (Step.out ?_))
        | (refine Met.by (g := 20) (canon_ct _ _ (by assumption)) ?_; rintro q outs ⟨rfl, rfl⟩)
        | (refine Met.by (g := 21) (dropped_ct _ _ (by assumption)) ?_; rintro q outs ⟨rfl, rfl⟩)
        | (refine Met.by (g := 22) (check_ct _ (by assumption)) ?_; rintro q outs ⟨rfl, rfl⟩)
        | (refine Met.by (g := 36) (fold_ct _ (by first | omega | decide | (simp; done) | (simp; omega))) ?_; rintro q outs ⟨rfl, rfl⟩)
        | (refine Met.by (g := 37) (tokens_ct _ (by first | omega | decide | (simp; done) | (simp; omega))) ?_; rintro q outs ⟨rfl, rfl⟩)
        | (refine Met.by (g := 38) (lettersS_ct _ (by first | omega | decide | (simp; done) | (simp; omega))) ?_; rintro q outs ⟨rfl, rfl⟩)
        | (refine Vc.mk ?_ (Step.out ?_))
    · intro i hi
      have hx := fun h : (i : Int) < T.length => htl (T.getD (i : Int).toNat []) (getD_in (by omega))
      have hkl := keepL_len r (T.take i)
      rw [List.length_take] at hkl
      have hst := fun h : (i : Int) < T.length => keepL_step r T i (by omega)
      have hend : ¬(i : Int) < T.length → keepL r (T.take i) = normL r s := fun h => by rw [hL, List.take_of_length_le (by omega)]
      repeat' first
        | (refine Step.mk ?_; conv => whnf)
        | (refine Vc.om ?_ ?_; first | omega | with_reducible rfl | with_reducible exact same_rfl | (simp only [bytes_2, bytes_3, bytes_4, bytes_5, bytes_9, bytes_12, bytes_21, bytes_22, bytes_25, bytes_27, bytes_28, bytes_29, bytes_30, bytes_38, bytes_43, bytes_44, bytes_47, bytes_50, bytes_51, bytes_52, bytes_54, bytes_55, bytes_66, bytes_68, bytes_69, bytes_70, bytes_83, bytes_84, bytes_85, bytes_86, bytes_97, bytes_103]; omega))
        | (refine NilB.mk fun b hb => Step.out ?_)
        | with_reducible trivial
        | exact noSh_bool _
        | exact noSh_lit _
        | exact noSh_int _ _
        | exact noSh_str _
        | with_reducible rfl
        | with_reducible exact same_rfl
        | (refine Wr.i64 ?_ ?_; omega)
        | (refine Wr.u8 ?_ ?_; omega)
        | (refine Wr.i32 ?_ ?_; omega)
        | (with_reducible refine Br.tt ?_)
        | (with_reducible refine Br.ff ?_)
        | (refine Br.dT ?_ ?_; omega)
        | (refine Br.dF ?_ ?_; omega)
        | (refine Met.by (lettersS_ct _ (by have := hx ‹_›; omega)) ?_; rintro q outs ⟨rfl, rfl⟩)
        | (refine Met.by (dropped_ct r _ hr) ?_; rintro q outs ⟨rfl, rfl⟩)
        | (refine Met.by (canon_ct r _ hr) ?_; rintro q outs ⟨rfl, rfl⟩)
        | (refine Br.d (fun h => ?_) (fun h => ?_))
        | (refine Br.swap ?_)
        | (refine Br.bnot ?_)
        | (refine Br.mk (fun h => Step.out ?_) (fun h => Step.out ?_))
        | (refine Two.mk (Step.out ?_) (Step.out ?_))
        | (refine CallOK.of_ct (Step.out ?_))
        | (refine Met.by (g := 20) (canon_ct _ _ (by assumption)) ?_; rintro q outs ⟨rfl, rfl⟩)
        | (refine Met.by (g := 21) (dropped_ct _ _ (by assumption)) ?_; rintro q outs ⟨rfl, rfl⟩)
        | (refine Met.by (g := 22) (check_ct _ (by assumption)) ?_; rintro q outs ⟨rfl, rfl⟩)
        | (refine Met.by (g := 36) (fold_ct _ (by first | omega | decide | (simp; done) | (simp; omega))) ?_; rintro q outs ⟨rfl, rfl⟩)
        | (refine Met.by (g := 37) (tokens_ct _ (by first | omega | decide | (simp; done) | (simp; omega))) ?_; rintro q outs ⟨rfl, rfl⟩)
        | (refine Met.by (g := 38) (lettersS_ct _ (by first | omega | decide | (simp; done) | (simp; omega))) ?_; rintro q outs ⟨rfl, rfl⟩)
        | (refine Vc.mk ?_ (Step.out ?_))
      all_goals try simp only [Int.toNat_natCast] at *
      · refine Again.by (i + 1) ⟨by omega, by omega⟩ ?_
        rw [hst ‹_›, keepL_one, if_pos ‹_›, List.append_nil]
        repeat' first
          | (refine Step.mk ?_; conv => whnf)
          | (refine Vc.om ?_ ?_; first | omega | with_reducible rfl | with_reducible exact same_rfl | (simp only [bytes_2, bytes_3, bytes_4, bytes_5, bytes_9, bytes_12, bytes_21, bytes_22, bytes_25, bytes_27, bytes_28, bytes_29, bytes_30, bytes_38, bytes_43, bytes_44, bytes_47, bytes_50, bytes_51, bytes_52, bytes_54, bytes_55, bytes_66, bytes_68, bytes_69, bytes_70, bytes_83, bytes_84, bytes_85, bytes_86, bytes_97, bytes_103]; omega))
          | (refine NilB.mk fun b hb => Step.out ?_)
          | with_reducible trivial
          | exact noSh_bool _
          | exact noSh_lit _
          | exact noSh_int _ _
          | exact noSh_str _
          | with_reducible rfl
          | with_reducible exact same_rfl
          | (refine Wr.i64 ?_ ?_; omega)
          | (refine Wr.u8 ?_ ?_; omega)
          | (refine Wr.i32 ?_ ?_; omega)
          | (with_reducible refine Br.tt ?_)
          | (with_reducible refine Br.ff ?_)
          | (refine Br.dT ?_ ?_; omega)
          | (refine Br.dF ?_ ?_; omega)
          | (refine Br.d (fun h => ?_) (fun h => ?_))
          | (refine Br.swap ?_)
          | (refine Br.bnot ?_)
          | (refine Br.mk (fun h => Step.out ?_) (fun h => Step.out ?_))
          | (refine Two.mk (Step.out ?_) (Step.out ?_))
          | (refine CallOK.of_ct (Step.out ?_))
          | (refine Met.by (g := 20) (canon_ct _ _ (by assumption)) ?_; rintro q outs ⟨rfl, rfl⟩)
          | (refine Met.by (g := 21) (dropped_ct _ _ (by assumption)) ?_; rintro q outs ⟨rfl, rfl⟩)
          | (refine Met.by (g := 22) (check_ct _ (by assumption)) ?_; rintro q outs ⟨rfl, rfl⟩)
          | (refine Met.by (g := 36) (fold_ct _ (by first | omega | decide | (simp; done) | (simp; omega))) ?_; rintro q outs ⟨rfl, rfl⟩)
          | (refine Met.by (g := 37) (tokens_ct _ (by first | omega | decide | (simp; done) | (simp; omega))) ?_; rintro q outs ⟨rfl, rfl⟩)
          | (refine Met.by (g := 38) (lettersS_ct _ (by first | omega | decide | (simp; done) | (simp; omega))) ?_; rintro q outs ⟨rfl, rfl⟩)
          | (refine Vc.mk ?_ (Step.out ?_))
      · refine Again.by (i + 1) ⟨by omega, by omega⟩ ?_
        rw [hst ‹_›, keepL_one, if_neg ‹_›, if_pos ‹_›, List.append_nil]
        repeat' first
          | (refine Step.mk ?_; conv => whnf)
          | (refine Vc.om ?_ ?_; first | omega | with_reducible rfl | with_reducible exact same_rfl | (simp only [bytes_2, bytes_3, bytes_4, bytes_5, bytes_9, bytes_12, bytes_21, bytes_22, bytes_25, bytes_27, bytes_28, bytes_29, bytes_30, bytes_38, bytes_43, bytes_44, bytes_47, bytes_50, bytes_51, bytes_52, bytes_54, bytes_55, bytes_66, bytes_68, bytes_69, bytes_70, bytes_83, bytes_84, bytes_85, bytes_86, bytes_97, bytes_103]; omega))
          | (refine NilB.mk fun b hb => Step.out ?_)
          | with_reducible trivial
          | exact noSh_bool _
          | exact noSh_lit _
          | exact noSh_int _ _
          | exact noSh_str _
          | with_reducible rfl
          | with_reducible exact same_rfl
          | (refine Wr.i64 ?_ ?_; omega)
          | (refine Wr.u8 ?_ ?_; omega)
          | (refine Wr.i32 ?_ ?_; omega)
          | (with_reducible refine Br.tt ?_)
          | (with_reducible refine Br.ff ?_)
          | (refine Br.dT ?_ ?_; omega)
          | (refine Br.dF ?_ ?_; omega)
          | (refine Br.d (fun h => ?_) (fun h => ?_))
          | (refine Br.swap ?_)
          | (refine Br.bnot ?_)
          | (refine Br.mk (fun h => Step.out ?_) (fun h => Step.out ?_))
          | (refine Two.mk (Step.out ?_) (Step.out ?_))
          | (refine CallOK.of_ct (Step.out ?_))
          | (refine Met.by (g := 20) (canon_ct _ _ (by assumption)) ?_; rintro q outs ⟨rfl, rfl⟩)
          | (refine Met.by (g := 21) (dropped_ct _ _ (by assumption)) ?_; rintro q outs ⟨rfl, rfl⟩)
          | (refine Met.by (g := 22) (check_ct _ (by assumption)) ?_; rintro q outs ⟨rfl, rfl⟩)
          | (refine Met.by (g := 36) (fold_ct _ (by first | omega | decide | (simp; done) | (simp; omega))) ?_; rintro q outs ⟨rfl, rfl⟩)
          | (refine Met.by (g := 37) (tokens_ct _ (by first | omega | decide | (simp; done) | (simp; omega))) ?_; rintro q outs ⟨rfl, rfl⟩)
          | (refine Met.by (g := 38) (lettersS_ct _ (by first | omega | decide | (simp; done) | (simp; omega))) ?_; rintro q outs ⟨rfl, rfl⟩)
          | (refine Vc.mk ?_ (Step.out ?_))
      · refine Again.by (i + 1) ⟨by omega, by omega⟩ ?_
        rw [hst ‹_›, keepL_one, if_neg ‹_›, if_neg (by rw [‹hasS _ _ = false›]; simp)]
        repeat' first
          | (refine Step.mk ?_; conv => whnf)
          | (refine Vc.om ?_ ?_; first | omega | with_reducible rfl | with_reducible exact same_rfl | (simp only [bytes_2, bytes_3, bytes_4, bytes_5, bytes_9, bytes_12, bytes_21, bytes_22, bytes_25, bytes_27, bytes_28, bytes_29, bytes_30, bytes_38, bytes_43, bytes_44, bytes_47, bytes_50, bytes_51, bytes_52, bytes_54, bytes_55, bytes_66, bytes_68, bytes_69, bytes_70, bytes_83, bytes_84, bytes_85, bytes_86, bytes_97, bytes_103]; omega))
          | (refine NilB.mk fun b hb => Step.out ?_)
          | with_reducible trivial
          | exact noSh_bool _
          | exact noSh_lit _
          | exact noSh_int _ _
          | exact noSh_str _
          | with_reducible rfl
          | with_reducible exact same_rfl
          | (refine Wr.i64 ?_ ?_; omega)
          | (refine Wr.u8 ?_ ?_; omega)
          | (refine Wr.i32 ?_ ?_; omega)
          | (with_reducible refine Br.tt ?_)
          | (with_reducible refine Br.ff ?_)
          | (refine Br.dT ?_ ?_; omega)
          | (refine Br.dF ?_ ?_; omega)
          | (exact str_app _ _ rfl)
          | (refine Br.d (fun h => ?_) (fun h => ?_))
          | (refine Br.swap ?_)
          | (refine Br.bnot ?_)
          | (refine Br.mk (fun h => Step.out ?_) (fun h => Step.out ?_))
          | (refine Two.mk (Step.out ?_) (Step.out ?_))
          | (refine CallOK.of_ct (Step.out ?_))
          | (refine Met.by (g := 20) (canon_ct _ _ (by assumption)) ?_; rintro q outs ⟨rfl, rfl⟩)
          | (refine Met.by (g := 21) (dropped_ct _ _ (by assumption)) ?_; rintro q outs ⟨rfl, rfl⟩)
          | (refine Met.by (g := 22) (check_ct _ (by assumption)) ?_; rintro q outs ⟨rfl, rfl⟩)
          | (refine Met.by (g := 36) (fold_ct _ (by first | omega | decide | (simp; done) | (simp; omega))) ?_; rintro q outs ⟨rfl, rfl⟩)
          | (refine Met.by (g := 37) (tokens_ct _ (by first | omega | decide | (simp; done) | (simp; omega))) ?_; rintro q outs ⟨rfl, rfl⟩)
          | (refine Met.by (g := 38) (lettersS_ct _ (by first | omega | decide | (simp; done) | (simp; omega))) ?_; rintro q outs ⟨rfl, rfl⟩)
          | (refine Vc.mk ?_ (Step.out ?_))
      · rw [hend ‹_›]
        repeat' first
          | (refine Step.mk ?_; conv => whnf)
          | (refine Vc.om ?_ ?_; first | omega | with_reducible rfl | with_reducible exact same_rfl | (simp only [bytes_2, bytes_3, bytes_4, bytes_5, bytes_9, bytes_12, bytes_21, bytes_22, bytes_25, bytes_27, bytes_28, bytes_29, bytes_30, bytes_38, bytes_43, bytes_44, bytes_47, bytes_50, bytes_51, bytes_52, bytes_54, bytes_55, bytes_66, bytes_68, bytes_69, bytes_70, bytes_83, bytes_84, bytes_85, bytes_86, bytes_97, bytes_103]; omega))
          | (refine NilB.mk fun b hb => Step.out ?_)
          | with_reducible trivial
          | exact noSh_bool _
          | exact noSh_lit _
          | exact noSh_int _ _
          | exact noSh_str _
          | with_reducible rfl
          | with_reducible exact same_rfl
          | (refine Wr.i64 ?_ ?_; omega)
          | (refine Wr.u8 ?_ ?_; omega)
          | (refine Wr.i32 ?_ ?_; omega)
          | (with_reducible refine Br.tt ?_)
          | (with_reducible refine Br.ff ?_)
          | (refine Br.dT ?_ ?_; omega)
          | (refine Br.dF ?_ ?_; omega)
          | (refine Met.by (join1_ct (normL r s) (by omega) (by omega)) ?_; rintro q outs ⟨rfl, rfl⟩)
          | (refine Br.d (fun h => ?_) (fun h => ?_))
          | (refine Br.swap ?_)
          | (refine Br.bnot ?_)
          | (refine Br.mk (fun h => Step.out ?_) (fun h => Step.out ?_))
          | (refine Two.mk (Step.out ?_) (Step.out ?_))
          | (refine CallOK.of_ct (Step.out ?_))
          | (refine Met.by (g := 20) (canon_ct _ _ (by assumption)) ?_; rintro q outs ⟨rfl, rfl⟩)
          | (refine Met.by (g := 21) (dropped_ct _ _ (by assumption)) ?_; rintro q outs ⟨rfl, rfl⟩)
          | (refine Met.by (g := 22) (check_ct _ (by assumption)) ?_; rintro q outs ⟨rfl, rfl⟩)
          | (refine Met.by (g := 36) (fold_ct _ (by first | omega | decide | (simp; done) | (simp; omega))) ?_; rintro q outs ⟨rfl, rfl⟩)
          | (refine Met.by (g := 37) (tokens_ct _ (by first | omega | decide | (simp; done) | (simp; omega))) ?_; rintro q outs ⟨rfl, rfl⟩)
          | (refine Met.by (g := 38) (lettersS_ct _ (by first | omega | decide | (simp; done) | (simp; omega))) ?_; rintro q outs ⟨rfl, rfl⟩)
          | (refine Vc.mk ?_ (Step.out ?_))
        all_goals first
          | exact (normE_big ‹checkE r = 0› ‹foldE s = 0› (by omega)).1
          | exact (normE_big ‹checkE r = 0› ‹foldE s = 0› (by omega)).2
          | exact (normE_ok ‹checkE r = 0› ‹foldE s = 0› (by omega) (by omega)).1
          | exact (normE_ok ‹checkE r = 0› ‹foldE s = 0› (by omega) (by omega)).2
  all_goals first
    | exact (normE_c ‹¬checkE r = 0›).1
    | exact (normE_c ‹¬checkE r = 0›).2
    | exact (normE_f ‹checkE r = 0› ‹¬foldE s = 0›).1
    | exact (normE_f ‹checkE r = 0› ‹¬foldE s = 0›).2
theorem rnorm_ct (r : Ru) (s : Str) (hr : Ru.ok r) (hs : s.length ≤ 10000) : Ct Try.prog 27 [ruD r, .str s] fun q outs => q = .tup [.str (normO r s), i64 (normE r s)] ∧ outs = [] := by
  have hfo := foldO_le s
  have htc : (toks (foldO s)).length ≤ 1 + (foldO s).length := toks_count (foldO s) []
  have htl := tok_len s
  refine .det (.of_W (fn := Try.f27) hΓ hm (by rfl) [] [] (by kernel_rfl) (Step.out ?_))
  repeat' first
    | (refine Step.mk ?_; conv => whnf)
    | (refine Vc.om ?_ ?_; first | omega | with_reducible rfl | with_reducible exact same_rfl | (simp only [bytes_2, bytes_3, bytes_4, bytes_5, bytes_9, bytes_12, bytes_21, bytes_22, bytes_25, bytes_27, bytes_28, bytes_29, bytes_30, bytes_38, bytes_43, bytes_44, bytes_47, bytes_50, bytes_51, bytes_52, bytes_54, bytes_55, bytes_66, bytes_68, bytes_69, bytes_70, bytes_83, bytes_84, bytes_85, bytes_86, bytes_97, bytes_103]; omega))
    | (refine NilB.mk fun b hb => Step.out ?_)
    | with_reducible trivial
    | exact noSh_bool _
    | exact noSh_lit _
    | exact noSh_int _ _
    | exact noSh_str _
    | with_reducible rfl
    | with_reducible exact same_rfl
    | (refine Wr.i64 ?_ ?_; omega)
    | (refine Wr.u8 ?_ ?_; omega)
    | (refine Wr.i32 ?_ ?_; omega)
    | (with_reducible refine Br.tt ?_)
    | (with_reducible refine Br.ff ?_)
    | (refine Br.dT ?_ ?_; omega)
    | (refine Br.dF ?_ ?_; omega)
    | (refine Met.by (rcheck_ct r hr) ?_; rintro q outs ⟨rfl, rfl⟩)
    | (refine Br.d (fun h => ?_) (fun h => ?_))
    | (refine Br.swap ?_)
    | (refine Br.bnot ?_)
    | (refine Br.mk (fun h => Step.out ?_) (fun h => Step.out ?_))
    | (refine Two.mk (Step.out ?_) (Step.out ?_))
    | (refine CallOK.of_ct (Step.out ?_))
    | (refine Met.by (g := 15) (rjoin_ct _ (by first | omega | decide | (simp; done) | (simp; omega)) (by first | omega | decide | (simp; done) | (simp; omega))) ?_; rintro q outs ⟨rfl, rfl⟩)
    | (refine Met.by (g := 25) (rcheck_ct _ (by assumption)) ?_; rintro q outs ⟨rfl, rfl⟩)
    | (refine Met.by (g := 30) (rcanon_ct _ _ (by assumption)) ?_; rintro q outs ⟨rfl, rfl⟩)
    | (refine Met.by (g := 31) (rdropped_ct _ _ (by assumption)) ?_; rintro q outs ⟨rfl, rfl⟩)
    | (refine Met.by (g := 32) (rtokens_ct _ (by first | omega | decide | (simp; done) | (simp; omega))) ?_; rintro q outs ⟨rfl, rfl⟩)
    | (refine Met.by (g := 50) (rfold_ct _ (by first | omega | decide | (simp; done) | (simp; omega))) ?_; rintro q outs ⟨rfl, rfl⟩)
    | (refine Met.by (g := 51) (rlettersS_ct _ (by first | omega | decide | (simp; done) | (simp; omega))) ?_; rintro q outs ⟨rfl, rfl⟩)
    | (refine Vc.mk ?_ (Step.out ?_))
  · obtain ⟨hb1, hb2⟩ := norm_bd ‹checkE r = 0› hs
    have hL : normL r s = keepL r (toks (foldO s)) := rfl
    generalize hT : toks (foldO s) = T at *
    refine CodeOK.loopW hΓ hm [] [] (by kernel_rfl) (α := Nat) (fun i => [(2, .loc 0 0), (9, .own 1), (10, .own 2), (11, i64 i)]) (fun i => [(0, .var [strs r.t, prs r.n, prs r.s]), (1, .arr 9 1 T.length fun i => [.str (T.getD i [])]), (2, .arr 9 1 (keepL r (T.take i)).length fun j => [.str ((keepL r (T.take i)).getD j [])])]) 3 (fun i => i ≤ T.length) (fun i => T.length - i) ?_ ?_
    · refine Again.by 0 (Nat.zero_le _) ?_
      repeat' first
        | (refine Step.mk ?_; conv => whnf)
        | (refine Vc.om ?_ ?_; first | omega | with_reducible rfl | with_reducible exact same_rfl | (simp only [bytes_2, bytes_3, bytes_4, bytes_5, bytes_9, bytes_12, bytes_21, bytes_22, bytes_25, bytes_27, bytes_28, bytes_29, bytes_30, bytes_38, bytes_43, bytes_44, bytes_47, bytes_50, bytes_51, bytes_52, bytes_54, bytes_55, bytes_66, bytes_68, bytes_69, bytes_70, bytes_83, bytes_84, bytes_85, bytes_86, bytes_97, bytes_103]; omega))
        | (refine NilB.mk fun b hb => Step.out ?_)
        | with_reducible trivial
        | exact noSh_bool _
        | exact noSh_lit _
        | exact noSh_int _ _
        | exact noSh_str _
        | with_reducible rfl
        | with_reducible exact same_rfl
        | (refine Wr.i64 ?_ ?_; omega)
        | (refine Wr.u8 ?_ ?_; omega)
        | (refine Wr.i32 ?_ ?_; omega)
        | (with_reducible refine Br.tt ?_)
        | (with_reducible refine Br.ff ?_)
        | (refine Br.dT ?_ ?_; omega)
        | (refine Br.dF ?_ ?_; omega)
        | (rfl)
        | (refine Br.d (fun h => ?_) (fun h => ?_))
        | (refine Br.swap ?_)
        | (refine Br.bnot ?_)
        | (refine Br.mk (fun h => Step.out ?_) (fun h => Step.out ?_))
        | (refine Two.mk (Step.out ?_) (Step.out ?_))
        | (refine CallOK.of_ct (Step.out ?_))
        | (refine Met.by (g := 15) (rjoin_ct _ (by first | omega | decide | (simp; done) | (simp; omega)) (by first | omega | decide | (simp; done) | (simp; omega))) ?_; rintro q outs ⟨rfl, rfl⟩)
        | (refine Met.by (g := 25) (rcheck_ct _ (by assumption)) ?_; rintro q outs ⟨rfl, rfl⟩)
        | (refine Met.by (g := 30) (rcanon_ct _ _ (by assumption)) ?_; rintro q outs ⟨rfl, rfl⟩)
        | (refine Met.by (g := 31) (rdropped_ct _ _ (by assumption)) ?_; rintro q outs ⟨rfl, rfl⟩)
        | (refine Met.by (g := 32) (rtokens_ct _ (by first | omega | decide | (simp; done) | (simp; omega))) ?_; rintro q outs ⟨rfl, rfl⟩)
        | (refine Met.by (g := 50) (rfold_ct _ (by first | omega | decide | (simp; done) | (simp; omega))) ?_; rintro q outs ⟨rfl, rfl⟩)
        | (refine Met.by (g := 51) (rlettersS_ct _ (by first | omega | decide | (simp; done) | (simp; omega))) ?_; rintro q outs ⟨rfl, rfl⟩)
        | (refine Vc.mk ?_ (Step.out ?_))
    · intro i hi
      have hx := fun h : (i : Int) < T.length => htl (T.getD (i : Int).toNat []) (getD_in (by omega))
      have hkl := keepL_len r (T.take i)
      rw [List.length_take] at hkl
      have hst := fun h : (i : Int) < T.length => keepL_step r T i (by omega)
      have hend : ¬(i : Int) < T.length → keepL r (T.take i) = normL r s := fun h => by rw [hL, List.take_of_length_le (by omega)]
      repeat' first
        | (refine Step.mk ?_; conv => whnf)
        | (refine Vc.om ?_ ?_; first | omega | with_reducible rfl | with_reducible exact same_rfl | (simp only [bytes_2, bytes_3, bytes_4, bytes_5, bytes_9, bytes_12, bytes_21, bytes_22, bytes_25, bytes_27, bytes_28, bytes_29, bytes_30, bytes_38, bytes_43, bytes_44, bytes_47, bytes_50, bytes_51, bytes_52, bytes_54, bytes_55, bytes_66, bytes_68, bytes_69, bytes_70, bytes_83, bytes_84, bytes_85, bytes_86, bytes_97, bytes_103]; omega))
        | (refine NilB.mk fun b hb => Step.out ?_)
        | with_reducible trivial
        | exact noSh_bool _
        | exact noSh_lit _
        | exact noSh_int _ _
        | exact noSh_str _
        | with_reducible rfl
        | with_reducible exact same_rfl
        | (refine Wr.i64 ?_ ?_; omega)
        | (refine Wr.u8 ?_ ?_; omega)
        | (refine Wr.i32 ?_ ?_; omega)
        | (with_reducible refine Br.tt ?_)
        | (with_reducible refine Br.ff ?_)
        | (refine Br.dT ?_ ?_; omega)
        | (refine Br.dF ?_ ?_; omega)
        | (refine Met.by (rlettersS_ct _ (by have := hx ‹_›; omega)) ?_; rintro q outs ⟨rfl, rfl⟩)
        | (refine Met.by (rdropped_ct r _ hr) ?_; rintro q outs ⟨rfl, rfl⟩)
        | (refine Met.by (rcanon_ct r _ hr) ?_; rintro q outs ⟨rfl, rfl⟩)
        | (refine Br.d (fun h => ?_) (fun h => ?_))
        | (refine Br.swap ?_)
        | (refine Br.bnot ?_)
        | (refine Br.mk (fun h => Step.out ?_) (fun h => Step.out ?_))
        | (refine Two.mk (Step.out ?_) (Step.out ?_))
        | (refine CallOK.of_ct (Step.out ?_))
        | (refine Met.by (g := 15) (rjoin_ct _ (by first | omega | decide | (simp; done) | (simp; omega)) (by first | omega | decide | (simp; done) | (simp; omega))) ?_; rintro q outs ⟨rfl, rfl⟩)
        | (refine Met.by (g := 25) (rcheck_ct _ (by assumption)) ?_; rintro q outs ⟨rfl, rfl⟩)
        | (refine Met.by (g := 30) (rcanon_ct _ _ (by assumption)) ?_; rintro q outs ⟨rfl, rfl⟩)
        | (refine Met.by (g := 31) (rdropped_ct _ _ (by assumption)) ?_; rintro q outs ⟨rfl, rfl⟩)
        | (refine Met.by (g := 32) (rtokens_ct _ (by first | omega | decide | (simp; done) | (simp; omega))) ?_; rintro q outs ⟨rfl, rfl⟩)
        | (refine Met.by (g := 50) (rfold_ct _ (by first | omega | decide | (simp; done) | (simp; omega))) ?_; rintro q outs ⟨rfl, rfl⟩)
        | (refine Met.by (g := 51) (rlettersS_ct _ (by first | omega | decide | (simp; done) | (simp; omega))) ?_; rintro q outs ⟨rfl, rfl⟩)
        | (refine Vc.mk ?_ (Step.out ?_))
      all_goals try simp only [Int.toNat_natCast] at *
      · refine Again.by (i + 1) ⟨by omega, by omega⟩ ?_
        rw [hst ‹_›, keepL_one, if_pos ‹_›, List.append_nil]
        repeat' first
          | (refine Step.mk ?_; conv => whnf)
          | (refine Vc.om ?_ ?_; first | omega | with_reducible rfl | with_reducible exact same_rfl | (simp only [bytes_2, bytes_3, bytes_4, bytes_5, bytes_9, bytes_12, bytes_21, bytes_22, bytes_25, bytes_27, bytes_28, bytes_29, bytes_30, bytes_38, bytes_43, bytes_44, bytes_47, bytes_50, bytes_51, bytes_52, bytes_54, bytes_55, bytes_66, bytes_68, bytes_69, bytes_70, bytes_83, bytes_84, bytes_85, bytes_86, bytes_97, bytes_103]; omega))
          | (refine NilB.mk fun b hb => Step.out ?_)
          | with_reducible trivial
          | exact noSh_bool _
          | exact noSh_lit _
          | exact noSh_int _ _
          | exact noSh_str _
          | with_reducible rfl
          | with_reducible exact same_rfl
          | (refine Wr.i64 ?_ ?_; omega)
          | (refine Wr.u8 ?_ ?_; omega)
          | (refine Wr.i32 ?_ ?_; omega)
          | (with_reducible refine Br.tt ?_)
          | (with_reducible refine Br.ff ?_)
          | (refine Br.dT ?_ ?_; omega)
          | (refine Br.dF ?_ ?_; omega)
          | (refine Br.d (fun h => ?_) (fun h => ?_))
          | (refine Br.swap ?_)
          | (refine Br.bnot ?_)
          | (refine Br.mk (fun h => Step.out ?_) (fun h => Step.out ?_))
          | (refine Two.mk (Step.out ?_) (Step.out ?_))
          | (refine CallOK.of_ct (Step.out ?_))
          | (refine Met.by (g := 15) (rjoin_ct _ (by first | omega | decide | (simp; done) | (simp; omega)) (by first | omega | decide | (simp; done) | (simp; omega))) ?_; rintro q outs ⟨rfl, rfl⟩)
          | (refine Met.by (g := 25) (rcheck_ct _ (by assumption)) ?_; rintro q outs ⟨rfl, rfl⟩)
          | (refine Met.by (g := 30) (rcanon_ct _ _ (by assumption)) ?_; rintro q outs ⟨rfl, rfl⟩)
          | (refine Met.by (g := 31) (rdropped_ct _ _ (by assumption)) ?_; rintro q outs ⟨rfl, rfl⟩)
          | (refine Met.by (g := 32) (rtokens_ct _ (by first | omega | decide | (simp; done) | (simp; omega))) ?_; rintro q outs ⟨rfl, rfl⟩)
          | (refine Met.by (g := 50) (rfold_ct _ (by first | omega | decide | (simp; done) | (simp; omega))) ?_; rintro q outs ⟨rfl, rfl⟩)
          | (refine Met.by (g := 51) (rlettersS_ct _ (by first | omega | decide | (simp; done) | (simp; omega))) ?_; rintro q outs ⟨rfl, rfl⟩)
          | (refine Vc.mk ?_ (Step.out ?_))
      · refine Again.by (i + 1) ⟨by omega, by omega⟩ ?_
        rw [hst ‹_›, keepL_one, if_neg ‹_›, if_pos ‹_›, List.append_nil]
        repeat' first
          | (refine Step.mk ?_; conv => whnf)
          | (refine Vc.om ?_ ?_; first | omega | with_reducible rfl | with_reducible exact same_rfl | (simp only [bytes_2, bytes_3, bytes_4, bytes_5, bytes_9, bytes_12, bytes_21, bytes_22, bytes_25, bytes_27, bytes_28, bytes_29, bytes_30, bytes_38, bytes_43, bytes_44, bytes_47, bytes_50, bytes_51, bytes_52, bytes_54, bytes_55, bytes_66, bytes_68, bytes_69, bytes_70, bytes_83, bytes_84, bytes_85, bytes_86, bytes_97, bytes_103]; omega))
          | (refine NilB.mk fun b hb => Step.out ?_)
          | with_reducible trivial
          | exact noSh_bool _
          | exact noSh_lit _
          | exact noSh_int _ _
          | exact noSh_str _
          | with_reducible rfl
          | with_reducible exact same_rfl
          | (refine Wr.i64 ?_ ?_; omega)
          | (refine Wr.u8 ?_ ?_; omega)
          | (refine Wr.i32 ?_ ?_; omega)
          | (with_reducible refine Br.tt ?_)
          | (with_reducible refine Br.ff ?_)
          | (refine Br.dT ?_ ?_; omega)
          | (refine Br.dF ?_ ?_; omega)
          | (refine Br.d (fun h => ?_) (fun h => ?_))
          | (refine Br.swap ?_)
          | (refine Br.bnot ?_)
          | (refine Br.mk (fun h => Step.out ?_) (fun h => Step.out ?_))
          | (refine Two.mk (Step.out ?_) (Step.out ?_))
          | (refine CallOK.of_ct (Step.out ?_))
          | (refine Met.by (g := 15) (rjoin_ct _ (by first | omega | decide | (simp; done) | (simp; omega)) (by first | omega | decide | (simp; done) | (simp; omega))) ?_; rintro q outs ⟨rfl, rfl⟩)
          | (refine Met.by (g := 25) (rcheck_ct _ (by assumption)) ?_; rintro q outs ⟨rfl, rfl⟩)
          | (refine Met.by (g := 30) (rcanon_ct _ _ (by assumption)) ?_; rintro q outs ⟨rfl, rfl⟩)
          | (refine Met.by (g := 31) (rdropped_ct _ _ (by assumption)) ?_; rintro q outs ⟨rfl, rfl⟩)
          | (refine Met.by (g := 32) (rtokens_ct _ (by first | omega | decide | (simp; done) | (simp; omega))) ?_; rintro q outs ⟨rfl, rfl⟩)
          | (refine Met.by (g := 50) (rfold_ct _ (by first | omega | decide | (simp; done) | (simp; omega))) ?_; rintro q outs ⟨rfl, rfl⟩)
          | (refine Met.by (g := 51) (rlettersS_ct _ (by first | omega | decide | (simp; done) | (simp; omega))) ?_; rintro q outs ⟨rfl, rfl⟩)
          | (refine Vc.mk ?_ (Step.out ?_))
      · refine Again.by (i + 1) ⟨by omega, by omega⟩ ?_
        rw [hst ‹_›, keepL_one, if_neg ‹_›, if_neg (by rw [‹hasS _ _ = false›]; simp)]
        repeat' first
          | (refine Step.mk ?_; conv => whnf)
          | (refine Vc.om ?_ ?_; first | omega | with_reducible rfl | with_reducible exact same_rfl | (simp only [bytes_2, bytes_3, bytes_4, bytes_5, bytes_9, bytes_12, bytes_21, bytes_22, bytes_25, bytes_27, bytes_28, bytes_29, bytes_30, bytes_38, bytes_43, bytes_44, bytes_47, bytes_50, bytes_51, bytes_52, bytes_54, bytes_55, bytes_66, bytes_68, bytes_69, bytes_70, bytes_83, bytes_84, bytes_85, bytes_86, bytes_97, bytes_103]; omega))
          | (refine NilB.mk fun b hb => Step.out ?_)
          | with_reducible trivial
          | exact noSh_bool _
          | exact noSh_lit _
          | exact noSh_int _ _
          | exact noSh_str _
          | with_reducible rfl
          | with_reducible exact same_rfl
          | (refine Wr.i64 ?_ ?_; omega)
          | (refine Wr.u8 ?_ ?_; omega)
          | (refine Wr.i32 ?_ ?_; omega)
          | (with_reducible refine Br.tt ?_)
          | (with_reducible refine Br.ff ?_)
          | (refine Br.dT ?_ ?_; omega)
          | (refine Br.dF ?_ ?_; omega)
          | (exact str_app _ _ rfl)
          | (refine Br.d (fun h => ?_) (fun h => ?_))
          | (refine Br.swap ?_)
          | (refine Br.bnot ?_)
          | (refine Br.mk (fun h => Step.out ?_) (fun h => Step.out ?_))
          | (refine Two.mk (Step.out ?_) (Step.out ?_))
          | (refine CallOK.of_ct (Step.out ?_))
          | (refine Met.by (g := 15) (rjoin_ct _ (by first | omega | decide | (simp; done) | (simp; omega)) (by first | omega | decide | (simp; done) | (simp; omega))) ?_; rintro q outs ⟨rfl, rfl⟩)
          | (refine Met.by (g := 25) (rcheck_ct _ (by assumption)) ?_; rintro q outs ⟨rfl, rfl⟩)
          | (refine Met.by (g := 30) (rcanon_ct _ _ (by assumption)) ?_; rintro q outs ⟨rfl, rfl⟩)
          | (refine Met.by (g := 31) (rdropped_ct _ _ (by assumption)) ?_; rintro q outs ⟨rfl, rfl⟩)
          | (refine Met.by (g := 32) (rtokens_ct _ (by first | omega | decide | (simp; done) | (simp; omega))) ?_; rintro q outs ⟨rfl, rfl⟩)
          | (refine Met.by (g := 50) (rfold_ct _ (by first | omega | decide | (simp; done) | (simp; omega))) ?_; rintro q outs ⟨rfl, rfl⟩)
          | (refine Met.by (g := 51) (rlettersS_ct _ (by first | omega | decide | (simp; done) | (simp; omega))) ?_; rintro q outs ⟨rfl, rfl⟩)
          | (refine Vc.mk ?_ (Step.out ?_))
      · rw [hend ‹_›]
        repeat' first
          | (refine Step.mk ?_; conv => whnf)
          | (refine Vc.om ?_ ?_; first | omega | with_reducible rfl | with_reducible exact same_rfl | (simp only [bytes_2, bytes_3, bytes_4, bytes_5, bytes_9, bytes_12, bytes_21, bytes_22, bytes_25, bytes_27, bytes_28, bytes_29, bytes_30, bytes_38, bytes_43, bytes_44, bytes_47, bytes_50, bytes_51, bytes_52, bytes_54, bytes_55, bytes_66, bytes_68, bytes_69, bytes_70, bytes_83, bytes_84, bytes_85, bytes_86, bytes_97, bytes_103]; omega))
          | (refine NilB.mk fun b hb => Step.out ?_)
          | with_reducible trivial
          | exact noSh_bool _
          | exact noSh_lit _
          | exact noSh_int _ _
          | exact noSh_str _
          | with_reducible rfl
          | with_reducible exact same_rfl
          | (refine Wr.i64 ?_ ?_; omega)
          | (refine Wr.u8 ?_ ?_; omega)
          | (refine Wr.i32 ?_ ?_; omega)
          | (with_reducible refine Br.tt ?_)
          | (with_reducible refine Br.ff ?_)
          | (refine Br.dT ?_ ?_; omega)
          | (refine Br.dF ?_ ?_; omega)
          | (refine Met.by (rjoin_ct (normL r s) (by omega) (by omega)) ?_; rintro q outs ⟨rfl, rfl⟩)
          | (refine Br.d (fun h => ?_) (fun h => ?_))
          | (refine Br.swap ?_)
          | (refine Br.bnot ?_)
          | (refine Br.mk (fun h => Step.out ?_) (fun h => Step.out ?_))
          | (refine Two.mk (Step.out ?_) (Step.out ?_))
          | (refine CallOK.of_ct (Step.out ?_))
          | (refine Met.by (g := 15) (rjoin_ct _ (by first | omega | decide | (simp; done) | (simp; omega)) (by first | omega | decide | (simp; done) | (simp; omega))) ?_; rintro q outs ⟨rfl, rfl⟩)
          | (refine Met.by (g := 25) (rcheck_ct _ (by assumption)) ?_; rintro q outs ⟨rfl, rfl⟩)
          | (refine Met.by (g := 30) (rcanon_ct _ _ (by assumption)) ?_; rintro q outs ⟨rfl, rfl⟩)
          | (refine Met.by (g := 31) (rdropped_ct _ _ (by assumption)) ?_; rintro q outs ⟨rfl, rfl⟩)
          | (refine Met.by (g := 32) (rtokens_ct _ (by first | omega | decide | (simp; done) | (simp; omega))) ?_; rintro q outs ⟨rfl, rfl⟩)
          | (refine Met.by (g := 50) (rfold_ct _ (by first | omega | decide | (simp; done) | (simp; omega))) ?_; rintro q outs ⟨rfl, rfl⟩)
          | (refine Met.by (g := 51) (rlettersS_ct _ (by first | omega | decide | (simp; done) | (simp; omega))) ?_; rintro q outs ⟨rfl, rfl⟩)
          | (refine Vc.mk ?_ (Step.out ?_))
        all_goals first
          | exact (normE_big ‹checkE r = 0› ‹foldE s = 0› (by omega)).1
          | exact (normE_big ‹checkE r = 0› ‹foldE s = 0› (by omega)).2
          | exact (normE_ok ‹checkE r = 0› ‹foldE s = 0› (by omega) (by omega)).1
          | exact (normE_ok ‹checkE r = 0› ‹foldE s = 0› (by omega) (by omega)).2
  all_goals first
    | exact (normE_c ‹¬checkE r = 0›).1
    | exact (normE_c ‹¬checkE r = 0›).2
    | exact (normE_f ‹checkE r = 0› ‹¬foldE s = 0›).1
    | exact (normE_f ‹checkE r = 0› ‹¬foldE s = 0›).2
def normB (r : Ru) (s : Str) : Bool := decide (normE r s = 0) && decide (normO r s = s)
theorem normal_ct (r : Ru) (s : Str) (hr : Ru.ok r) (hs : s.length ≤ 10000) : Ct Try.prog 28 [ruD r, .str s] fun q outs => q = .bool (normB r s) ∧ outs = [] := by
  refine .det (.of_W (fn := Try.f28) hΓ hm (by rfl) [] [] (by kernel_rfl) (Step.out ?_))
  repeat' first
    | (refine Step.mk ?_; conv => whnf)
    | (refine Vc.om ?_ ?_; first | omega | with_reducible rfl | with_reducible exact same_rfl | (simp only [bytes_2, bytes_3, bytes_4, bytes_5, bytes_9, bytes_12, bytes_21, bytes_22, bytes_25, bytes_27, bytes_28, bytes_29, bytes_30, bytes_38, bytes_43, bytes_44, bytes_47, bytes_50, bytes_51, bytes_52, bytes_54, bytes_55, bytes_66, bytes_68, bytes_69, bytes_70, bytes_83, bytes_84, bytes_85, bytes_86, bytes_97, bytes_103]; omega))
    | (refine NilB.mk fun b hb => Step.out ?_)
    | with_reducible trivial
    | exact noSh_bool _
    | exact noSh_lit _
    | exact noSh_int _ _
    | exact noSh_str _
    | with_reducible rfl
    | with_reducible exact same_rfl
    | (refine Wr.i64 ?_ ?_; omega)
    | (refine Wr.u8 ?_ ?_; omega)
    | (refine Wr.i32 ?_ ?_; omega)
    | (with_reducible refine Br.tt ?_)
    | (with_reducible refine Br.ff ?_)
    | (refine Br.dT ?_ ?_; omega)
    | (refine Br.dF ?_ ?_; omega)
    | (refine Br.d (fun h => ?_) (fun h => ?_))
    | (refine Br.swap ?_)
    | (refine Br.bnot ?_)
    | (refine Br.mk (fun h => Step.out ?_) (fun h => Step.out ?_))
    | (refine Two.mk (Step.out ?_) (Step.out ?_))
    | (refine CallOK.of_ct (Step.out ?_))
    | (refine Met.by (g := 19) (norm_ct _ _ (by assumption) (by first | omega | decide | (simp; done) | (simp; omega))) ?_; rintro q outs ⟨rfl, rfl⟩)
    | (refine Vc.mk ?_ (Step.out ?_))
  · rw [normB, decide_eq_true ‹normE r s = 0›, Bool.true_and]
  · rw [normB, decide_eq_false ‹¬normE r s = 0›, Bool.false_and]
theorem rnormal_ct (r : Ru) (s : Str) (hr : Ru.ok r) (hs : s.length ≤ 10000) : Ct Try.prog 29 [ruD r, .str s] fun q outs => q = .bool (normB r s) ∧ outs = [] := by
  refine .det (.of_W (fn := Try.f29) hΓ hm (by rfl) [] [] (by kernel_rfl) (Step.out ?_))
  repeat' first
    | (refine Step.mk ?_; conv => whnf)
    | (refine Vc.om ?_ ?_; first | omega | with_reducible rfl | with_reducible exact same_rfl | (simp only [bytes_2, bytes_3, bytes_4, bytes_5, bytes_9, bytes_12, bytes_21, bytes_22, bytes_25, bytes_27, bytes_28, bytes_29, bytes_30, bytes_38, bytes_43, bytes_44, bytes_47, bytes_50, bytes_51, bytes_52, bytes_54, bytes_55, bytes_66, bytes_68, bytes_69, bytes_70, bytes_83, bytes_84, bytes_85, bytes_86, bytes_97, bytes_103]; omega))
    | (refine NilB.mk fun b hb => Step.out ?_)
    | with_reducible trivial
    | exact noSh_bool _
    | exact noSh_lit _
    | exact noSh_int _ _
    | exact noSh_str _
    | with_reducible rfl
    | with_reducible exact same_rfl
    | (refine Wr.i64 ?_ ?_; omega)
    | (refine Wr.u8 ?_ ?_; omega)
    | (refine Wr.i32 ?_ ?_; omega)
    | (with_reducible refine Br.tt ?_)
    | (with_reducible refine Br.ff ?_)
    | (refine Br.dT ?_ ?_; omega)
    | (refine Br.dF ?_ ?_; omega)
    | (refine Br.d (fun h => ?_) (fun h => ?_))
    | (refine Br.swap ?_)
    | (refine Br.bnot ?_)
    | (refine Br.mk (fun h => Step.out ?_) (fun h => Step.out ?_))
    | (refine Two.mk (Step.out ?_) (Step.out ?_))
    | (refine CallOK.of_ct (Step.out ?_))
    | (refine Met.by (g := 27) (rnorm_ct _ _ (by assumption) (by first | omega | decide | (simp; done) | (simp; omega))) ?_; rintro q outs ⟨rfl, rfl⟩)
    | (refine Vc.mk ?_ (Step.out ?_))
  · rw [normB, decide_eq_true ‹normE r s = 0›, Bool.true_and]
  · rw [normB, decide_eq_false ‹¬normE r s = 0›, Bool.false_and]
end Kx
