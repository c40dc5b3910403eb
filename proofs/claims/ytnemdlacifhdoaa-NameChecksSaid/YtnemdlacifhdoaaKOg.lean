/-
  The statements on names: rules that are not valid.
  No condition beyond those written in each theorem.
-/
import Derived.Test.YtnemdlacifhdoaaKOa
import Derived.Test.YtnemdlacifhdoaaFD
open Go Sx Go.Proofs
set_option linter.unusedSimpArgs false
set_option linter.unusedVariables false
namespace Kx
theorem chain_no (u v : Str) : checkE ⟨[], [(u, v), (v, u)], []⟩ = 5 := by
  simp [checkE, pairsB, pAt, pGet, froms, hasS, List.range_succ]
theorem title_no (a b : Str) : checkE ⟨[b], [(a, b)], []⟩ = 5 := by
  simp [checkE, hasS]
theorem less_self (a : Str) : less a a = false := by
  have := less_tot a a
  simpa using this
theorem twice_no (a b : Str) : checkE ⟨[], [], [(a, b), (a, b)]⟩ = 5 := by
  simp [checkE, pairsB, pAt, pGet, less_self, List.range_succ]
theorem tkn_of_let {a : Str} (h1 : 1 ≤ a.length) (h2 : a.length ≤ 64) (h3 : ∀ x ∈ a, isLet x = true) : tkn a = true := by
  have : a ≠ [] := fun e => by rw [e] at h1; simp at h1
  rw [tkn, decide_eq_false this, decide_eq_true h2, decide_eq_true (letters_fix.2 h3)]; rfl
theorem fine_ok {a x : Str} (h1 : 1 ≤ a.length) (h2 : a.length ≤ 8) (h3 : ∀ x ∈ a, isLet x = true) (g1 : 1 ≤ x.length) (g2 : x.length ≤ 8) (g3 : ∀ y ∈ x, isLet y = true) (hn : ¬a = x ++ [120]) : checkE ⟨[a], [(a, x ++ [120])], [(a, x ++ [120])]⟩ = 0 := by
  have ta := tkn_of_let h1 (by omega) h3
  have tb := tkn_of_let (a := x ++ [120]) (by simp) (by simp; omega) fun y hy => by
    rcases List.mem_append.1 hy with hy | hy
    · exact g3 y hy
    · rw [List.mem_singleton.1 hy]; rfl
  simp [checkE, titlesB, tAt, pairsB, pAt, pGet, froms, hasS, List.range_succ, ta, tb, hn]
theorem chain_ct {f : Nat → List D} (u v : Str) (hf : ∀ i, i < 2 → f i = [.str (pGet [(u, v), (v, u)] i).1, .str (pGet [(u, v), (v, u)] i).2]) : Ct Try.prog 22 [.agg [.nil, .tab 2 2 f, .nil]] fun q outs => q = i64 5 ∧ outs = [] := by
  rw [← chain_no u v]
  exact (check_ct ⟨[], [(u, v), (v, u)], []⟩ ⟨by simp, by simp, by simp⟩).arg ⟨rfl, ⟨rfl, ⟨rfl, hf⟩, rfl, trivial⟩, trivial⟩
theorem title_ct {f g : Nat → List D} (a b : Str) (hf : ∀ i, i < 1 → f i = [.str ([b].getD i [])]) (hg : ∀ i, i < 1 → g i = [.str (pGet [(a, b)] i).1, .str (pGet [(a, b)] i).2]) : Ct Try.prog 22 [.agg [.tab 1 1 f, .tab 2 1 g, .nil]] fun q outs => q = i64 5 ∧ outs = [] := by
  rw [← title_no a b]
  exact (check_ct ⟨[b], [(a, b)], []⟩ ⟨by simp, by simp, by simp⟩).arg ⟨rfl, ⟨⟨rfl, hf⟩, ⟨rfl, hg⟩, rfl, trivial⟩, trivial⟩
theorem twice_ct {f : Nat → List D} (a b : Str) (hf : ∀ i, i < 2 → f i = [.str (pGet [(a, b), (a, b)] i).1, .str (pGet [(a, b), (a, b)] i).2]) : Ct Try.prog 22 [.agg [.nil, .nil, .tab 2 2 f]] fun q outs => q = i64 5 ∧ outs = [] := by
  rw [← twice_no a b]
  exact (check_ct ⟨[], [], [(a, b), (a, b)]⟩ ⟨by simp, by simp, by simp⟩).arg ⟨rfl, ⟨rfl, rfl, ⟨rfl, hf⟩, trivial⟩, trivial⟩
theorem fine_ct {f g k : Nat → List D} {a x : Str} (h1 : 1 ≤ a.length) (h2 : a.length ≤ 8) (h3 : ∀ x ∈ a, isLet x = true) (g1 : 1 ≤ x.length) (g2 : x.length ≤ 8) (g3 : ∀ y ∈ x, isLet y = true) (hn : ¬a = x ++ [120])
    (hf : ∀ i, i < 1 → f i = [.str ([a].getD i [])]) (hg : ∀ i, i < 1 → g i = [.str (pGet [(a, x ++ [120])] i).1, .str (pGet [(a, x ++ [120])] i).2]) (hk : ∀ i, i < 1 → k i = [.str (pGet [(a, x ++ [120])] i).1, .str (pGet [(a, x ++ [120])] i).2]) : Ct Try.prog 22 [.agg [.tab 1 1 f, .tab 2 1 g, .tab 2 1 k]] fun q outs => q = i64 0 ∧ outs = [] := by
  rw [← fine_ok h1 h2 h3 g1 g2 g3 hn]
  exact (check_ct ⟨[a], [(a, x ++ [120])], [(a, x ++ [120])]⟩ ⟨by simp, by simp, by simp⟩).arg ⟨rfl, ⟨⟨rfl, hf⟩, ⟨rfl, hg⟩, ⟨rfl, hk⟩, trivial⟩, trivial⟩
theorem one_of {f g : Nat → List D} (h : f 0 = g 0) : ∀ i, i < 1 → f i = g i := fun i hi => by
  rw [show i = 0 by omega]; exact h
theorem two_of {f g : Nat → List D} (h : f 0 = g 0) (h1 : f 1 = g 1) : ∀ i, i < 2 → f i = g i := fun i hi => by
  rcases show i = 0 ∨ i = 1 by omega with rfl | rfl
  · exact h
  · exact h1
theorem checks_ct (l : List Int) : Ct Try.prog 6 [ints l] fun q _ => Yes q := by
  refine .of_W (fn := Try.f6) hΓ hm (by rfl) ord6 [] (by kernel_rfl) (Step.out ?_)
  repeat' first
    | (refine Step.mk ?_; conv => whnf)
    | (refine Vc.om ?_ ?_; first | omega | with_reducible rfl | with_reducible exact same_rfl | (simp only [bytes_2, bytes_3, bytes_4, bytes_5, bytes_9, bytes_12, bytes_21, bytes_22, bytes_25, bytes_27, bytes_28, bytes_29, bytes_30, bytes_38, bytes_43, bytes_44, bytes_47, bytes_50, bytes_51, bytes_52, bytes_54, bytes_55, bytes_66, bytes_68, bytes_69, bytes_70, bytes_83, bytes_84, bytes_85, bytes_86, bytes_97, bytes_103]; omega))
    | (refine NilB.mk fun b hb => Step.out ?_)
    | with_reducible trivial
    | exact noSh_bool _
    | exact noSh_lit _
    | exact noSh_int _ _
    | exact noSh_str _
    | with_reducible rfl
    | with_reducible exact same_rfl
    | (refine Wr.i64 ?_ ?_; omega)
    | (refine Wr.u8 ?_ ?_; omega)
    | (refine Wr.i32 ?_ ?_; omega)
    | (with_reducible refine Br.tt ?_)
    | (with_reducible refine Br.ff ?_)
    | (refine Br.dT ?_ ?_; omega)
    | (refine Br.dF ?_ ?_; omega)
    | (exact .inl rfl)
    | (exact .inr rfl)
    | (refine Vc.om ?_ ?_; focus ((simp only [List.length_append, List.length_cons, List.length_nil]; omega); done))
    | (refine Wr.i64 ?_ ?_; focus ((simp only [List.length_append, List.length_cons, List.length_nil]; omega); done))
    | (refine Wr.u8 ?_ ?_; focus ((simp only [List.length_append, List.length_cons, List.length_nil]; omega); done))
    | (refine Br.dT ?_ ?_; focus ((simp only [List.length_append, List.length_cons, List.length_nil]; omega); done))
    | (refine Br.dF ?_ ?_; focus ((simp only [List.length_append, List.length_cons, List.length_nil]; omega); done))
    | (refine Met.by (chain_ct _ _ (two_of rfl rfl)) ?_; rintro q outs ⟨rfl, rfl⟩)
    | (refine Met.by (title_ct _ _ (one_of rfl) (one_of rfl)) ?_; rintro q outs ⟨rfl, rfl⟩)
    | (refine Met.by (twice_ct _ _ (two_of rfl rfl)) ?_; rintro q outs ⟨rfl, rfl⟩)
    | (refine Met.by (fine_ct ‹_› ‹_› ‹_› ‹_› ‹_› ‹_› ‹_› (one_of rfl) (one_of rfl) (one_of rfl)) ?_; rintro q outs ⟨rfl, rfl⟩)
    | (refine Br.d (fun h => ?_) (fun h => ?_))
    | (refine Br.swap ?_)
    | (refine Br.bnot ?_)
    | (refine Br.mk (fun h => Step.out ?_) (fun h => Step.out ?_))
    | (refine Two.mk (Step.out ?_) (Step.out ?_))
    | (refine CallOK.io1 (g := 14) (Step.out ?_))
    | (refine CallOK.of_ct (Step.out ?_))
    | (refine Met.by (g := 9) (awake_ct) ?_; rintro q outs ⟨rfl, rfl⟩)
    | (refine Met.by (g := 10) (few_ct _) ?_; rintro q outs ⟨rfl, rfl⟩)
    | (refine Met.by (g := 11) (new_ct _ (by assumption)) ?_; rintro q outs ⟨d, hd, rfl, rfl⟩)
    | (refine Met.by (g := 14) (token_ct _) ?_; rintro q outs ⟨x, d, ⟨hx1, hx2, hx3⟩, rfl, rfl⟩)
    | (refine Met.by (g := 22) (check_ct _ (by assumption)) ?_; rintro q outs ⟨rfl, rfl⟩)
    | (refine Vc.mk ?_ (Step.out ?_))
end Kx
