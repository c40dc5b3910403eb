/-
  The plain law of addresses: normal forms of normal forms.
  No condition beyond those written in each theorem.
-/
import Derived.Test.YthokblligmllfaaDoorKAf
import Derived.Test.YthokblligmllfaaDoorFD
open Go Sx Go.Proofs
set_option linter.unusedSimpArgs false
set_option linter.unusedVariables false
namespace Kx
def anTok (t : Str) : Prop := t ≠ [] ∧ ∀ x ∈ t, isAn x = true
theorem anTok.tok {t : Str} (h : anTok t) : t ≠ [] ∧ ∀ x ∈ t, x ≠ 32 := ⟨h.1, fun x hx => an_ne (h.2 x hx)⟩
theorem repl_again {r : Ru} (hr : checkE r = 0) (t : Str) : replS r.s (replS r.s t) = replS r.s t := by
  rcases replS_mem r.s t with ⟨e, h⟩ | ⟨p, hp, _, e⟩
  · rw [e, e]
  · rw [e]
    exact replS_id (pairs_tkn (checkE_ok hr).2.2.2.1 hp).2.2
theorem repl_an {r : Ru} (hr : checkE r = 0) {t : Str} (h : anTok t) : anTok (replS r.s t) := by
  rcases replS_mem r.s t with ⟨e, _⟩ | ⟨p, hp, _, e⟩
  · rw [e]; exact h
  · rw [e]
    have := tkn_of (pairs_tkn (checkE_ok hr).2.2.2.1 hp).2.1
    exact ⟨this.1, fun x hx => low_an (letters_fix.1 this.2.2 x hx)⟩
theorem short_an {t : Str} (h : ∀ x ∈ t, isAn x = true) : anTok (shortS t) :=
  ⟨fun e => (by have := num_short t; rw [e] at this; cases this), fun x hx => by
    rcases short_chars hx with e | hx
    · subst e; rfl
    · exact h x hx⟩
theorem addr_an {r : Ru} (hr : checkE r = 0) {l : List Str} (hl : ∀ t ∈ l, anTok t) : ∀ t ∈ addrL r l, anTok t := fun t ht => by
  simp only [addrL, others, numbers, List.mem_append, List.mem_map, List.mem_filter] at ht
  rcases ht with ⟨u, ⟨hu, _⟩, rfl⟩ | ⟨u, ⟨hu, _⟩, rfl⟩
  · exact repl_an hr (hl u hu)
  · exact short_an (hl u hu).2
theorem filter_all {p : Str → Bool} : ∀ {l : List Str}, (∀ t ∈ l, p t = true) → l.filter p = l := fun h => List.filter_eq_self.2 h
theorem filter_no {p : Str → Bool} : ∀ {l : List Str}, (∀ t ∈ l, p t = false) → l.filter p = [] := fun h => List.filter_eq_nil_iff.2 fun t ht => by rw [h t ht]; simp
theorem addr_parts {r : Ru} (hr : checkE r = 0) (l : List Str) : others (addrL r l) = (others l).map (replS r.s) ∧ numbers (addrL r l) = (numbers l).map shortS := by
  have hA : ∀ t ∈ (others l).map (replS r.s), num t = false := fun t ht => by
    obtain ⟨u, hu, rfl⟩ := List.mem_map.1 ht
    exact num_repl hr (by simpa [notNum] using (List.mem_filter.1 hu).2)
  have hB : ∀ t ∈ (numbers l).map shortS, num t = true := fun t ht => by
    obtain ⟨u, hu, rfl⟩ := List.mem_map.1 ht
    exact num_short u
  refine ⟨?_, ?_⟩
  · rw [addrL, others, List.filter_append, filter_all (p := notNum) (fun t ht => by rw [notNum, hA t ht]; rfl), filter_no (p := notNum) (fun t ht => by rw [notNum, hB t ht]; rfl), List.append_nil]
  · rw [addrL, numbers, List.filter_append, filter_no hA, filter_all hB]; rfl
theorem addr_fix {r : Ru} (hr : checkE r = 0) (l : List Str) : addrL r (addrL r l) = addrL r l := by
  obtain ⟨e1, e2⟩ := addr_parts hr l
  rw [addrL, e1, e2, List.map_map, List.map_map]
  rw [addrL]
  congr 1
  · exact List.map_congr_left fun t _ => repl_again hr t
  · exact List.map_congr_left fun t _ => short_twice t
theorem fold_toks_an (s : Str) : ∀ t ∈ toks (foldO s), anTok t := fun t ht => by
  have h := toks_tokL (foldO s) t ht
  refine ⟨h.1, fun x hx => ?_⟩
  have hm := (toksF_mem (foldO s) [] t ht).2 x hx
  rcases hm with hm | hm
  · cases hm
  · exact ((foldO_fixed s).1 x hm.1).resolve_right hm.2
theorem an_fixed {l : List Str} (h : ∀ t ∈ l, anTok t) : Fixed (joinS [32] l) := ⟨fun x hx => by
    rcases join_mem hx with e | ⟨t, ht, hx⟩
    · exact .inr e
    · exact .inl ((h t ht).2 x hx), by rw [toks_join l fun t ht => (h t ht).tok]⟩
theorem addr_twice {r : Ru} {s : Str} (h : addrE r s = 0) : addrE r (addrO r s) = 0 ∧ addrO r (addrO r s) = addrO r s ∧ (addrO r s).length ≤ 64 := by
  obtain ⟨h1, h2, h3, h4, h5⟩ := addr_inv h
  have han : ∀ t ∈ addrT r s, anTok t := addr_an h1 (fold_toks_an s)
  have hf := fixed_fold (an_fixed han) h4
  rw [h5]
  have hT : addrT r (joinS [32] (addrT r s)) = addrT r s := by
    show addrL r (toks (foldO (joinS [32] (addrT r s)))) = _
    rw [hf.2, toks_join _ fun t ht => (han t ht).tok]; exact addr_fix h1 _
  have := addrE_ok (s := joinS [32] (addrT r s)) h1 hf.1 (by rw [hT]; omega) (by rw [hT]; omega)
  exact ⟨this.1.symm, by rw [← this.2, hT], h4⟩
theorem toks_none : ∀ {w : Str}, (∀ x ∈ w, x ≠ 32) → toks w = opt w := fun {w} h => by
  have := toksF_skip w [] [] h
  simpa [toks, toksF_nil] using this
theorem an_fold {w : Str} (h : ∀ x ∈ w, isAn x = true) (hl : w.length ≤ 64) : foldE w = 0 ∧ foldO w = w := by
  refine fixed_fold ⟨fun x hx => .inl (h x hx), ?_⟩ hl
  rw [toks_none fun x hx => an_ne (h x hx)]
  unfold opt
  split
  · subst_vars; rfl
  · simp [joinS, tailS]
theorem code_inv {s : Str} (h : codeE s = 0) : foldE s = 0 ∧ (codeT s).length ≤ 12 ∧ codeO s = codeT s := by
  have ho : codeO s = codeT s := by rw [codeO, if_pos h]
  unfold codeE at h
  by_cases h1 : foldE s = 0
  · rw [if_pos h1] at h
    by_cases h2 : (codeT s).length ≤ 12
    · exact ⟨h1, h2, ho⟩
    · rw [if_neg h2] at h; cases h
  · rw [if_neg h1] at h; exact absurd h h1
theorem code_an {w : Str} (h : ∀ x ∈ w, isAn x = true) (hl : w.length ≤ 12) : codeE w = 0 ∧ codeO w = w := by
  obtain ⟨e1, e2⟩ := an_fold h (by omega)
  have e3 : codeT w = w := by
    rw [codeT, e2]
    exact List.filter_eq_self.2 fun x hx => by
      rw [notSp, decide_eq_false (an_ne (h x hx))]; rfl
  have := codeE_ok e1 (by rw [e3]; omega)
  rw [e3] at this
  exact ⟨this.1.symm, this.2.symm⟩
theorem code_twice {s : Str} (h : codeE s = 0) : codeE (codeO s) = 0 ∧ codeO (codeO s) = codeO s ∧ (codeO s).length ≤ 64 := by
  obtain ⟨h1, h2, h3⟩ := code_inv h
  rw [h3]
  have := code_an (w := codeT s) (fun x hx => by
    obtain ⟨a, b⟩ := List.mem_filter.1 hx
    exact ((foldO_fixed s).1 x a).resolve_right (by simpa [notSp] using b)) h2
  exact ⟨this.1, this.2, by omega⟩
def Yes (q : D) : Prop := q = .bool true ∨ q = .lit true
def rA : Ru := ⟨[], [], [([115,116],[115,116,114,101,101,116])]⟩
theorem rA_ok : Ru.ok rA := ⟨by decide, by decide, by decide⟩
def rAd : D := .agg [.nil, .nil, .tab 2 1 fun i => selC [[.str [115,116], .str [115,116,114,101,101,116]]] i]
theorem rA_two {g : FuncId} {s : Str} {R : D → List D → Prop} (H : Ct Tryd.prog g [ruD rA, .str s] R) : Ct Tryd.prog g [rAd, .str s] R :=
  H.arg ⟨rfl, ⟨rfl, rfl, ⟨rfl, selC_pr rA.s⟩, trivial⟩, rfl, trivial⟩
theorem awake_ct : Ct Tryd.prog 8 [] fun r outs => r = .bool true ∧ outs = [] := by
  refine .det (.of_W (fn := Tryd.f8) hΓ hm Tryd.func8 [] [] (by kernel_rfl) (Step.out ?_))
  repeat' first
    | (refine Step.mk ?_; conv => whnf)
    | (refine Vc.om ?_ ?_; first | omega | with_reducible rfl | with_reducible exact same_rfl | (simp only [bytes_2, bytes_3, bytes_4, bytes_5, bytes_9, bytes_12, bytes_21, bytes_22, bytes_25, bytes_27, bytes_28, bytes_29, bytes_30, bytes_34, bytes_45, bytes_49, bytes_50, bytes_51, bytes_52, bytes_53, bytes_54, bytes_64, bytes_67, bytes_68, bytes_73, bytes_75, bytes_76, bytes_77, bytes_92, bytes_93, bytes_94, bytes_95, bytes_98, bytes_102, bytes_112, bytes_123, bytes_129]; omega))
    | (refine NilB.mk fun b hb => Step.out ?_)
    | with_reducible trivial
    | exact noSh_bool _
    | exact noSh_lit _
    | exact noSh_int _ _
    | exact noSh_str _
    | with_reducible rfl
    | with_reducible exact same_rfl
    | (refine Wr.i64 ?_ ?_; omega)
    | (refine Wr.u8 ?_ ?_; omega)
    | (refine Wr.i32 ?_ ?_; omega)
    | (with_reducible refine Br.tt ?_)
    | (with_reducible refine Br.ff ?_)
    | (refine Br.dT ?_ ?_; omega)
    | (refine Br.dF ?_ ?_; omega)
    | (refine Met.by (rA_two (norm_ct rA _ rA_ok (by decide))) ?_; rintro q outs ⟨rfl, rfl⟩)
    | (refine Br.dT (by decide +kernel) ?_)
    | (exact ⟨trivial, trivial, trivial⟩)
    | (decide +kernel)
    | (refine Br.d (fun h => ?_) (fun h => ?_))
    | (refine Br.swap ?_)
    | (refine Br.bnot ?_)
    | (refine Br.mk (fun h => Step.out ?_) (fun h => Step.out ?_))
    | (refine Two.mk (Step.out ?_) (Step.out ?_))
    | (refine CallOK.of_ct (Step.out ?_))
    | (refine Met.by (g := 14) (norm_ct _ _ (by assumption) (by first | omega | decide | (simp; done) | (simp; omega))) ?_; rintro q outs ⟨rfl, rfl⟩)
    | (refine Met.by (g := 16) (number_ct _ (by first | omega | decide | (simp; done) | (simp; omega))) ?_; rintro q outs ⟨rfl, rfl⟩)
    | (refine Met.by (g := 17) (street_ct _ (by first | omega | decide | (simp; done) | (simp; omega))) ?_; rintro q outs ⟨rfl, rfl⟩)
    | (refine Met.by (g := 20) (code_ct _ (by first | omega | decide | (simp; done) | (simp; omega))) ?_; rintro q outs ⟨rfl, rfl⟩)
    | (refine Vc.mk ?_ (Step.out ?_))
theorem addr_law {r : Ru} {x : Str} (h : addrE r x = 0) : addrB r (addrO r x) = true := by
  obtain ⟨n1, n2, n3⟩ := addr_twice h
  rw [addrB, n1, n2]; simp
theorem code_law {x : Str} (h : codeE x = 0) : codeB (codeO x) = true := by
  obtain ⟨n1, n2, n3⟩ := code_twice h
  rw [codeB, n1, n2]; simp
theorem normO_ct (r : Ru) (x : Str) (hr : Ru.ok r) : Ct Tryd.prog 14 [ruD r, .str (addrO r x)] fun q outs => q = .tup [.str (addrO r (addrO r x)), i64 (addrE r (addrO r x))] ∧ outs = [] := norm_ct r _ hr (by have := addrO_len r x; omega)
theorem normalO_ct (r : Ru) (x : Str) (hr : Ru.ok r) : Ct Tryd.prog 27 [ruD r, .str (addrO r x)] fun q outs => q = .bool (addrB r (addrO r x)) ∧ outs = [] := normal_ct r _ hr (by have := addrO_len r x; omega)
theorem codeO_ct (x : Str) : Ct Tryd.prog 20 [.str (codeO x)] fun q outs => q = .tup [.str (codeO (codeO x)), i64 (codeE (codeO x))] ∧ outs = [] := code_ct _ (by have := codeO_len x; omega)
theorem normedO_ct (x : Str) : Ct Tryd.prog 30 [.str (codeO x)] fun q outs => q = .bool (codeB (codeO x)) ∧ outs = [] := normed_ct _ (by have := codeO_len x; omega)
theorem idem_ct (l : List Int) : Ct Tryd.prog 7 [ints l] fun q _ => Yes q := by
  refine .of_W (fn := Tryd.f7) hΓ hm Tryd.func7 ord7 [] (by kernel_rfl) (Step.out ?_)
  repeat' first
    | (refine Step.mk ?_; conv => whnf)
    | (refine Vc.om ?_ ?_; first | omega | with_reducible rfl | with_reducible exact same_rfl | (simp only [bytes_2, bytes_3, bytes_4, bytes_5, bytes_9, bytes_12, bytes_21, bytes_22, bytes_25, bytes_27, bytes_28, bytes_29, bytes_30, bytes_34, bytes_45, bytes_49, bytes_50, bytes_51, bytes_52, bytes_53, bytes_54, bytes_64, bytes_67, bytes_68, bytes_73, bytes_75, bytes_76, bytes_77, bytes_92, bytes_93, bytes_94, bytes_95, bytes_98, bytes_102, bytes_112, bytes_123, bytes_129]; omega))
    | (refine NilB.mk fun b hb => Step.out ?_)
    | with_reducible trivial
    | exact noSh_bool _
    | exact noSh_lit _
    | exact noSh_int _ _
    | exact noSh_str _
    | with_reducible rfl
    | with_reducible exact same_rfl
    | (refine Wr.i64 ?_ ?_; omega)
    | (refine Wr.u8 ?_ ?_; omega)
    | (refine Wr.i32 ?_ ?_; omega)
    | (with_reducible refine Br.tt ?_)
    | (with_reducible refine Br.ff ?_)
    | (refine Br.dT ?_ ?_; omega)
    | (refine Br.dF ?_ ?_; omega)
    | (exact .inl rfl)
    | (exact .inr rfl)
    | (refine Met.by (normO_ct r _ ‹_›) ?_; rintro q outs ⟨rfl, rfl⟩)
    | (refine Met.by (normalO_ct r _ ‹_›) ?_; rintro q outs ⟨rfl, rfl⟩)
    | (refine Met.by (codeO_ct _) ?_; rintro q outs ⟨rfl, rfl⟩)
    | (refine Met.by (normedO_ct _) ?_; rintro q outs ⟨rfl, rfl⟩)
    | (refine Br.dT (addr_twice ‹_›).1 ?_)
    | (refine Br.dT (addr_twice ‹_›).2.1.symm ?_)
    | (refine Br.dT (code_twice ‹_›).1 ?_)
    | (refine Br.dT (code_twice ‹_›).2.1 ?_)
    | (exact .inl (congrArg D.bool (addr_law ‹_›)))
    | (exact .inl (congrArg D.bool (code_law ‹_›)))
    | (refine Br.d (fun h => ?_) (fun h => ?_))
    | (refine Br.swap ?_)
    | (refine Br.bnot ?_)
    | (refine Br.mk (fun h => Step.out ?_) (fun h => Step.out ?_))
    | (refine Two.mk (Step.out ?_) (Step.out ?_))
    | (refine CallOK.io1 (g := 23) (Step.out ?_))
    | (refine CallOK.io1 (g := 25) (Step.out ?_))
    | (refine CallOK.of_ct (Step.out ?_))
    | (refine Met.by (g := 8) (awake_ct) ?_; rintro q outs ⟨rfl, rfl⟩)
    | (refine Met.by (g := 9) (few_ct _) ?_; rintro q outs ⟨rfl, rfl⟩)
    | (refine Met.by (g := 10) (new_ct _ (by assumption)) ?_; rintro q outs ⟨d, hd, rfl, rfl⟩)
    | (refine Met.by (g := 14) (norm_ct _ _ (by assumption) (by first | omega | decide | (simp; done) | (simp; omega))) ?_; rintro q outs ⟨rfl, rfl⟩)
    | (refine Met.by (g := 20) (code_ct _ (by first | omega | decide | (simp; done) | (simp; omega))) ?_; rintro q outs ⟨rfl, rfl⟩)
    | (refine Met.by (g := 23) (text_ct _) ?_; rintro q outs ⟨x, d, hx, rfl, rfl⟩)
    | (refine Met.by (g := 25) (bent_ct _) ?_; rintro q outs ⟨r, d, hr, rfl, rfl⟩)
    | (refine Met.by (g := 27) (normal_ct _ _ (by assumption) (by first | omega | decide | (simp; done) | (simp; omega))) ?_; rintro q outs ⟨rfl, rfl⟩)
    | (refine Met.by (g := 30) (normed_ct _ (by first | omega | decide | (simp; done) | (simp; omega))) ?_; rintro q outs ⟨rfl, rfl⟩)
    | (refine Vc.mk ?_ (Step.out ?_))
  all_goals
    rw [addr_law ‹_›] at h
    cases h
end Kx
