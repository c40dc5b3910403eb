/-
  The statements on addresses: the place of a number, zeros in front of it.
  No condition beyond those written in each theorem.
-/
import Derived.Test.YthokblligmllfaaDoorKAg
import Derived.Test.YthokblligmllfaaDoorFD
open Go Sx Go.Proofs
set_option linter.unusedSimpArgs false
set_option linter.unusedVariables false
namespace Kx
theorem deck_ck {r : Ru} (h : RuD r) : checkE r = 0 := by
  obtain ⟨t, n, s⟩ := r
  obtain ⟨h1, h2, h3⟩ := h
  dsimp only at h1 h2 h3
  rcases h1 with rfl | rfl <;> rcases h2 with rfl | rfl <;> rcases h3 with rfl | rfl <;> decide +kernel
/-- A token of the deck. -/
structure Tk (t : Str) : Prop where
  an : anTok t
  nn : num t = false
  le : t.length ≤ 8
theorem Tk.of {t : Str} (h1 : 1 ≤ t.length) (h2 : t.length ≤ 8) (h3 : ∀ x ∈ t, isLet x = true) : Tk t :=
  ⟨⟨fun e => (by rw [e] at h1; simp at h1), fun x hx => low_an (h3 x hx)⟩, num_low h3, h2⟩
theorem repl8 {r : Ru} (h : RuD r) {t : Str} (ht : t.length ≤ 8) : (replS r.s t).length ≤ 8 := by
  rcases replS_mem r.s t with ⟨e, _⟩ | ⟨p, hp, _, e⟩
  · rw [e]; exact ht
  · rw [e]
    have := h.s
    rcases this with e | e
    · rw [e] at hp; cases hp
    · rw [e] at hp
      exact (show ∀ p ∈ rS, p.2.length ≤ 8 by decide) p hp
/-- A number of the deck. -/
structure Nm (n : Str) : Prop where
  an : anTok n
  nn : num n = true
  le : n.length ≤ 2
  fx : shortS n = n
def nmB (n : Str) : Bool := decide (n ≠ []) && n.all isAn && num n && decide (n.length ≤ 2) && decide (shortS n = n)
theorem Nm.of {n : Str} (h : nmB n = true) : Nm n := by
  simp only [nmB, Bool.and_eq_true, decide_eq_true_eq, List.all_eq_true] at h
  exact ⟨⟨h.1.1.1.1, h.1.1.1.2⟩, h.1.1.2, h.1.2, h.2⟩
theorem nm_all : ∀ n ∈ [[49,50],[51,98],[55],[49,48],[48]], Nm n := fun n hn => Nm.of (List.all_eq_true.1 (by decide +kernel : ([[49,50],[51,98],[55],[49,48],[48]] : List Str).all nmB = true) n hn)
theorem nm_four : ∀ n ∈ [[49,50],[51,98],[55],[48]], Nm n := fun n hn => nm_all n (by
  simp only [List.mem_cons, List.not_mem_nil, or_false] at hn ⊢
  rcases hn with h | h | h | h <;> simp [h])
/-- Tokens with what is made of them. -/
theorem join_law {r : Ru} (hc : checkE r = 0) {L M : List Str} (h1 : ∀ t ∈ L, anTok t) (h2 : (joinS [32] L).length ≤ 64) (h3 : addrL r L = M) (h4 : M.length ≤ 6) (h5 : (joinS [32] M).length ≤ 64) :
    addrE r (joinS [32] L) = 0 ∧ addrO r (joinS [32] L) = joinS [32] M ∧ toks (joinS [32] M) = M := by
  have hf := fixed_fold (an_fixed h1) h2
  have hT : addrT r (joinS [32] L) = M := by
    show addrL r (toks (foldO (joinS [32] L))) = M
    rw [hf.2, toks_join _ fun t ht => (h1 t ht).tok, h3]
  have := addrE_ok (s := joinS [32] L) hc hf.1 (by rw [hT]; omega) (by rw [hT]; omega)
  refine ⟨this.1.symm, by rw [← this.2, hT], toks_join _ fun t ht => ?_⟩
  rw [← h3] at ht
  exact (addr_an hc h1 t ht).tok
theorem all3 {p : Str → Prop} {a b c : Str} (ha : p a) (hb : p b) (hc : p c) : ∀ t ∈ [a, b, c], p t := fun t ht => by
  simp only [List.mem_cons, List.not_mem_nil, or_false] at ht
  rcases ht with h | h | h <;> rw [h] <;> assumption
theorem j3 (a b c : Str) : joinS [32] [a, b, c] = a ++ [32] ++ b ++ [32] ++ c := by simp [joinS, tailS]
theorem moves_law {r : Ru} (h : RuD r) {a b n : Str} (ha : Tk a) (hb : Tk b) (hn : Nm n) (w : Str) (hw : w = n ++ [32] ++ a ++ [32] ++ b ∨ w = a ++ [32] ++ n ++ [32] ++ b ∨ w = a ++ [32] ++ b ++ [32] ++ n) :
    addrE r w = 0 ∧ addrO r w = replS r.s a ++ [32] ++ replS r.s b ++ [32] ++ n ∧ numberS (addrO r w) = n ∧ streetS (addrO r w) = replS r.s a ++ [32] ++ replS r.s b := by
  have hc := deck_ck h
  have ra := repl8 h ha.le
  have rb := repl8 h hb.le
  have la := ha.le
  have lb := hb.le
  have ln := hn.le
  have key : ∀ L : List Str, (∀ t ∈ L, anTok t) → (joinS [32] L).length ≤ 64 → addrL r L = [replS r.s a, replS r.s b, n] → addrE r (joinS [32] L) = 0 ∧ addrO r (joinS [32] L) = replS r.s a ++ [32] ++ replS r.s b ++ [32] ++ n ∧ numberS (addrO r (joinS [32] L)) = n ∧ streetS (addrO r (joinS [32] L)) = replS r.s a ++ [32] ++ replS r.s b := fun L h1 h2 h3 => by
    obtain ⟨e1, e2, e3⟩ := join_law hc h1 h2 h3 (by simp) (by rw [j3]; simp; omega)
    rw [e2, numberS, streetS, e3, ← j3]
    have na := num_repl hc ha.nn
    have nb := num_repl hc hb.nn
    refine ⟨e1, rfl, ?_, ?_⟩
    · simp [numbers, na, nb, hn.nn]
    · simp [others, notNum, na, nb, hn.nn, joinS, tailS]
  rcases hw with rfl | rfl | rfl
  · rw [← j3]
    exact key _ (all3 hn.an ha.an hb.an) (by rw [j3]; simp; omega) (by simp [addrL, others, numbers, notNum, ha.nn, hb.nn, hn.nn, hn.fx])
  · rw [← j3]
    exact key _ (all3 ha.an hn.an hb.an) (by rw [j3]; simp; omega) (by simp [addrL, others, numbers, notNum, ha.nn, hb.nn, hn.nn, hn.fx])
  · rw [← j3]
    exact key _ (all3 ha.an hb.an hn.an) (by rw [j3]; simp; omega) (by simp [addrL, others, numbers, notNum, ha.nn, hb.nn, hn.nn, hn.fx])
theorem norm_is {r : Ru} {s w : Str} (hr : Ru.ok r) (hs : s.length ≤ 10000) (h : addrE r s = 0 ∧ addrO r s = w) : Ct Tryd.prog 14 [ruD r, .str s] fun q outs => q = .tup [.str w, i64 0] ∧ outs = [] :=
  (norm_ct r s hr hs).mono fun q outs e => ⟨by rw [e.1, h.1, h.2], e.2⟩
theorem number_is {s w : Str} (hs : s.length ≤ 10000) (h : numberS s = w) : Ct Tryd.prog 16 [.str s] fun q outs => q = .str w ∧ outs = [] :=
  (number_ct s hs).mono fun q outs e => ⟨by rw [e.1, h], e.2⟩
theorem street_is {s w : Str} (hs : s.length ≤ 10000) (h : streetS s = w) : Ct Tryd.prog 17 [.str s] fun q outs => q = .str w ∧ outs = [] :=
  (street_ct s hs).mono fun q outs e => ⟨by rw [e.1, h], e.2⟩
theorem moves_ct (l : List Int) : Ct Tryd.prog 3 [ints l] fun q _ => Yes q := by
  refine .of_W (fn := Tryd.f3) hΓ hm Tryd.func3 ord3 [] (by kernel_rfl) (Step.out ?_)
  repeat' first
    | (refine Step.mk ?_; conv => whnf)
    | (refine Vc.om ?_ ?_; first | omega | with_reducible rfl | with_reducible exact same_rfl | (simp only [bytes_2, bytes_3, bytes_4, bytes_5, bytes_9, bytes_12, bytes_21, bytes_22, bytes_25, bytes_27, bytes_28, bytes_29, bytes_30, bytes_34, bytes_45, bytes_49, bytes_50, bytes_51, bytes_52, bytes_53, bytes_54, bytes_64, bytes_67, bytes_68, bytes_73, bytes_75, bytes_76, bytes_77, bytes_92, bytes_93, bytes_94, bytes_95, bytes_98, bytes_102, bytes_112, bytes_123, bytes_129]; omega))
    | (refine NilB.mk fun b hb => Step.out ?_)
    | with_reducible trivial
    | exact noSh_bool _
    | exact noSh_lit _
    | exact noSh_int _ _
    | exact noSh_str _
    | with_reducible rfl
    | with_reducible exact same_rfl
    | (refine Wr.i64 ?_ ?_; omega)
    | (refine Wr.u8 ?_ ?_; omega)
    | (refine Wr.i32 ?_ ?_; omega)
    | (with_reducible refine Br.tt ?_)
    | (with_reducible refine Br.ff ?_)
    | (refine Br.dT ?_ ?_; omega)
    | (refine Br.dF ?_ ?_; omega)
    | (exact .inl rfl)
    | (exact .inr rfl)
    | (refine Vc.om ?_ ?_; focus ((have := Nm.le ‹_›; simp only [List.length_append, List.length_cons, List.length_nil]; omega); done))
    | (refine Wr.i64 ?_ ?_; focus ((have := Nm.le ‹_›; simp only [List.length_append, List.length_cons, List.length_nil]; omega); done))
    | (refine Wr.u8 ?_ ?_; focus ((have := Nm.le ‹_›; simp only [List.length_append, List.length_cons, List.length_nil]; omega); done))
    | (refine Br.dT ?_ ?_; focus ((have := Nm.le ‹_›; simp only [List.length_append, List.length_cons, List.length_nil]; omega); done))
    | (refine Br.dF ?_ ?_; focus ((have := Nm.le ‹_›; simp only [List.length_append, List.length_cons, List.length_nil]; omega); done))
    | (refine Met.by (picksP_ct Nm _ [[49,50],[51,98],[55],[48]] nm_four (by first | omega | decide | (simp; done) | (simp; omega)) (by first | omega | decide | (simp; done) | (simp; omega))) ?_; rintro q outs ⟨n, d, hn, rfl, rfl⟩)
    | (refine Br.d (fun h => ?_) (fun h => ?_))
    | (refine Br.swap ?_)
    | (refine Br.bnot ?_)
    | (refine Br.mk (fun h => Step.out ?_) (fun h => Step.out ?_))
    | (refine Two.mk (Step.out ?_) (Step.out ?_))
    | (refine CallOK.io1 (g := 11) (Step.out ?_))
    | (refine CallOK.io1 (g := 12) (Step.out ?_))
    | (refine CallOK.io1F (g := 13) (Step.out ?_))
    | (refine CallOK.of_ct (Step.out ?_))
    | (refine Met.by (g := 8) (awake_ct) ?_; rintro q outs ⟨rfl, rfl⟩)
    | (refine Met.by (g := 9) (few_ct _) ?_; rintro q outs ⟨rfl, rfl⟩)
    | (refine Met.by (g := 10) (new_ct _ (by assumption)) ?_; rintro q outs ⟨d, hd, rfl, rfl⟩)
    | (refine Met.by (g := 11) (rules_ct _) ?_; rintro q outs ⟨r, d, hr, rfl, rfl⟩)
    | (refine Met.by (g := 12) (token_ct _) ?_; rintro q outs ⟨x, d, ⟨hx1, hx2, hx3⟩, rfl, rfl⟩)
    | (refine Met.by (g := 13) (picks_ct _ [] (by first | omega | decide | (simp; done) | (simp; omega)) (by first | omega | decide | (simp; done) | (simp; omega))) ?_; rintro q outs ⟨x, d, hx, rfl, rfl⟩)
    | (refine Met.by (g := 14) (norm_ct _ _ (by assumption) (by first | omega | decide | (simp; done) | (simp; omega))) ?_; rintro q outs ⟨rfl, rfl⟩)
    | (refine Met.by (g := 15) (rreplace_ct _ _ (by first | omega | decide | (simp; done) | (simp; omega))) ?_; rintro q outs ⟨rfl, rfl⟩)
    | (refine Met.by (g := 16) (number_ct _ (by first | omega | decide | (simp; done) | (simp; omega))) ?_; rintro q outs ⟨rfl, rfl⟩)
    | (refine Met.by (g := 17) (street_ct _ (by first | omega | decide | (simp; done) | (simp; omega))) ?_; rintro q outs ⟨rfl, rfl⟩)
    | (refine Vc.mk ?_ (Step.out ?_))
  rename_i x0 _ hy1 hy2 hy3 _
  have ha := Tk.of hy1 hy2 hy3
  have hb := Tk.of hx1 hx2 hx3
  have ln := hn.le
  have hok := hr.ok
  have hrs := hok.s
  have ra := repl8 hr ha.le
  have rb := repl8 hr hb.le
  have m1 := moves_law hr ha hb hn _ (.inl rfl)
  have m2 := moves_law hr ha hb hn _ (.inr (.inl rfl))
  have m3 := moves_law hr ha hb hn _ (.inr (.inr rfl))
  have m4 := m1.2.2
  rw [m1.2.1] at m4
  repeat' first
    | (refine Step.mk ?_; conv => whnf)
    | (refine Vc.om ?_ ?_; first | omega | with_reducible rfl | with_reducible exact same_rfl | (simp only [bytes_2, bytes_3, bytes_4, bytes_5, bytes_9, bytes_12, bytes_21, bytes_22, bytes_25, bytes_27, bytes_28, bytes_29, bytes_30, bytes_34, bytes_45, bytes_49, bytes_50, bytes_51, bytes_52, bytes_53, bytes_54, bytes_64, bytes_67, bytes_68, bytes_73, bytes_75, bytes_76, bytes_77, bytes_92, bytes_93, bytes_94, bytes_95, bytes_98, bytes_102, bytes_112, bytes_123, bytes_129]; omega))
    | (refine NilB.mk fun b hb => Step.out ?_)
    | with_reducible trivial
    | exact noSh_bool _
    | exact noSh_lit _
    | exact noSh_int _ _
    | exact noSh_str _
    | with_reducible rfl
    | with_reducible exact same_rfl
    | (refine Wr.i64 ?_ ?_; omega)
    | (refine Wr.u8 ?_ ?_; omega)
    | (refine Wr.i32 ?_ ?_; omega)
    | (with_reducible refine Br.tt ?_)
    | (with_reducible refine Br.ff ?_)
    | (refine Br.dT ?_ ?_; omega)
    | (refine Br.dF ?_ ?_; omega)
    | (refine Vc.om ?_ ?_; focus ((simp only [List.length_append, List.length_cons, List.length_nil]; omega); done))
    | (refine Wr.i64 ?_ ?_; focus ((simp only [List.length_append, List.length_cons, List.length_nil]; omega); done))
    | (refine Wr.u8 ?_ ?_; focus ((simp only [List.length_append, List.length_cons, List.length_nil]; omega); done))
    | (refine Br.dT ?_ ?_; focus ((simp only [List.length_append, List.length_cons, List.length_nil]; omega); done))
    | (refine Br.dF ?_ ?_; focus ((simp only [List.length_append, List.length_cons, List.length_nil]; omega); done))
    | (refine Met.by (norm_is hok (by simp only [List.length_append, List.length_cons, List.length_nil]; omega) ⟨m1.1, m1.2.1⟩) ?_; rintro q outs ⟨rfl, rfl⟩)
    | (refine Met.by (norm_is hok (by simp only [List.length_append, List.length_cons, List.length_nil]; omega) ⟨m2.1, m2.2.1⟩) ?_; rintro q outs ⟨rfl, rfl⟩)
    | (refine Met.by (norm_is hok (by simp only [List.length_append, List.length_cons, List.length_nil]; omega) ⟨m3.1, m3.2.1⟩) ?_; rintro q outs ⟨rfl, rfl⟩)
    | (refine Met.by (number_is (by simp only [List.length_append, List.length_cons, List.length_nil]; omega) m4.1) ?_; rintro q outs ⟨rfl, rfl⟩)
    | (refine Met.by (street_is (by simp only [List.length_append, List.length_cons, List.length_nil]; omega) m4.2) ?_; rintro q outs ⟨rfl, rfl⟩)
    | (refine Br.sameT ?_)
    | (exact .inl (congrArg D.bool (decide_eq_true rfl)))
    | (refine Br.d (fun h => ?_) (fun h => ?_))
    | (refine Br.swap ?_)
    | (refine Br.bnot ?_)
    | (refine Br.mk (fun h => Step.out ?_) (fun h => Step.out ?_))
    | (refine Two.mk (Step.out ?_) (Step.out ?_))
    | (refine CallOK.io1 (g := 11) (Step.out ?_))
    | (refine CallOK.io1 (g := 12) (Step.out ?_))
    | (refine CallOK.io1F (g := 13) (Step.out ?_))
    | (refine CallOK.of_ct (Step.out ?_))
    | (refine Met.by (g := 8) (awake_ct) ?_; rintro q outs ⟨rfl, rfl⟩)
    | (refine Met.by (g := 9) (few_ct _) ?_; rintro q outs ⟨rfl, rfl⟩)
    | (refine Met.by (g := 10) (new_ct _ (by assumption)) ?_; rintro q outs ⟨d, hd, rfl, rfl⟩)
    | (refine Met.by (g := 11) (rules_ct _) ?_; rintro q outs ⟨r, d, hr, rfl, rfl⟩)
    | (refine Met.by (g := 12) (token_ct _) ?_; rintro q outs ⟨x, d, ⟨hx1, hx2, hx3⟩, rfl, rfl⟩)
    | (refine Met.by (g := 13) (picks_ct _ [] (by first | omega | decide | (simp; done) | (simp; omega)) (by first | omega | decide | (simp; done) | (simp; omega))) ?_; rintro q outs ⟨x, d, hx, rfl, rfl⟩)
    | (refine Met.by (g := 14) (norm_ct _ _ (by assumption) (by first | omega | decide | (simp; done) | (simp; omega))) ?_; rintro q outs ⟨rfl, rfl⟩)
    | (refine Met.by (g := 15) (rreplace_ct _ _ (by first | omega | decide | (simp; done) | (simp; omega))) ?_; rintro q outs ⟨rfl, rfl⟩)
    | (refine Met.by (g := 16) (number_ct _ (by first | omega | decide | (simp; done) | (simp; omega))) ?_; rintro q outs ⟨rfl, rfl⟩)
    | (refine Met.by (g := 17) (street_ct _ (by first | omega | decide | (simp; done) | (simp; omega))) ?_; rintro q outs ⟨rfl, rfl⟩)
    | (refine Vc.mk ?_ (Step.out ?_))
def r0 : Ru := ⟨[], [], []⟩
theorem r0_two {g : FuncId} {s : Str} {R : D → List D → Prop} (H : Ct Tryd.prog g [ruD r0, .str s] R) : Ct Tryd.prog g [.agg [.nil, .nil, .nil], .str s] R :=
  H.arg ⟨rfl, ⟨rfl, rfl, rfl, trivial⟩, rfl, trivial⟩
theorem all2 {p : Str → Prop} {a b : Str} (ha : p a) (hb : p b) : ∀ t ∈ [a, b], p t := fun t ht => by
  simp only [List.mem_cons, List.not_mem_nil, or_false] at ht
  rcases ht with h | h <;> rw [h] <;> assumption
theorem j2 (a b : Str) : joinS [32] [a, b] = a ++ [32] ++ b := by simp [joinS, tailS]
theorem zeros_law {t s n : Str} (ht : Tk t) (hs : anTok s) (hsn : num s = true) (hl : s.length ≤ 25) (hn : Nm n) (h : shortS s = n) : addrE r0 (t ++ [32] ++ s) = 0 ∧ addrO r0 (t ++ [32] ++ s) = t ++ [32] ++ n ∧ numberS (t ++ [32] ++ n) = n := by
  have lt := ht.le
  have ln := hn.le
  have e : ∀ u : Str, replS r0.s u = u := fun u => replS_id rfl
  obtain ⟨e1, e2, e3⟩ := join_law (r := r0) (L := [t, s]) (M := [t, n]) (by decide +kernel) (all2 ht.an hs) (by rw [j2]; simp; omega) (by simp [addrL, others, numbers, notNum, ht.nn, hsn, h, e]) (by simp) (by rw [j2]; simp; omega)
  rw [j2] at e1 e2 e3
  rw [j2] at e2
  refine ⟨e1, e2, ?_⟩
  rw [numberS, e3]
  simp [numbers, ht.nn, hn.nn]
theorem zeros_ct (l : List Int) (z : Int) (hz : 0 ≤ z ∧ z ≤ 255) : Ct Tryd.prog 4 [ints l, u8 z] fun q _ => Yes q := by
  have hm1 : 0 ≤ z.tmod 20 := Int.tmod_nonneg 20 hz.1
  have hm2 : z.tmod 20 < 20 := Int.tmod_lt_of_pos z (by decide)
  refine .of_W (fn := Tryd.f4) hΓ hm Tryd.func4 [] [] (by kernel_rfl) (Step.out ?_)
  repeat' first
    | (refine Step.mk ?_; conv => whnf)
    | (refine Vc.om ?_ ?_; first | omega | with_reducible rfl | with_reducible exact same_rfl | (simp only [bytes_2, bytes_3, bytes_4, bytes_5, bytes_9, bytes_12, bytes_21, bytes_22, bytes_25, bytes_27, bytes_28, bytes_29, bytes_30, bytes_34, bytes_45, bytes_49, bytes_50, bytes_51, bytes_52, bytes_53, bytes_54, bytes_64, bytes_67, bytes_68, bytes_73, bytes_75, bytes_76, bytes_77, bytes_92, bytes_93, bytes_94, bytes_95, bytes_98, bytes_102, bytes_112, bytes_123, bytes_129]; omega))
    | (refine NilB.mk fun b hb => Step.out ?_)
    | with_reducible trivial
    | exact noSh_bool _
    | exact noSh_lit _
    | exact noSh_int _ _
    | exact noSh_str _
    | with_reducible rfl
    | with_reducible exact same_rfl
    | (refine Wr.i64 ?_ ?_; omega)
    | (refine Wr.u8 ?_ ?_; omega)
    | (refine Wr.i32 ?_ ?_; omega)
    | (with_reducible refine Br.tt ?_)
    | (with_reducible refine Br.ff ?_)
    | (refine Br.dT ?_ ?_; omega)
    | (refine Br.dF ?_ ?_; omega)
    | (exact .inl rfl)
    | (exact .inr rfl)
    | (refine Met.by (picksP_ct Nm _ [[49,50],[51,98],[55],[49,48],[48]] nm_all (by first | omega | decide | (simp; done) | (simp; omega)) (by first | omega | decide | (simp; done) | (simp; omega))) ?_; rintro q outs ⟨n, d, hn, rfl, rfl⟩)
    | (refine Br.d (fun h => ?_) (fun h => ?_))
    | (refine Br.swap ?_)
    | (refine Br.bnot ?_)
    | (refine Br.mk (fun h => Step.out ?_) (fun h => Step.out ?_))
    | (refine Two.mk (Step.out ?_) (Step.out ?_))
    | (refine CallOK.io1 (g := 12) (Step.out ?_))
    | (refine CallOK.io1F (g := 13) (Step.out ?_))
    | (refine CallOK.of_ct (Step.out ?_))
    | (refine Met.by (g := 8) (awake_ct) ?_; rintro q outs ⟨rfl, rfl⟩)
    | (refine Met.by (g := 9) (few_ct _) ?_; rintro q outs ⟨rfl, rfl⟩)
    | (refine Met.by (g := 10) (new_ct _ (by assumption)) ?_; rintro q outs ⟨d, hd, rfl, rfl⟩)
    | (refine Met.by (g := 12) (token_ct _) ?_; rintro q outs ⟨x, d, ⟨hx1, hx2, hx3⟩, rfl, rfl⟩)
    | (refine Met.by (g := 13) (picks_ct _ [] (by first | omega | decide | (simp; done) | (simp; omega)) (by first | omega | decide | (simp; done) | (simp; omega))) ?_; rintro q outs ⟨x, d, hx, rfl, rfl⟩)
    | (refine Met.by (g := 14) (norm_ct _ _ (by assumption) (by first | omega | decide | (simp; done) | (simp; omega))) ?_; rintro q outs ⟨rfl, rfl⟩)
    | (refine Met.by (g := 16) (number_ct _ (by first | omega | decide | (simp; done) | (simp; omega))) ?_; rintro q outs ⟨rfl, rfl⟩)
    | (refine Vc.mk ?_ (Step.out ?_))
  refine CodeOK.loopW hΓ hm [] [] (by kernel_rfl) (α := Str × Int) (fun y => [(5, .loc 0 0), (6, .str n), (7, .str y.1), (8, i64 y.2)]) (fun y => [(0, .var d.ls)]) 1 (fun y => 0 ≤ y.2 ∧ y.1.length + y.2 ≤ 21 ∧ shortS y.1 = n ∧ num y.1 = true ∧ (∀ x ∈ y.1, isAn x = true)) (fun y => y.2.toNat) ?_ ?_
  · refine Again.by (n, z.tmod 20) ⟨hm1, by have := hn.le; dsimp only; omega, hn.fx, hn.nn, hn.an.2⟩ ?_
    repeat' first
      | (refine Step.mk ?_; conv => whnf)
      | (refine Vc.om ?_ ?_; first | omega | with_reducible rfl | with_reducible exact same_rfl | (simp only [bytes_2, bytes_3, bytes_4, bytes_5, bytes_9, bytes_12, bytes_21, bytes_22, bytes_25, bytes_27, bytes_28, bytes_29, bytes_30, bytes_34, bytes_45, bytes_49, bytes_50, bytes_51, bytes_52, bytes_53, bytes_54, bytes_64, bytes_67, bytes_68, bytes_73, bytes_75, bytes_76, bytes_77, bytes_92, bytes_93, bytes_94, bytes_95, bytes_98, bytes_102, bytes_112, bytes_123, bytes_129]; omega))
      | (refine NilB.mk fun b hb => Step.out ?_)
      | with_reducible trivial
      | exact noSh_bool _
      | exact noSh_lit _
      | exact noSh_int _ _
      | exact noSh_str _
      | with_reducible rfl
      | with_reducible exact same_rfl
      | (refine Wr.i64 ?_ ?_; omega)
      | (refine Wr.u8 ?_ ?_; omega)
      | (refine Wr.i32 ?_ ?_; omega)
      | (with_reducible refine Br.tt ?_)
      | (with_reducible refine Br.ff ?_)
      | (refine Br.dT ?_ ?_; omega)
      | (refine Br.dF ?_ ?_; omega)
      | (refine Br.d (fun h => ?_) (fun h => ?_))
      | (refine Br.swap ?_)
      | (refine Br.bnot ?_)
      | (refine Br.mk (fun h => Step.out ?_) (fun h => Step.out ?_))
      | (refine Two.mk (Step.out ?_) (Step.out ?_))
      | (refine CallOK.io1 (g := 12) (Step.out ?_))
      | (refine CallOK.io1F (g := 13) (Step.out ?_))
      | (refine CallOK.of_ct (Step.out ?_))
      | (refine Met.by (g := 8) (awake_ct) ?_; rintro q outs ⟨rfl, rfl⟩)
      | (refine Met.by (g := 9) (few_ct _) ?_; rintro q outs ⟨rfl, rfl⟩)
      | (refine Met.by (g := 10) (new_ct _ (by assumption)) ?_; rintro q outs ⟨d, hd, rfl, rfl⟩)
      | (refine Met.by (g := 12) (token_ct _) ?_; rintro q outs ⟨x, d, ⟨hx1, hx2, hx3⟩, rfl, rfl⟩)
      | (refine Met.by (g := 13) (picks_ct _ [] (by first | omega | decide | (simp; done) | (simp; omega)) (by first | omega | decide | (simp; done) | (simp; omega))) ?_; rintro q outs ⟨x, d, hx, rfl, rfl⟩)
      | (refine Met.by (g := 14) (norm_ct _ _ (by assumption) (by first | omega | decide | (simp; done) | (simp; omega))) ?_; rintro q outs ⟨rfl, rfl⟩)
      | (refine Met.by (g := 16) (number_ct _ (by first | omega | decide | (simp; done) | (simp; omega))) ?_; rintro q outs ⟨rfl, rfl⟩)
      | (refine Vc.mk ?_ (Step.out ?_))
  · intro ⟨s, k⟩ ⟨h1, h2, h3, h4, h5⟩
    dsimp only at h1 h2 h3 h4 h5 ⊢
    have hse : s ≠ [] := fun e => (by rw [e] at h4; cases h4)
    repeat' first
      | (refine Step.mk ?_; conv => whnf)
      | (refine Vc.om ?_ ?_; first | omega | with_reducible rfl | with_reducible exact same_rfl | (simp only [bytes_2, bytes_3, bytes_4, bytes_5, bytes_9, bytes_12, bytes_21, bytes_22, bytes_25, bytes_27, bytes_28, bytes_29, bytes_30, bytes_34, bytes_45, bytes_49, bytes_50, bytes_51, bytes_52, bytes_53, bytes_54, bytes_64, bytes_67, bytes_68, bytes_73, bytes_75, bytes_76, bytes_77, bytes_92, bytes_93, bytes_94, bytes_95, bytes_98, bytes_102, bytes_112, bytes_123, bytes_129]; omega))
      | (refine NilB.mk fun b hb => Step.out ?_)
      | with_reducible trivial
      | exact noSh_bool _
      | exact noSh_lit _
      | exact noSh_int _ _
      | exact noSh_str _
      | with_reducible rfl
      | with_reducible exact same_rfl
      | (refine Wr.i64 ?_ ?_; omega)
      | (refine Wr.u8 ?_ ?_; omega)
      | (refine Wr.i32 ?_ ?_; omega)
      | (with_reducible refine Br.tt ?_)
      | (with_reducible refine Br.ff ?_)
      | (refine Br.dT ?_ ?_; omega)
      | (refine Br.dF ?_ ?_; omega)
      | (refine Vc.om ?_ ?_; focus ((simp only [List.length_append, List.length_cons, List.length_nil]; omega); done))
      | (refine Wr.i64 ?_ ?_; focus ((simp only [List.length_append, List.length_cons, List.length_nil]; omega); done))
      | (refine Wr.u8 ?_ ?_; focus ((simp only [List.length_append, List.length_cons, List.length_nil]; omega); done))
      | (refine Br.dT ?_ ?_; focus ((simp only [List.length_append, List.length_cons, List.length_nil]; omega); done))
      | (refine Br.dF ?_ ?_; focus ((simp only [List.length_append, List.length_cons, List.length_nil]; omega); done))
      | (refine Br.d (fun h => ?_) (fun h => ?_))
      | (refine Br.swap ?_)
      | (refine Br.bnot ?_)
      | (refine Br.mk (fun h => Step.out ?_) (fun h => Step.out ?_))
      | (refine Two.mk (Step.out ?_) (Step.out ?_))
      | (refine CallOK.io1 (g := 12) (Step.out ?_))
      | (refine CallOK.io1F (g := 13) (Step.out ?_))
      | (refine CallOK.of_ct (Step.out ?_))
      | (refine Met.by (g := 8) (awake_ct) ?_; rintro q outs ⟨rfl, rfl⟩)
      | (refine Met.by (g := 9) (few_ct _) ?_; rintro q outs ⟨rfl, rfl⟩)
      | (refine Met.by (g := 10) (new_ct _ (by assumption)) ?_; rintro q outs ⟨d, hd, rfl, rfl⟩)
      | (refine Met.by (g := 12) (token_ct _) ?_; rintro q outs ⟨x, d, ⟨hx1, hx2, hx3⟩, rfl, rfl⟩)
      | (refine Met.by (g := 13) (picks_ct _ [] (by first | omega | decide | (simp; done) | (simp; omega)) (by first | omega | decide | (simp; done) | (simp; omega))) ?_; rintro q outs ⟨x, d, hx, rfl, rfl⟩)
      | (refine Met.by (g := 14) (norm_ct _ _ (by assumption) (by first | omega | decide | (simp; done) | (simp; omega))) ?_; rintro q outs ⟨rfl, rfl⟩)
      | (refine Met.by (g := 16) (number_ct _ (by first | omega | decide | (simp; done) | (simp; omega))) ?_; rintro q outs ⟨rfl, rfl⟩)
      | (refine Vc.mk ?_ (Step.out ?_))
    · refine Again.by ([48] ++ s, k - 1) ⟨⟨by dsimp only; omega, by simp only [List.length_append, List.length_cons, List.length_nil]; omega, ?_, rfl, ?_⟩, by dsimp only; omega⟩ ?_
      · rw [short_step (s := [48] ++ s) rfl (by simp; exact List.length_pos_iff.2 hse) (by simpa using h4)]; simp only [List.cons_append, List.nil_append, List.drop_succ_cons, List.drop_zero]; exact h3
      · intro x hx
        rcases List.mem_append.1 hx with hx | hx
        · rw [List.mem_singleton.1 hx]; rfl
        · exact h5 x hx
      · repeat' first
          | (refine Step.mk ?_; conv => whnf)
          | (refine Vc.om ?_ ?_; first | omega | with_reducible rfl | with_reducible exact same_rfl | (simp only [bytes_2, bytes_3, bytes_4, bytes_5, bytes_9, bytes_12, bytes_21, bytes_22, bytes_25, bytes_27, bytes_28, bytes_29, bytes_30, bytes_34, bytes_45, bytes_49, bytes_50, bytes_51, bytes_52, bytes_53, bytes_54, bytes_64, bytes_67, bytes_68, bytes_73, bytes_75, bytes_76, bytes_77, bytes_92, bytes_93, bytes_94, bytes_95, bytes_98, bytes_102, bytes_112, bytes_123, bytes_129]; omega))
          | (refine NilB.mk fun b hb => Step.out ?_)
          | with_reducible trivial
          | exact noSh_bool _
          | exact noSh_lit _
          | exact noSh_int _ _
          | exact noSh_str _
          | with_reducible rfl
          | with_reducible exact same_rfl
          | (refine Wr.i64 ?_ ?_; omega)
          | (refine Wr.u8 ?_ ?_; omega)
          | (refine Wr.i32 ?_ ?_; omega)
          | (with_reducible refine Br.tt ?_)
          | (with_reducible refine Br.ff ?_)
          | (refine Br.dT ?_ ?_; omega)
          | (refine Br.dF ?_ ?_; omega)
          | (refine Br.d (fun h => ?_) (fun h => ?_))
          | (refine Br.swap ?_)
          | (refine Br.bnot ?_)
          | (refine Br.mk (fun h => Step.out ?_) (fun h => Step.out ?_))
          | (refine Two.mk (Step.out ?_) (Step.out ?_))
          | (refine CallOK.io1 (g := 12) (Step.out ?_))
          | (refine CallOK.io1F (g := 13) (Step.out ?_))
          | (refine CallOK.of_ct (Step.out ?_))
          | (refine Met.by (g := 8) (awake_ct) ?_; rintro q outs ⟨rfl, rfl⟩)
          | (refine Met.by (g := 9) (few_ct _) ?_; rintro q outs ⟨rfl, rfl⟩)
          | (refine Met.by (g := 10) (new_ct _ (by assumption)) ?_; rintro q outs ⟨d, hd, rfl, rfl⟩)
          | (refine Met.by (g := 12) (token_ct _) ?_; rintro q outs ⟨x, d, ⟨hx1, hx2, hx3⟩, rfl, rfl⟩)
          | (refine Met.by (g := 13) (picks_ct _ [] (by first | omega | decide | (simp; done) | (simp; omega)) (by first | omega | decide | (simp; done) | (simp; omega))) ?_; rintro q outs ⟨x, d, hx, rfl, rfl⟩)
          | (refine Met.by (g := 14) (norm_ct _ _ (by assumption) (by first | omega | decide | (simp; done) | (simp; omega))) ?_; rintro q outs ⟨rfl, rfl⟩)
          | (refine Met.by (g := 16) (number_ct _ (by first | omega | decide | (simp; done) | (simp; omega))) ?_; rintro q outs ⟨rfl, rfl⟩)
          | (refine Vc.mk ?_ (Step.out ?_))
    · obtain ⟨m1, m2, m3⟩ := zeros_law (Tk.of hx1 hx2 hx3) ⟨hse, h5⟩ h4 (by omega) hn h3
      have ln := hn.le
      repeat' first
        | (refine Step.mk ?_; conv => whnf)
        | (refine Vc.om ?_ ?_; first | omega | with_reducible rfl | with_reducible exact same_rfl | (simp only [bytes_2, bytes_3, bytes_4, bytes_5, bytes_9, bytes_12, bytes_21, bytes_22, bytes_25, bytes_27, bytes_28, bytes_29, bytes_30, bytes_34, bytes_45, bytes_49, bytes_50, bytes_51, bytes_52, bytes_53, bytes_54, bytes_64, bytes_67, bytes_68, bytes_73, bytes_75, bytes_76, bytes_77, bytes_92, bytes_93, bytes_94, bytes_95, bytes_98, bytes_102, bytes_112, bytes_123, bytes_129]; omega))
        | (refine NilB.mk fun b hb => Step.out ?_)
        | with_reducible trivial
        | exact noSh_bool _
        | exact noSh_lit _
        | exact noSh_int _ _
        | exact noSh_str _
        | with_reducible rfl
        | with_reducible exact same_rfl
        | (refine Wr.i64 ?_ ?_; omega)
        | (refine Wr.u8 ?_ ?_; omega)
        | (refine Wr.i32 ?_ ?_; omega)
        | (with_reducible refine Br.tt ?_)
        | (with_reducible refine Br.ff ?_)
        | (refine Br.dT ?_ ?_; omega)
        | (refine Br.dF ?_ ?_; omega)
        | (refine Met.by (r0_two (norm_is (r := r0) ⟨by decide, by decide, by decide⟩ (by simp only [List.length_append, List.length_cons, List.length_nil]; omega) ⟨m1, m2⟩)) ?_; rintro q outs ⟨rfl, rfl⟩)
        | (refine Met.by (number_is (by simp only [List.length_append, List.length_cons, List.length_nil]; omega) m3) ?_; rintro q outs ⟨rfl, rfl⟩)
        | (exact .inl (congrArg D.bool (decide_eq_true rfl)))
        | (refine Br.d (fun h => ?_) (fun h => ?_))
        | (refine Br.swap ?_)
        | (refine Br.bnot ?_)
        | (refine Br.mk (fun h => Step.out ?_) (fun h => Step.out ?_))
        | (refine Two.mk (Step.out ?_) (Step.out ?_))
        | (refine CallOK.io1 (g := 12) (Step.out ?_))
        | (refine CallOK.io1F (g := 13) (Step.out ?_))
        | (refine CallOK.of_ct (Step.out ?_))
        | (refine Met.by (g := 8) (awake_ct) ?_; rintro q outs ⟨rfl, rfl⟩)
        | (refine Met.by (g := 9) (few_ct _) ?_; rintro q outs ⟨rfl, rfl⟩)
        | (refine Met.by (g := 10) (new_ct _ (by assumption)) ?_; rintro q outs ⟨d, hd, rfl, rfl⟩)
        | (refine Met.by (g := 12) (token_ct _) ?_; rintro q outs ⟨x, d, ⟨hx1, hx2, hx3⟩, rfl, rfl⟩)
        | (refine Met.by (g := 13) (picks_ct _ [] (by first | omega | decide | (simp; done) | (simp; omega)) (by first | omega | decide | (simp; done) | (simp; omega))) ?_; rintro q outs ⟨x, d, hx, rfl, rfl⟩)
        | (refine Met.by (g := 14) (norm_ct _ _ (by assumption) (by first | omega | decide | (simp; done) | (simp; omega))) ?_; rintro q outs ⟨rfl, rfl⟩)
        | (refine Met.by (g := 16) (number_ct _ (by first | omega | decide | (simp; done) | (simp; omega))) ?_; rintro q outs ⟨rfl, rfl⟩)
        | (refine Vc.mk ?_ (Step.out ?_))
/-! ### Codes -/
def sepC (q : Str) : Bool := decide (q.length ≤ 1) && q.all isPrn && decide ((q.flatMap plainS).filter notSp = [])
theorem sepC_all : ∀ q ∈ [[],[],[32],[45]], sepC q = true := by decide +kernel
def oneC (p : Str) : Bool := decide (p.length = 1) && p.all isAn
theorem oneC_all : ∀ q ∈ [[97],[98],[122],[48],[55]], oneC q = true := by decide +kernel
theorem an_plain {x : UInt8} (h : isAn x = true) : isPrn x = true ∧ plainS x = [x] ∧ notSp x = true := by
  obtain ⟨a, b⟩ := plain_an x (.inl h)
  exact ⟨b, a, by rw [notSp, decide_eq_false (an_ne h)]; rfl⟩
/-- A code, dressed as far as i. -/
structure CodI (c o : Str) (i : Nat) : Prop where
  le : i ≤ c.length
  ln : o.length ≤ 2 * i
  pr : ∀ y ∈ o, isPrn y = true
  eq : (o.flatMap plainS).filter notSp = c.take i
theorem CodI.step {c o q p : Str} {i : Nat} (H : CodI c o i) (hc : ∀ x ∈ c, isAn x = true) (hi : i < c.length) (hp : p = [c.getD i 0] ∨ (p = [65] ∧ c.getD i 0 = 97)) (hq : sepC q = true) : CodI c (o ++ (p ++ q)) (i + 1) := by
  simp only [sepC, Bool.and_eq_true, decide_eq_true_eq, List.all_eq_true] at hq
  obtain ⟨⟨q1, q2⟩, q3⟩ := hq
  obtain ⟨a1, a2, a3⟩ := an_plain (hc _ (getD_in (z := 0) hi))
  have hl : p.length = 1 := by rcases hp with rfl | ⟨rfl, _⟩ <;> rfl
  have hpr : ∀ y ∈ p, isPrn y = true := fun y hy => by
    rcases hp with rfl | ⟨rfl, _⟩
    · rw [List.mem_singleton.1 hy]; exact a1
    · rw [List.mem_singleton.1 hy]; decide
  have hpe : p.flatMap plainS = [c.getD i 0] := by
    rcases hp with rfl | ⟨rfl, e⟩
    · rw [List.flatMap_cons, a2]; rfl
    · rw [e]; decide
  refine ⟨hi, by simp only [List.length_append]; have := H.ln; omega, fun y hy => ?_, ?_⟩
  · rcases List.mem_append.1 hy with hy | hy
    · exact H.pr y hy
    · rcases List.mem_append.1 hy with hy | hy
      · exact hpr y hy
      · exact q2 y hy
  · rw [List.flatMap_append, List.flatMap_append, List.filter_append, List.filter_append, H.eq, q3, hpe, List.append_nil, take_step c 0 i hi, List.filter_cons_of_pos a3]; rfl
theorem join_flat {l : List Str} (h : tokL l) : (joinS [32] l).filter notSp = l.flatten := by
  have hf : ∀ t ∈ l, t.filter notSp = t := fun t ht => List.filter_eq_self.2 fun x hx => by
    rw [notSp, decide_eq_false ((h t ht).2 x hx)]; rfl
  have key : ∀ m : List Str, (∀ t ∈ m, t.filter notSp = t) → (tailS [32] m).filter notSp = m.flatten := fun m => by
    induction m with
    | nil => intro _; rfl
    | cons t m ih =>
      intro hm
      have e : tailS [32] (t :: m) = 32 :: (t ++ tailS [32] m) := by simp [tailS]
      rw [e, List.filter_cons_of_neg (by decide), List.filter_append, hm t (by simp), ih fun u hu => hm u (by simp [hu])]; simp
  match l, hf with
  | [], _ => rfl
  | t :: l, hf =>
    unfold joinS
    rw [List.filter_append, hf t (by simp), key l fun u hu => hf u (by simp [hu])]; simp
theorem codes_law {c o : Str} (hc : ∀ x ∈ c, isAn x = true) (hl : c.length ≤ 14) (H : CodI c o c.length) : foldE o = 0 ∧ codeT o = c := by
  have hv := rawL_prn o H.pr
  have ho := H.ln
  have hV : validS o = true := by rw [validS, hv.1, decide_eq_true (by omega)]; rfl
  have hF : foldO o = foldS o := by rw [foldO, if_pos hV]
  refine ⟨by rw [foldE, if_pos hV], ?_⟩
  rw [codeT, hF, foldS, join_flat (toks_tokL _), toks, toksF_flat, List.nil_append, hv.2, H.eq, List.take_length]
theorem code_is {s w : Str} {e : Int} (hs : s.length ≤ 10000) (h : codeE s = e ∧ codeO s = w) : Ct Tryd.prog 20 [.str s] fun q outs => q = .tup [.str w, i64 e] ∧ outs = [] :=
  (code_ct s hs).mono fun q outs k => ⟨by rw [k.1, h.1, h.2], k.2⟩
theorem oneC_of {p : Str} (h : oneC p = true) : p.length = 1 ∧ ∀ x ∈ p, isAn x = true := by
  simpa [oneC] using h
theorem sepC_of {p : Str} (h : sepC p = true) : p.length ≤ 1 := by
  simp only [sepC, Bool.and_eq_true, decide_eq_true_eq] at h
  exact h.1.1
theorem one97 {x : UInt8} (h : [x] = [97]) : x = 97 := by simpa using h
theorem codes_ct (l : List Int) : Ct Tryd.prog 5 [ints l] fun q _ => Yes q := by
  refine .of_W (fn := Tryd.f5) hΓ hm Tryd.func5 [] [] (by kernel_rfl) (Step.out ?_)
  repeat' first
    | (refine Step.mk ?_; conv => whnf)
    | (refine Vc.om ?_ ?_; first | omega | with_reducible rfl | with_reducible exact same_rfl | (simp only [bytes_2, bytes_3, bytes_4, bytes_5, bytes_9, bytes_12, bytes_21, bytes_22, bytes_25, bytes_27, bytes_28, bytes_29, bytes_30, bytes_34, bytes_45, bytes_49, bytes_50, bytes_51, bytes_52, bytes_53, bytes_54, bytes_64, bytes_67, bytes_68, bytes_73, bytes_75, bytes_76, bytes_77, bytes_92, bytes_93, bytes_94, bytes_95, bytes_98, bytes_102, bytes_112, bytes_123, bytes_129]; omega))
    | (refine NilB.mk fun b hb => Step.out ?_)
    | with_reducible trivial
    | exact noSh_bool _
    | exact noSh_lit _
    | exact noSh_int _ _
    | exact noSh_str _
    | with_reducible rfl
    | with_reducible exact same_rfl
    | (refine Wr.i64 ?_ ?_; omega)
    | (refine Wr.u8 ?_ ?_; omega)
    | (refine Wr.i32 ?_ ?_; omega)
    | (with_reducible refine Br.tt ?_)
    | (with_reducible refine Br.ff ?_)
    | (refine Br.dT ?_ ?_; omega)
    | (refine Br.dF ?_ ?_; omega)
    | (exact .inl rfl)
    | (exact .inr rfl)
    | (refine Br.d (fun h => ?_) (fun h => ?_))
    | (refine Br.swap ?_)
    | (refine Br.bnot ?_)
    | (refine Br.mk (fun h => Step.out ?_) (fun h => Step.out ?_))
    | (refine Two.mk (Step.out ?_) (Step.out ?_))
    | (refine CallOK.io1F (g := 13) (Step.out ?_))
    | (refine CallOK.io1 (g := 18) (Step.out ?_))
    | (refine CallOK.io1 (g := 19) (Step.out ?_))
    | (refine CallOK.of_ct (Step.out ?_))
    | (refine Met.by (g := 8) (awake_ct) ?_; rintro q outs ⟨rfl, rfl⟩)
    | (refine Met.by (g := 9) (few_ct _) ?_; rintro q outs ⟨rfl, rfl⟩)
    | (refine Met.by (g := 10) (new_ct _ (by assumption)) ?_; rintro q outs ⟨d, hd, rfl, rfl⟩)
    | (refine Met.by (g := 13) (picks_ct _ [] (by first | omega | decide | (simp; done) | (simp; omega)) (by first | omega | decide | (simp; done) | (simp; omega))) ?_; rintro q outs ⟨x, d, hx, rfl, rfl⟩)
    | (refine Met.by (g := 18) (next_ct _ _) ?_; rintro q outs ⟨x, d, hx, rfl, rfl⟩)
    | (refine Met.by (g := 19) (one_ct _ _) ?_; rintro q outs ⟨x, d, hx, rfl, rfl⟩)
    | (refine Met.by (g := 20) (none_here _) ?_; rintro q outs ⟨rfl, rfl⟩)
    | (refine Met.by (g := 21) (rletters_ct _ (by first | omega | decide | (simp; done) | (simp; omega))) ?_; rintro q outs ⟨rfl, rfl⟩)
    | (refine Vc.mk ?_ (Step.out ?_))
  refine CodeOK.loopW hΓ hm [] [] (by kernel_rfl) (α := Dk × Str × Int) (fun y => [(3, .loc 0 0), (4, .str y.2.1), (5, i64 y.2.2)]) (fun y => [(0, .var y.1.ls)]) 1 (fun y => 0 ≤ y.2.2 ∧ y.2.1.length + y.2.2 ≤ 14 ∧ (∀ x ∈ y.2.1, isAn x = true)) (fun y => y.2.2.toNat) ?_ ?_
  · refine Again.by (d, [], x) ⟨by dsimp only; omega, by simp; omega, nofun⟩ ?_
    repeat' first
      | (refine Step.mk ?_; conv => whnf)
      | (refine Vc.om ?_ ?_; first | omega | with_reducible rfl | with_reducible exact same_rfl | (simp only [bytes_2, bytes_3, bytes_4, bytes_5, bytes_9, bytes_12, bytes_21, bytes_22, bytes_25, bytes_27, bytes_28, bytes_29, bytes_30, bytes_34, bytes_45, bytes_49, bytes_50, bytes_51, bytes_52, bytes_53, bytes_54, bytes_64, bytes_67, bytes_68, bytes_73, bytes_75, bytes_76, bytes_77, bytes_92, bytes_93, bytes_94, bytes_95, bytes_98, bytes_102, bytes_112, bytes_123, bytes_129]; omega))
      | (refine NilB.mk fun b hb => Step.out ?_)
      | with_reducible trivial
      | exact noSh_bool _
      | exact noSh_lit _
      | exact noSh_int _ _
      | exact noSh_str _
      | with_reducible rfl
      | with_reducible exact same_rfl
      | (refine Wr.i64 ?_ ?_; omega)
      | (refine Wr.u8 ?_ ?_; omega)
      | (refine Wr.i32 ?_ ?_; omega)
      | (with_reducible refine Br.tt ?_)
      | (with_reducible refine Br.ff ?_)
      | (refine Br.dT ?_ ?_; omega)
      | (refine Br.dF ?_ ?_; omega)
      | (refine Br.d (fun h => ?_) (fun h => ?_))
      | (refine Br.swap ?_)
      | (refine Br.bnot ?_)
      | (refine Br.mk (fun h => Step.out ?_) (fun h => Step.out ?_))
      | (refine Two.mk (Step.out ?_) (Step.out ?_))
      | (refine CallOK.io1F (g := 13) (Step.out ?_))
      | (refine CallOK.io1 (g := 18) (Step.out ?_))
      | (refine CallOK.io1 (g := 19) (Step.out ?_))
      | (refine CallOK.of_ct (Step.out ?_))
      | (refine Met.by (g := 8) (awake_ct) ?_; rintro q outs ⟨rfl, rfl⟩)
      | (refine Met.by (g := 9) (few_ct _) ?_; rintro q outs ⟨rfl, rfl⟩)
      | (refine Met.by (g := 10) (new_ct _ (by assumption)) ?_; rintro q outs ⟨d, hd, rfl, rfl⟩)
      | (refine Met.by (g := 13) (picks_ct _ [] (by first | omega | decide | (simp; done) | (simp; omega)) (by first | omega | decide | (simp; done) | (simp; omega))) ?_; rintro q outs ⟨x, d, hx, rfl, rfl⟩)
      | (refine Met.by (g := 18) (next_ct _ _) ?_; rintro q outs ⟨x, d, hx, rfl, rfl⟩)
      | (refine Met.by (g := 19) (one_ct _ _) ?_; rintro q outs ⟨x, d, hx, rfl, rfl⟩)
      | (refine Met.by (g := 20) (none_here _) ?_; rintro q outs ⟨rfl, rfl⟩)
      | (refine Met.by (g := 21) (rletters_ct _ (by first | omega | decide | (simp; done) | (simp; omega))) ?_; rintro q outs ⟨rfl, rfl⟩)
      | (refine Vc.mk ?_ (Step.out ?_))
  · intro ⟨d, c, k⟩ ⟨h1, h2, h3⟩
    dsimp only at h1 h2 h3 ⊢
    repeat' first
      | (refine Step.mk ?_; conv => whnf)
      | (refine Vc.om ?_ ?_; first | omega | with_reducible rfl | with_reducible exact same_rfl | (simp only [bytes_2, bytes_3, bytes_4, bytes_5, bytes_9, bytes_12, bytes_21, bytes_22, bytes_25, bytes_27, bytes_28, bytes_29, bytes_30, bytes_34, bytes_45, bytes_49, bytes_50, bytes_51, bytes_52, bytes_53, bytes_54, bytes_64, bytes_67, bytes_68, bytes_73, bytes_75, bytes_76, bytes_77, bytes_92, bytes_93, bytes_94, bytes_95, bytes_98, bytes_102, bytes_112, bytes_123, bytes_129]; omega))
      | (refine NilB.mk fun b hb => Step.out ?_)
      | with_reducible trivial
      | exact noSh_bool _
      | exact noSh_lit _
      | exact noSh_int _ _
      | exact noSh_str _
      | with_reducible rfl
      | with_reducible exact same_rfl
      | (refine Wr.i64 ?_ ?_; omega)
      | (refine Wr.u8 ?_ ?_; omega)
      | (refine Wr.i32 ?_ ?_; omega)
      | (with_reducible refine Br.tt ?_)
      | (with_reducible refine Br.ff ?_)
      | (refine Br.dT ?_ ?_; omega)
      | (refine Br.dF ?_ ?_; omega)
      | (refine Met.by (picksP_ct (fun q => oneC q = true) _ [[97],[98],[122],[48],[55]] oneC_all (by first | omega | decide | (simp; done) | (simp; omega)) (by first | omega | decide | (simp; done) | (simp; omega))) ?_; rintro q outs ⟨p, d, hp, rfl, rfl⟩)
      | (refine Vc.om ?_ ?_; focus ((have := (oneC_of ‹_›).1; omega); done))
      | (refine Wr.i64 ?_ ?_; focus ((have := (oneC_of ‹_›).1; omega); done))
      | (refine Wr.u8 ?_ ?_; focus ((have := (oneC_of ‹_›).1; omega); done))
      | (refine Br.dT ?_ ?_; focus ((have := (oneC_of ‹_›).1; omega); done))
      | (refine Br.dF ?_ ?_; focus ((have := (oneC_of ‹_›).1; omega); done))
      | (refine Br.d (fun h => ?_) (fun h => ?_))
      | (refine Br.swap ?_)
      | (refine Br.bnot ?_)
      | (refine Br.mk (fun h => Step.out ?_) (fun h => Step.out ?_))
      | (refine Two.mk (Step.out ?_) (Step.out ?_))
      | (refine CallOK.io1F (g := 13) (Step.out ?_))
      | (refine CallOK.io1 (g := 18) (Step.out ?_))
      | (refine CallOK.io1 (g := 19) (Step.out ?_))
      | (refine CallOK.of_ct (Step.out ?_))
      | (refine Met.by (g := 8) (awake_ct) ?_; rintro q outs ⟨rfl, rfl⟩)
      | (refine Met.by (g := 9) (few_ct _) ?_; rintro q outs ⟨rfl, rfl⟩)
      | (refine Met.by (g := 10) (new_ct _ (by assumption)) ?_; rintro q outs ⟨d, hd, rfl, rfl⟩)
      | (refine Met.by (g := 13) (picks_ct _ [] (by first | omega | decide | (simp; done) | (simp; omega)) (by first | omega | decide | (simp; done) | (simp; omega))) ?_; rintro q outs ⟨x, d, hx, rfl, rfl⟩)
      | (refine Met.by (g := 18) (next_ct _ _) ?_; rintro q outs ⟨x, d, hx, rfl, rfl⟩)
      | (refine Met.by (g := 19) (one_ct _ _) ?_; rintro q outs ⟨x, d, hx, rfl, rfl⟩)
      | (refine Met.by (g := 20) (none_here _) ?_; rintro q outs ⟨rfl, rfl⟩)
      | (refine Met.by (g := 21) (rletters_ct _ (by first | omega | decide | (simp; done) | (simp; omega))) ?_; rintro q outs ⟨rfl, rfl⟩)
      | (refine Vc.mk ?_ (Step.out ?_))
    · obtain ⟨p1, p2⟩ := oneC_of hp
      refine Again.by (d, c ++ p, k - 1) ⟨⟨by dsimp only; omega, by simp only [List.length_append]; omega, fun x hx => ?_⟩, by dsimp only; omega⟩ ?_
      · rcases List.mem_append.1 hx with hx | hx
        · exact h3 x hx
        · exact p2 x hx
      · repeat' first
          | (refine Step.mk ?_; conv => whnf)
          | (refine Vc.om ?_ ?_; first | omega | with_reducible rfl | with_reducible exact same_rfl | (simp only [bytes_2, bytes_3, bytes_4, bytes_5, bytes_9, bytes_12, bytes_21, bytes_22, bytes_25, bytes_27, bytes_28, bytes_29, bytes_30, bytes_34, bytes_45, bytes_49, bytes_50, bytes_51, bytes_52, bytes_53, bytes_54, bytes_64, bytes_67, bytes_68, bytes_73, bytes_75, bytes_76, bytes_77, bytes_92, bytes_93, bytes_94, bytes_95, bytes_98, bytes_102, bytes_112, bytes_123, bytes_129]; omega))
          | (refine NilB.mk fun b hb => Step.out ?_)
          | with_reducible trivial
          | exact noSh_bool _
          | exact noSh_lit _
          | exact noSh_int _ _
          | exact noSh_str _
          | with_reducible rfl
          | with_reducible exact same_rfl
          | (refine Wr.i64 ?_ ?_; omega)
          | (refine Wr.u8 ?_ ?_; omega)
          | (refine Wr.i32 ?_ ?_; omega)
          | (with_reducible refine Br.tt ?_)
          | (with_reducible refine Br.ff ?_)
          | (refine Br.dT ?_ ?_; omega)
          | (refine Br.dF ?_ ?_; omega)
          | (refine Br.d (fun h => ?_) (fun h => ?_))
          | (refine Br.swap ?_)
          | (refine Br.bnot ?_)
          | (refine Br.mk (fun h => Step.out ?_) (fun h => Step.out ?_))
          | (refine Two.mk (Step.out ?_) (Step.out ?_))
          | (refine CallOK.io1F (g := 13) (Step.out ?_))
          | (refine CallOK.io1 (g := 18) (Step.out ?_))
          | (refine CallOK.io1 (g := 19) (Step.out ?_))
          | (refine CallOK.of_ct (Step.out ?_))
          | (refine Met.by (g := 8) (awake_ct) ?_; rintro q outs ⟨rfl, rfl⟩)
          | (refine Met.by (g := 9) (few_ct _) ?_; rintro q outs ⟨rfl, rfl⟩)
          | (refine Met.by (g := 10) (new_ct _ (by assumption)) ?_; rintro q outs ⟨d, hd, rfl, rfl⟩)
          | (refine Met.by (g := 13) (picks_ct _ [] (by first | omega | decide | (simp; done) | (simp; omega)) (by first | omega | decide | (simp; done) | (simp; omega))) ?_; rintro q outs ⟨x, d, hx, rfl, rfl⟩)
          | (refine Met.by (g := 18) (next_ct _ _) ?_; rintro q outs ⟨x, d, hx, rfl, rfl⟩)
          | (refine Met.by (g := 19) (one_ct _ _) ?_; rintro q outs ⟨x, d, hx, rfl, rfl⟩)
          | (refine Met.by (g := 20) (none_here _) ?_; rintro q outs ⟨rfl, rfl⟩)
          | (refine Met.by (g := 21) (rletters_ct _ (by first | omega | decide | (simp; done) | (simp; omega))) ?_; rintro q outs ⟨rfl, rfl⟩)
          | (refine Vc.mk ?_ (Step.out ?_))
    · have hl : c.length ≤ 14 := by omega
      refine CodeOK.loopW hΓ hm [] [] (by kernel_rfl) (α := Dk × Str × Nat) (fun y => [(3, .loc 0 0), (4, .str c), (6, .str y.2.1), (7, i64 y.2.2)]) (fun y => [(0, .var y.1.ls)]) 1 (fun y => CodI c y.2.1 y.2.2) (fun y => c.length - y.2.2) ?_ ?_
      · refine Again.by (d, [], 0) ⟨Nat.zero_le _, by simp, nofun, rfl⟩ ?_
        repeat' first
          | (refine Step.mk ?_; conv => whnf)
          | (refine Vc.om ?_ ?_; first | omega | with_reducible rfl | with_reducible exact same_rfl | (simp only [bytes_2, bytes_3, bytes_4, bytes_5, bytes_9, bytes_12, bytes_21, bytes_22, bytes_25, bytes_27, bytes_28, bytes_29, bytes_30, bytes_34, bytes_45, bytes_49, bytes_50, bytes_51, bytes_52, bytes_53, bytes_54, bytes_64, bytes_67, bytes_68, bytes_73, bytes_75, bytes_76, bytes_77, bytes_92, bytes_93, bytes_94, bytes_95, bytes_98, bytes_102, bytes_112, bytes_123, bytes_129]; omega))
          | (refine NilB.mk fun b hb => Step.out ?_)
          | with_reducible trivial
          | exact noSh_bool _
          | exact noSh_lit _
          | exact noSh_int _ _
          | exact noSh_str _
          | with_reducible rfl
          | with_reducible exact same_rfl
          | (refine Wr.i64 ?_ ?_; omega)
          | (refine Wr.u8 ?_ ?_; omega)
          | (refine Wr.i32 ?_ ?_; omega)
          | (with_reducible refine Br.tt ?_)
          | (with_reducible refine Br.ff ?_)
          | (refine Br.dT ?_ ?_; omega)
          | (refine Br.dF ?_ ?_; omega)
          | (refine Br.d (fun h => ?_) (fun h => ?_))
          | (refine Br.swap ?_)
          | (refine Br.bnot ?_)
          | (refine Br.mk (fun h => Step.out ?_) (fun h => Step.out ?_))
          | (refine Two.mk (Step.out ?_) (Step.out ?_))
          | (refine CallOK.io1F (g := 13) (Step.out ?_))
          | (refine CallOK.io1 (g := 18) (Step.out ?_))
          | (refine CallOK.io1 (g := 19) (Step.out ?_))
          | (refine CallOK.of_ct (Step.out ?_))
          | (refine Met.by (g := 8) (awake_ct) ?_; rintro q outs ⟨rfl, rfl⟩)
          | (refine Met.by (g := 9) (few_ct _) ?_; rintro q outs ⟨rfl, rfl⟩)
          | (refine Met.by (g := 10) (new_ct _ (by assumption)) ?_; rintro q outs ⟨d, hd, rfl, rfl⟩)
          | (refine Met.by (g := 13) (picks_ct _ [] (by first | omega | decide | (simp; done) | (simp; omega)) (by first | omega | decide | (simp; done) | (simp; omega))) ?_; rintro q outs ⟨x, d, hx, rfl, rfl⟩)
          | (refine Met.by (g := 18) (next_ct _ _) ?_; rintro q outs ⟨x, d, hx, rfl, rfl⟩)
          | (refine Met.by (g := 19) (one_ct _ _) ?_; rintro q outs ⟨x, d, hx, rfl, rfl⟩)
          | (refine Met.by (g := 20) (none_here _) ?_; rintro q outs ⟨rfl, rfl⟩)
          | (refine Met.by (g := 21) (rletters_ct _ (by first | omega | decide | (simp; done) | (simp; omega))) ?_; rintro q outs ⟨rfl, rfl⟩)
          | (refine Vc.mk ?_ (Step.out ?_))
      · intro ⟨d, o, i⟩ H
        dsimp only at H ⊢
        have h1 := H.le
        have h2 := H.ln
        have hA := fun h : (i : Int) < c.length => cut1 (s := c) (i := i) (by omega)
        repeat' first
          | (refine Step.mk ?_; conv => whnf)
          | (refine Vc.om ?_ ?_; first | omega | with_reducible rfl | with_reducible exact same_rfl | (simp only [bytes_2, bytes_3, bytes_4, bytes_5, bytes_9, bytes_12, bytes_21, bytes_22, bytes_25, bytes_27, bytes_28, bytes_29, bytes_30, bytes_34, bytes_45, bytes_49, bytes_50, bytes_51, bytes_52, bytes_53, bytes_54, bytes_64, bytes_67, bytes_68, bytes_73, bytes_75, bytes_76, bytes_77, bytes_92, bytes_93, bytes_94, bytes_95, bytes_98, bytes_102, bytes_112, bytes_123, bytes_129]; omega))
          | (refine NilB.mk fun b hb => Step.out ?_)
          | with_reducible trivial
          | exact noSh_bool _
          | exact noSh_lit _
          | exact noSh_int _ _
          | exact noSh_str _
          | with_reducible rfl
          | with_reducible exact same_rfl
          | (refine Wr.i64 ?_ ?_; omega)
          | (refine Wr.u8 ?_ ?_; omega)
          | (refine Wr.i32 ?_ ?_; omega)
          | (with_reducible refine Br.tt ?_)
          | (with_reducible refine Br.ff ?_)
          | (refine Br.dT ?_ ?_; omega)
          | (refine Br.dF ?_ ?_; omega)
          | (refine Met.by (picksP_ct (fun q => sepC q = true) _ [[],[],[32],[45]] sepC_all (by first | omega | decide | (simp; done) | (simp; omega)) (by first | omega | decide | (simp; done) | (simp; omega))) ?_; rintro q outs ⟨q, d, hq, rfl, rfl⟩)
          | (refine Vc.om ?_ ?_; focus ((have := sepC_of ‹_›; simp only [List.length_append, List.length_cons, List.length_nil]; omega); done))
          | (refine Wr.i64 ?_ ?_; focus ((have := sepC_of ‹_›; simp only [List.length_append, List.length_cons, List.length_nil]; omega); done))
          | (refine Wr.u8 ?_ ?_; focus ((have := sepC_of ‹_›; simp only [List.length_append, List.length_cons, List.length_nil]; omega); done))
          | (refine Br.dT ?_ ?_; focus ((have := sepC_of ‹_›; simp only [List.length_append, List.length_cons, List.length_nil]; omega); done))
          | (refine Br.dF ?_ ?_; focus ((have := sepC_of ‹_›; simp only [List.length_append, List.length_cons, List.length_nil]; omega); done))
          | (refine Vc.om ?_ ?_; focus ((rw [cut1 (by omega)]; have := sepC_of ‹_›; simp only [List.length_append, List.length_cons, List.length_nil]; omega); done))
          | (refine Wr.i64 ?_ ?_; focus ((rw [cut1 (by omega)]; have := sepC_of ‹_›; simp only [List.length_append, List.length_cons, List.length_nil]; omega); done))
          | (refine Wr.u8 ?_ ?_; focus ((rw [cut1 (by omega)]; have := sepC_of ‹_›; simp only [List.length_append, List.length_cons, List.length_nil]; omega); done))
          | (refine Br.dT ?_ ?_; focus ((rw [cut1 (by omega)]; have := sepC_of ‹_›; simp only [List.length_append, List.length_cons, List.length_nil]; omega); done))
          | (refine Br.dF ?_ ?_; focus ((rw [cut1 (by omega)]; have := sepC_of ‹_›; simp only [List.length_append, List.length_cons, List.length_nil]; omega); done))
          | (refine Br.d (fun h => ?_) (fun h => ?_))
          | (refine Br.swap ?_)
          | (refine Br.bnot ?_)
          | (refine Br.mk (fun h => Step.out ?_) (fun h => Step.out ?_))
          | (refine Two.mk (Step.out ?_) (Step.out ?_))
          | (refine CallOK.io1F (g := 13) (Step.out ?_))
          | (refine CallOK.io1 (g := 18) (Step.out ?_))
          | (refine CallOK.io1 (g := 19) (Step.out ?_))
          | (refine CallOK.of_ct (Step.out ?_))
          | (refine Met.by (g := 8) (awake_ct) ?_; rintro q outs ⟨rfl, rfl⟩)
          | (refine Met.by (g := 9) (few_ct _) ?_; rintro q outs ⟨rfl, rfl⟩)
          | (refine Met.by (g := 10) (new_ct _ (by assumption)) ?_; rintro q outs ⟨d, hd, rfl, rfl⟩)
          | (refine Met.by (g := 13) (picks_ct _ [] (by first | omega | decide | (simp; done) | (simp; omega)) (by first | omega | decide | (simp; done) | (simp; omega))) ?_; rintro q outs ⟨x, d, hx, rfl, rfl⟩)
          | (refine Met.by (g := 18) (next_ct _ _) ?_; rintro q outs ⟨x, d, hx, rfl, rfl⟩)
          | (refine Met.by (g := 19) (one_ct _ _) ?_; rintro q outs ⟨x, d, hx, rfl, rfl⟩)
          | (refine Met.by (g := 20) (none_here _) ?_; rintro q outs ⟨rfl, rfl⟩)
          | (refine Met.by (g := 21) (rletters_ct _ (by first | omega | decide | (simp; done) | (simp; omega))) ?_; rintro q outs ⟨rfl, rfl⟩)
          | (refine Vc.mk ?_ (Step.out ?_))
        · refine Again.by (d, o ++ ([65] ++ q), i + 1) ⟨H.step h3 (by omega) (.inr ⟨rfl, one97 ((hA ‹_›).symm.trans ‹_›)⟩) hq, by dsimp only; omega⟩ ?_
          repeat' first
            | (refine Step.mk ?_; conv => whnf)
            | (refine Vc.om ?_ ?_; first | omega | with_reducible rfl | with_reducible exact same_rfl | (simp only [bytes_2, bytes_3, bytes_4, bytes_5, bytes_9, bytes_12, bytes_21, bytes_22, bytes_25, bytes_27, bytes_28, bytes_29, bytes_30, bytes_34, bytes_45, bytes_49, bytes_50, bytes_51, bytes_52, bytes_53, bytes_54, bytes_64, bytes_67, bytes_68, bytes_73, bytes_75, bytes_76, bytes_77, bytes_92, bytes_93, bytes_94, bytes_95, bytes_98, bytes_102, bytes_112, bytes_123, bytes_129]; omega))
            | (refine NilB.mk fun b hb => Step.out ?_)
            | with_reducible trivial
            | exact noSh_bool _
            | exact noSh_lit _
            | exact noSh_int _ _
            | exact noSh_str _
            | with_reducible rfl
            | with_reducible exact same_rfl
            | (refine Wr.i64 ?_ ?_; omega)
            | (refine Wr.u8 ?_ ?_; omega)
            | (refine Wr.i32 ?_ ?_; omega)
            | (with_reducible refine Br.tt ?_)
            | (with_reducible refine Br.ff ?_)
            | (refine Br.dT ?_ ?_; omega)
            | (refine Br.dF ?_ ?_; omega)
            | (refine Br.d (fun h => ?_) (fun h => ?_))
            | (refine Br.swap ?_)
            | (refine Br.bnot ?_)
            | (refine Br.mk (fun h => Step.out ?_) (fun h => Step.out ?_))
            | (refine Two.mk (Step.out ?_) (Step.out ?_))
            | (refine CallOK.io1F (g := 13) (Step.out ?_))
            | (refine CallOK.io1 (g := 18) (Step.out ?_))
            | (refine CallOK.io1 (g := 19) (Step.out ?_))
            | (refine CallOK.of_ct (Step.out ?_))
            | (refine Met.by (g := 8) (awake_ct) ?_; rintro q outs ⟨rfl, rfl⟩)
            | (refine Met.by (g := 9) (few_ct _) ?_; rintro q outs ⟨rfl, rfl⟩)
            | (refine Met.by (g := 10) (new_ct _ (by assumption)) ?_; rintro q outs ⟨d, hd, rfl, rfl⟩)
            | (refine Met.by (g := 13) (picks_ct _ [] (by first | omega | decide | (simp; done) | (simp; omega)) (by first | omega | decide | (simp; done) | (simp; omega))) ?_; rintro q outs ⟨x, d, hx, rfl, rfl⟩)
            | (refine Met.by (g := 18) (next_ct _ _) ?_; rintro q outs ⟨x, d, hx, rfl, rfl⟩)
            | (refine Met.by (g := 19) (one_ct _ _) ?_; rintro q outs ⟨x, d, hx, rfl, rfl⟩)
            | (refine Met.by (g := 20) (none_here _) ?_; rintro q outs ⟨rfl, rfl⟩)
            | (refine Met.by (g := 21) (rletters_ct _ (by first | omega | decide | (simp; done) | (simp; omega))) ?_; rintro q outs ⟨rfl, rfl⟩)
            | (refine Vc.mk ?_ (Step.out ?_))
        · rw [hA ‹_›]
          refine Again.by (d, o ++ ([c.getD i 0] ++ q), i + 1) ⟨H.step h3 (by omega) (.inl rfl) hq, by dsimp only; omega⟩ ?_
          repeat' first
            | (refine Step.mk ?_; conv => whnf)
            | (refine Vc.om ?_ ?_; first | omega | with_reducible rfl | with_reducible exact same_rfl | (simp only [bytes_2, bytes_3, bytes_4, bytes_5, bytes_9, bytes_12, bytes_21, bytes_22, bytes_25, bytes_27, bytes_28, bytes_29, bytes_30, bytes_34, bytes_45, bytes_49, bytes_50, bytes_51, bytes_52, bytes_53, bytes_54, bytes_64, bytes_67, bytes_68, bytes_73, bytes_75, bytes_76, bytes_77, bytes_92, bytes_93, bytes_94, bytes_95, bytes_98, bytes_102, bytes_112, bytes_123, bytes_129]; omega))
            | (refine NilB.mk fun b hb => Step.out ?_)
            | with_reducible trivial
            | exact noSh_bool _
            | exact noSh_lit _
            | exact noSh_int _ _
            | exact noSh_str _
            | with_reducible rfl
            | with_reducible exact same_rfl
            | (refine Wr.i64 ?_ ?_; omega)
            | (refine Wr.u8 ?_ ?_; omega)
            | (refine Wr.i32 ?_ ?_; omega)
            | (with_reducible refine Br.tt ?_)
            | (with_reducible refine Br.ff ?_)
            | (refine Br.dT ?_ ?_; omega)
            | (refine Br.dF ?_ ?_; omega)
            | (refine Br.d (fun h => ?_) (fun h => ?_))
            | (refine Br.swap ?_)
            | (refine Br.bnot ?_)
            | (refine Br.mk (fun h => Step.out ?_) (fun h => Step.out ?_))
            | (refine Two.mk (Step.out ?_) (Step.out ?_))
            | (refine CallOK.io1F (g := 13) (Step.out ?_))
            | (refine CallOK.io1 (g := 18) (Step.out ?_))
            | (refine CallOK.io1 (g := 19) (Step.out ?_))
            | (refine CallOK.of_ct (Step.out ?_))
            | (refine Met.by (g := 8) (awake_ct) ?_; rintro q outs ⟨rfl, rfl⟩)
            | (refine Met.by (g := 9) (few_ct _) ?_; rintro q outs ⟨rfl, rfl⟩)
            | (refine Met.by (g := 10) (new_ct _ (by assumption)) ?_; rintro q outs ⟨d, hd, rfl, rfl⟩)
            | (refine Met.by (g := 13) (picks_ct _ [] (by first | omega | decide | (simp; done) | (simp; omega)) (by first | omega | decide | (simp; done) | (simp; omega))) ?_; rintro q outs ⟨x, d, hx, rfl, rfl⟩)
            | (refine Met.by (g := 18) (next_ct _ _) ?_; rintro q outs ⟨x, d, hx, rfl, rfl⟩)
            | (refine Met.by (g := 19) (one_ct _ _) ?_; rintro q outs ⟨x, d, hx, rfl, rfl⟩)
            | (refine Met.by (g := 20) (none_here _) ?_; rintro q outs ⟨rfl, rfl⟩)
            | (refine Met.by (g := 21) (rletters_ct _ (by first | omega | decide | (simp; done) | (simp; omega))) ?_; rintro q outs ⟨rfl, rfl⟩)
            | (refine Vc.mk ?_ (Step.out ?_))
        · rw [hA ‹_›]
          refine Again.by (d, o ++ ([c.getD i 0] ++ q), i + 1) ⟨H.step h3 (by omega) (.inl rfl) hq, by dsimp only; omega⟩ ?_
          repeat' first
            | (refine Step.mk ?_; conv => whnf)
            | (refine Vc.om ?_ ?_; first | omega | with_reducible rfl | with_reducible exact same_rfl | (simp only [bytes_2, bytes_3, bytes_4, bytes_5, bytes_9, bytes_12, bytes_21, bytes_22, bytes_25, bytes_27, bytes_28, bytes_29, bytes_30, bytes_34, bytes_45, bytes_49, bytes_50, bytes_51, bytes_52, bytes_53, bytes_54, bytes_64, bytes_67, bytes_68, bytes_73, bytes_75, bytes_76, bytes_77, bytes_92, bytes_93, bytes_94, bytes_95, bytes_98, bytes_102, bytes_112, bytes_123, bytes_129]; omega))
            | (refine NilB.mk fun b hb => Step.out ?_)
            | with_reducible trivial
            | exact noSh_bool _
            | exact noSh_lit _
            | exact noSh_int _ _
            | exact noSh_str _
            | with_reducible rfl
            | with_reducible exact same_rfl
            | (refine Wr.i64 ?_ ?_; omega)
            | (refine Wr.u8 ?_ ?_; omega)
            | (refine Wr.i32 ?_ ?_; omega)
            | (with_reducible refine Br.tt ?_)
            | (with_reducible refine Br.ff ?_)
            | (refine Br.dT ?_ ?_; omega)
            | (refine Br.dF ?_ ?_; omega)
            | (refine Br.d (fun h => ?_) (fun h => ?_))
            | (refine Br.swap ?_)
            | (refine Br.bnot ?_)
            | (refine Br.mk (fun h => Step.out ?_) (fun h => Step.out ?_))
            | (refine Two.mk (Step.out ?_) (Step.out ?_))
            | (refine CallOK.io1F (g := 13) (Step.out ?_))
            | (refine CallOK.io1 (g := 18) (Step.out ?_))
            | (refine CallOK.io1 (g := 19) (Step.out ?_))
            | (refine CallOK.of_ct (Step.out ?_))
            | (refine Met.by (g := 8) (awake_ct) ?_; rintro q outs ⟨rfl, rfl⟩)
            | (refine Met.by (g := 9) (few_ct _) ?_; rintro q outs ⟨rfl, rfl⟩)
            | (refine Met.by (g := 10) (new_ct _ (by assumption)) ?_; rintro q outs ⟨d, hd, rfl, rfl⟩)
            | (refine Met.by (g := 13) (picks_ct _ [] (by first | omega | decide | (simp; done) | (simp; omega)) (by first | omega | decide | (simp; done) | (simp; omega))) ?_; rintro q outs ⟨x, d, hx, rfl, rfl⟩)
            | (refine Met.by (g := 18) (next_ct _ _) ?_; rintro q outs ⟨x, d, hx, rfl, rfl⟩)
            | (refine Met.by (g := 19) (one_ct _ _) ?_; rintro q outs ⟨x, d, hx, rfl, rfl⟩)
            | (refine Met.by (g := 20) (none_here _) ?_; rintro q outs ⟨rfl, rfl⟩)
            | (refine Met.by (g := 21) (rletters_ct _ (by first | omega | decide | (simp; done) | (simp; omega))) ?_; rintro q outs ⟨rfl, rfl⟩)
            | (refine Vc.mk ?_ (Step.out ?_))
        · obtain ⟨k1, k2⟩ := codes_law h3 hl (show CodI c o c.length by rw [show c.length = i by omega]; exact H)
          by_cases h12 : (12 : Int) < c.length
          · have hc := codeE_big k1 (by rw [k2]; exact h12)
            repeat' first
              | (refine Step.mk ?_; conv => whnf)
              | (refine Vc.om ?_ ?_; first | omega | with_reducible rfl | with_reducible exact same_rfl | (simp only [bytes_2, bytes_3, bytes_4, bytes_5, bytes_9, bytes_12, bytes_21, bytes_22, bytes_25, bytes_27, bytes_28, bytes_29, bytes_30, bytes_34, bytes_45, bytes_49, bytes_50, bytes_51, bytes_52, bytes_53, bytes_54, bytes_64, bytes_67, bytes_68, bytes_73, bytes_75, bytes_76, bytes_77, bytes_92, bytes_93, bytes_94, bytes_95, bytes_98, bytes_102, bytes_112, bytes_123, bytes_129]; omega))
              | (refine NilB.mk fun b hb => Step.out ?_)
              | with_reducible trivial
              | exact noSh_bool _
              | exact noSh_lit _
              | exact noSh_int _ _
              | exact noSh_str _
              | with_reducible rfl
              | with_reducible exact same_rfl
              | (refine Wr.i64 ?_ ?_; omega)
              | (refine Wr.u8 ?_ ?_; omega)
              | (refine Wr.i32 ?_ ?_; omega)
              | (with_reducible refine Br.tt ?_)
              | (with_reducible refine Br.ff ?_)
              | (refine Br.dT ?_ ?_; omega)
              | (refine Br.dF ?_ ?_; omega)
              | (refine Met.by (code_is (by omega) ⟨hc.1.symm, hc.2.symm⟩) ?_; rintro q outs ⟨rfl, rfl⟩)
              | (exact .inl (congrArg D.bool (decide_eq_true rfl)))
              | (refine Br.d (fun h => ?_) (fun h => ?_))
              | (refine Br.swap ?_)
              | (refine Br.bnot ?_)
              | (refine Br.mk (fun h => Step.out ?_) (fun h => Step.out ?_))
              | (refine Two.mk (Step.out ?_) (Step.out ?_))
              | (refine CallOK.io1F (g := 13) (Step.out ?_))
              | (refine CallOK.io1 (g := 18) (Step.out ?_))
              | (refine CallOK.io1 (g := 19) (Step.out ?_))
              | (refine CallOK.of_ct (Step.out ?_))
              | (refine Met.by (g := 8) (awake_ct) ?_; rintro q outs ⟨rfl, rfl⟩)
              | (refine Met.by (g := 9) (few_ct _) ?_; rintro q outs ⟨rfl, rfl⟩)
              | (refine Met.by (g := 10) (new_ct _ (by assumption)) ?_; rintro q outs ⟨d, hd, rfl, rfl⟩)
              | (refine Met.by (g := 13) (picks_ct _ [] (by first | omega | decide | (simp; done) | (simp; omega)) (by first | omega | decide | (simp; done) | (simp; omega))) ?_; rintro q outs ⟨x, d, hx, rfl, rfl⟩)
              | (refine Met.by (g := 18) (next_ct _ _) ?_; rintro q outs ⟨x, d, hx, rfl, rfl⟩)
              | (refine Met.by (g := 19) (one_ct _ _) ?_; rintro q outs ⟨x, d, hx, rfl, rfl⟩)
              | (refine Met.by (g := 20) (none_here _) ?_; rintro q outs ⟨rfl, rfl⟩)
              | (refine Met.by (g := 21) (rletters_ct _ (by first | omega | decide | (simp; done) | (simp; omega))) ?_; rintro q outs ⟨rfl, rfl⟩)
              | (refine Vc.mk ?_ (Step.out ?_))
          · have hc := codeE_ok k1 (by rw [k2]; exact h12)
            rw [k2] at hc
            repeat' first
              | (refine Step.mk ?_; conv => whnf)
              | (refine Vc.om ?_ ?_; first | omega | with_reducible rfl | with_reducible exact same_rfl | (simp only [bytes_2, bytes_3, bytes_4, bytes_5, bytes_9, bytes_12, bytes_21, bytes_22, bytes_25, bytes_27, bytes_28, bytes_29, bytes_30, bytes_34, bytes_45, bytes_49, bytes_50, bytes_51, bytes_52, bytes_53, bytes_54, bytes_64, bytes_67, bytes_68, bytes_73, bytes_75, bytes_76, bytes_77, bytes_92, bytes_93, bytes_94, bytes_95, bytes_98, bytes_102, bytes_112, bytes_123, bytes_129]; omega))
              | (refine NilB.mk fun b hb => Step.out ?_)
              | with_reducible trivial
              | exact noSh_bool _
              | exact noSh_lit _
              | exact noSh_int _ _
              | exact noSh_str _
              | with_reducible rfl
              | with_reducible exact same_rfl
              | (refine Wr.i64 ?_ ?_; omega)
              | (refine Wr.u8 ?_ ?_; omega)
              | (refine Wr.i32 ?_ ?_; omega)
              | (with_reducible refine Br.tt ?_)
              | (with_reducible refine Br.ff ?_)
              | (refine Br.dT ?_ ?_; omega)
              | (refine Br.dF ?_ ?_; omega)
              | (refine Met.by (code_is (by omega) ⟨hc.1.symm, hc.2.symm⟩) ?_; rintro q outs ⟨rfl, rfl⟩)
              | (refine Met.by (rletters_ct c (by omega)) ?_; rintro q outs ⟨rfl, rfl⟩)
              | (refine Br.sameT ?_)
              | (exact .inl (congrArg D.bool (decide_eq_true rfl)))
              | (refine Br.d (fun h => ?_) (fun h => ?_))
              | (refine Br.swap ?_)
              | (refine Br.bnot ?_)
              | (refine Br.mk (fun h => Step.out ?_) (fun h => Step.out ?_))
              | (refine Two.mk (Step.out ?_) (Step.out ?_))
              | (refine CallOK.io1F (g := 13) (Step.out ?_))
              | (refine CallOK.io1 (g := 18) (Step.out ?_))
              | (refine CallOK.io1 (g := 19) (Step.out ?_))
              | (refine CallOK.of_ct (Step.out ?_))
              | (refine Met.by (g := 8) (awake_ct) ?_; rintro q outs ⟨rfl, rfl⟩)
              | (refine Met.by (g := 9) (few_ct _) ?_; rintro q outs ⟨rfl, rfl⟩)
              | (refine Met.by (g := 10) (new_ct _ (by assumption)) ?_; rintro q outs ⟨d, hd, rfl, rfl⟩)
              | (refine Met.by (g := 13) (picks_ct _ [] (by first | omega | decide | (simp; done) | (simp; omega)) (by first | omega | decide | (simp; done) | (simp; omega))) ?_; rintro q outs ⟨x, d, hx, rfl, rfl⟩)
              | (refine Met.by (g := 18) (next_ct _ _) ?_; rintro q outs ⟨x, d, hx, rfl, rfl⟩)
              | (refine Met.by (g := 19) (one_ct _ _) ?_; rintro q outs ⟨x, d, hx, rfl, rfl⟩)
              | (refine Met.by (g := 20) (none_here _) ?_; rintro q outs ⟨rfl, rfl⟩)
              | (refine Met.by (g := 21) (rletters_ct _ (by first | omega | decide | (simp; done) | (simp; omega))) ?_; rintro q outs ⟨rfl, rfl⟩)
              | (refine Vc.mk ?_ (Step.out ?_))
end Kx
