/-
  The statements on doubled and silent letters, on the shape of codes, on keys.
  No condition beyond those written in each theorem.
-/
import Derived.Test.YtlachocloaeejaaKLa
open Go Sx Go.Proofs
set_option linter.unusedSimpArgs false
set_option linter.unusedVariables false
namespace Kx
theorem right_tok {s : Str} (h1 : 1 ≤ s.length) (h2 : s.length ≤ 64) (h3 : ∀ x ∈ s, isLet x = true) : rightB s = true := by
  have e : letters s = s := List.filter_eq_self.2 h3
  have e0 : s ≠ [] := fun k => by rw [k] at h1; simp at h1
  simp only [rightB, e, e0, decide_false, Bool.not_false, Bool.true_and, decide_true, Bool.and_true, decide_eq_true_eq]
  omega
theorem sdx_cons {x : UInt8} {l : Str} (h2 : (x :: l).length ≤ 64) (h3 : ∀ y ∈ x :: l, isLet y = true) : sdx (x :: l) = pad4 (sdxL [x] (dig x) l) := by
  rw [sdx, if_pos (right_tok (by simp) h2 h3)]; rfl
theorem skl_cons {x : UInt8} {l : Str} (h2 : (x :: l).length ≤ 64) (h3 : ∀ y ∈ x :: l, isLet y = true) : skl (x :: l) = sklL [x] l := by
  rw [skl, if_pos (right_tok (by simp) h2 h3)]; rfl
theorem stepS_again (o : Str) (d c : UInt8) : stepS (stepS o d c).1 (stepS o d c).2 c = stepS o d c := by
  unfold stepS
  by_cases h1 : dig c = 45
  · simp [h1]
  · by_cases h2 : dig c ≠ 32 ∧ dig c ≠ d
    · simp [h1, h2]
    · simp only [h1, h2, if_false]
      simp
theorem sdxL_step1 (o : Str) (d c : UInt8) (l : Str) : sdxL o d (c :: l) = if o.length < 4 then sdxL (stepS o d c).1 (stepS o d c).2 l else o := rfl
theorem sdxL_same (o : Str) (d c : UInt8) (l : Str) (h : stepS o d c = (o, d)) : sdxL o d (c :: l) = sdxL o d l := by
  rw [sdxL_step1, h]
  split
  · rfl
  · exact (sdxL_end o d l (.inr ‹_›)).symm
theorem sdxL_dbl (c : UInt8) (r : Str) : ∀ (a : Str) (o : Str) (d : UInt8), sdxL o d (a ++ c :: c :: r) = sdxL o d (a ++ c :: r)
  | [], o, d => by
    simp only [List.nil_append]
    rw [sdxL_step1 o d c (c :: r), sdxL_step1 o d c r]
    split
    · exact sdxL_same _ _ c r (stepS_again o d c)
    · rfl
  | x :: a, o, d => by
    simp only [List.cons_append]
    rw [sdxL_step1, sdxL_step1, sdxL_dbl c r a]
theorem sdxL_mid (m r : Str) (hm : ∀ c ∈ m, dig c = 45) : ∀ (a : Str) (o : Str) (d : UInt8), sdxL o d (a ++ (m ++ r)) = sdxL o d (a ++ r)
  | [], o, d => by
    induction m with
    | nil => rfl
    | cons c m ih =>
      simp only [List.nil_append, List.cons_append] at *
      rw [sdxL_same o d c _ (by rw [stepS, if_pos (hm c (by simp))]), ih fun y hy => hm y (by simp [hy])]
  | x :: a, o, d => by
    simp only [List.cons_append]
    rw [sdxL_step1, sdxL_step1, sdxL_mid m r hm a]
theorem sklL_step1 (o : Str) (c : UInt8) (l : Str) : sklL o (c :: l) = if o.length < 6 then sklL (addK o c) l else o := rfl
theorem sklL_same (o : Str) (c : UInt8) (l : Str) (h : addK o c = o) : sklL o (c :: l) = sklL o l := by
  rw [sklL_step1, h]
  split
  · rfl
  · exact (sklL_end o l (.inr ‹_›)).symm
theorem addK_again (o : Str) (c : UInt8) : addK (addK o c) c = addK o c := by
  by_cases h : dig c ≠ 32 ∧ dig c ≠ 45 ∧ c ≠ o.getD (o.length - 1) 0
  · have e : addK o c = o ++ [c] := if_pos h
    rw [e, addK, if_neg]
    intro k
    exact k.2.2 (by simp [List.getD])
  · have e : addK o c = o := if_neg h
    rw [e, e]
theorem sklL_dbl (c : UInt8) (r : Str) : ∀ (a : Str) (o : Str), sklL o (a ++ c :: c :: r) = sklL o (a ++ c :: r)
  | [], o => by
    simp only [List.nil_append]
    rw [sklL_step1 o c (c :: r), sklL_step1 o c r]
    split
    · exact sklL_same _ c r (addK_again o c)
    · rfl
  | x :: a, o => by
    simp only [List.cons_append]
    rw [sklL_step1, sklL_step1, sklL_dbl c r a]
theorem sklL_mid (m r : Str) (hm : ∀ c ∈ m, dig c = 32 ∨ dig c = 45) : ∀ (a : Str) (o : Str), sklL o (a ++ (m ++ r)) = sklL o (a ++ r)
  | [], o => by
    induction m with
    | nil => rfl
    | cons c m ih =>
      simp only [List.nil_append, List.cons_append] at *
      rw [sklL_same o c _ (by rw [addK, if_neg]; rintro ⟨k1, k2, _⟩; rcases hm c (by simp) with h | h; exact k1 h; exact k2 h), ih fun y hy => hm y (by simp [hy])]
  | x :: a, o => by
    simp only [List.cons_append]
    rw [sklL_step1, sklL_step1, sklL_mid m r hm a]
/-- A letter doubled. -/
def dbl (s : Str) (k : Nat) : Str := s.take k ++ (s.take (k + 1)).drop k ++ s.drop k
theorem dbl_law {s : Str} (h1 : 1 ≤ s.length) (h2 : s.length ≤ 8) (h3 : ∀ x ∈ s, isLet x = true) {k : Nat} (hk : k < s.length) : sdx (dbl s k) = sdx s ∧ skl (dbl s k) = skl s ∧ (dbl s k).length = s.length + 1 := by
  have e : dbl s k = s.take k ++ (s.getD k 0 :: s.getD k 0 :: s.drop (k + 1)) := by
    unfold dbl
    rw [cut_step s 0 k hk, drop_step s 0 k hk]; simp
  have es : s = s.take k ++ (s.getD k 0 :: s.drop (k + 1)) := by rw [← drop_step s 0 k hk, List.take_append_drop]
  have hl : (dbl s k).length = s.length + 1 := by
    have := congrArg List.length es
    rw [e]; simp only [List.length_append, List.length_cons] at this ⊢; omega
  have hall : ∀ y ∈ dbl s k, isLet y = true := fun y hy => by
    refine h3 y ?_
    rw [e] at hy
    rw [es]
    simp only [List.mem_append, List.mem_cons] at hy ⊢
    rcases hy with h | h | h | h
    · exact .inl h
    · exact .inr (.inl h)
    · exact .inr (.inl h)
    · exact .inr (.inr h)
  have hl9 : (dbl s k).length ≤ 64 := by omega
  refine ⟨?_, ?_, hl⟩
  · cases k with
    | zero =>
      rw [List.take_zero, List.nil_append] at e es
      rw [e] at hall hl9
      rw [es] at h3 h2
      conv => rhs; rw [es]
      rw [e, sdx_cons hl9 hall, sdx_cons (by omega) h3]
      exact congrArg _ (sdxL_same _ _ _ _ (by
        unfold stepS
        split
        · rfl
        · rw [if_neg (fun k => k.2 rfl)]))
    | succ k =>
      obtain ⟨x, a, ha⟩ : ∃ x a, s.take (k + 1) = x :: a := by
        cases s with
        | nil => simp at h1
        | cons x l => exact ⟨x, l.take k, rfl⟩
      rw [ha] at e es
      rw [e] at hall hl9
      rw [es] at h3 h2
      conv => rhs; rw [es]
      simp only [List.cons_append] at *
      rw [e, sdx_cons hl9 hall, sdx_cons (by omega) h3, sdxL_dbl]
  · cases k with
    | zero =>
      rw [List.take_zero, List.nil_append] at e es
      rw [e] at hall hl9
      rw [es] at h3 h2
      conv => rhs; rw [es]
      rw [e, skl_cons hl9 hall, skl_cons (by omega) h3]
      exact sklL_same _ _ _ (by rw [addK, if_neg]; exact fun k => k.2.2 rfl)
    | succ k =>
      obtain ⟨x, a, ha⟩ : ∃ x a, s.take (k + 1) = x :: a := by
        cases s with
        | nil => simp at h1
        | cons x l => exact ⟨x, l.take k, rfl⟩
      rw [ha] at e es
      rw [e] at hall hl9
      rw [es] at h3 h2
      conv => rhs; rw [es]
      simp only [List.cons_append] at *
      rw [e, skl_cons hl9 hall, skl_cons (by omega) h3, sklL_dbl]
theorem pad_ne {o : Str} : pad4 o ≠ [] := fun h => by
  have := congrArg List.length h
  simp only [pad4, List.length_append, List.length_replicate, List.length_nil] at this
  omega
theorem tab_all : ∀ x ∈ digTab, x = 32 ∨ x = 45 ∨ (49 ≤ x.toNat ∧ x.toNat ≤ 54) := by decide
theorem tmod_nat {a : Int} {n : Nat} (h : 0 ≤ a) (hn : 1 ≤ n) : ∃ k : Nat, k < n ∧ a.tmod n = k := by
  refine ⟨(a.tmod n).toNat, ?_, ?_⟩ <;> rw [Int.tmod_eq_emod_of_nonneg h]
  · have := Int.emod_lt_of_pos a (show (0 : Int) < n by omega)
    have := Int.emod_nonneg a (show (n : Int) ≠ 0 by omega)
    omega
  · have := Int.emod_nonneg a (show (n : Int) ≠ 0 by omega)
    omega
theorem doubles_ct (l : List Int) (a : Int) (ha : 0 ≤ a ∧ a ≤ 255) : Ct Try.prog 4 [ints l, u8 a] fun q _ => Yes q := by
  refine .of_W (fn := Try.f4) hΓ hm (by rfl) ord4 [] (by kernel_rfl) (Step.out ?_)
  repeat' first
    | (refine Step.mk ?_; conv => whnf)
    | (refine Vc.om ?_ ?_; first | omega | with_reducible rfl | with_reducible exact ⟨rfl, fun _ _ => rfl⟩ | (simp only [bytes_2, bytes_3, bytes_4, bytes_5, bytes_9, bytes_12, bytes_21, bytes_22, bytes_26, bytes_29, bytes_35, bytes_36, bytes_37, bytes_40, bytes_46, bytes_50, bytes_51, bytes_52, bytes_59, bytes_63, bytes_66]; omega))
    | (refine NilB.mk fun b hb => Step.out ?_)
    | with_reducible trivial
    | exact noSh_bool _
    | exact noSh_lit _
    | exact noSh_int _ _
    | exact noSh_str _
    | with_reducible rfl
    | with_reducible exact ⟨rfl, fun _ _ => rfl⟩
    | (refine Wr.i64 ?_ ?_; omega)
    | (refine Wr.u8 ?_ ?_; omega)
    | (refine Wr.i32 ?_ ?_; omega)
    | (with_reducible refine Br.tt ?_)
    | (with_reducible refine Br.ff ?_)
    | (refine Br.dT ?_ ?_; omega)
    | (refine Br.dF ?_ ?_; omega)
    | (exact .inl rfl)
    | (exact .inr rfl)
    | (obtain ⟨k, hk, e⟩ := tmod_nat (n := List.length ‹Str›) ha.1 ‹_›; rw [e])
    | (refine Vc.om ?_ ?_; focus (simp; omega; done))
    | (refine Wr.i64 ?_ ?_; focus (simp; omega; done))
    | (refine Wr.u8 ?_ ?_; focus (simp; omega; done))
    | (refine Br.dT ?_ ?_; focus (simp; omega; done))
    | (refine Br.dF ?_ ?_; focus (simp; omega; done))
    | (refine Br.d (fun h => ?_) (fun h => ?_))
    | (refine Br.swap ?_)
    | (refine Br.bnot ?_)
    | (refine Br.mk (fun h => Step.out ?_) (fun h => Step.out ?_))
    | (refine Two.mk (Step.out ?_) (Step.out ?_))
    | (refine CallOK.io1 (g := 12) (Step.out ?_))
    | (refine CallOK.of_ct (Step.out ?_))
    | (refine Met.by (g := 8) (awake_ct) ?_; rintro q outs ⟨rfl, rfl⟩)
    | (refine Met.by (g := 9) (few_ct _) ?_; rintro q outs ⟨rfl, rfl⟩)
    | (refine Met.by (g := 11) (new_ct _ (by assumption)) ?_; rintro q outs ⟨d, hd, rfl, rfl⟩)
    | (refine Met.by (g := 12) (token_ct _) ?_; rintro q outs ⟨x, d, ⟨hx1, hx2, hx3⟩, rfl, rfl⟩)
    | (refine Met.by (g := 15) (soundex_ct _ (by first | omega | decide | (simp; done) | (simp; omega))) ?_; rintro q outs ⟨rfl, rfl⟩)
    | (refine Met.by (g := 17) (skeleton_ct _ (by first | omega | decide | (simp; done) | (simp; omega))) ?_; rintro q outs ⟨rfl, rfl⟩)
    | (refine Vc.mk ?_ (Step.out ?_))
  all_goals
    have hd := dbl_law hx1 hx2 hx3 hk
    have he : List.drop (Int.toNat 0) (List.take (k : Int).toNat x) ++ List.drop (k : Int).toNat (List.take ((k : Int) + 1).toNat x) ++ List.drop (k : Int).toNat (List.take (x.length : Int).toNat x) = dbl x k := by
      rw [Int.toNat_natCast, Int.toNat_natCast, List.take_length]; rfl
    rw [← he] at hd
    first
      | exact absurd hd.1.symm ‹_›
      | exact absurd hd.2.1.symm ‹_›
      | (left; rw [D.bool.injEq, Bool.not_eq_true', decide_eq_false_iff_not]; rw [sdx, if_pos (right_tok hx1 (by omega) hx3)]; exact pad_ne)
def silent (s : Str) (k : Nat) (m : Str) : Str := s.take k ++ m ++ s.drop k
theorem silent_law {s : Str} (h2 : s.length ≤ 8) (h3 : ∀ x ∈ s, isLet x = true) {k : Nat} (hk : 1 ≤ k ∧ k ≤ s.length) {m : Str} (hm : m.length ≤ 2) (hml : ∀ x ∈ m, isLet x = true) :
    ((∀ c ∈ m, dig c = 45) → sdx (silent s k m) = sdx s) ∧ ((∀ c ∈ m, dig c = 32 ∨ dig c = 45) → skl (silent s k m) = skl s) := by
  obtain ⟨x, a, ha⟩ : ∃ x a, s.take k = x :: a := by
    cases s with
    | nil => simp at hk; omega
    | cons x l => cases k with
      | zero => omega
      | succ k => exact ⟨x, l.take k, rfl⟩
  have e : silent s k m = x :: (a ++ (m ++ s.drop k)) := by unfold silent; rw [ha]; simp
  have es : s = x :: (a ++ s.drop k) := by
    have := List.take_append_drop k s
    rw [ha] at this; exact this.symm
  have hl : (silent s k m).length ≤ 64 := by
    have := congrArg List.length es
    rw [e]; simp only [List.length_append, List.length_cons] at this ⊢; omega
  have hs : s.length ≤ 64 := by omega
  have hall : ∀ y ∈ silent s k m, isLet y = true := fun y hy => by
    unfold silent at hy
    rcases List.mem_append.1 hy with h | h
    · rcases List.mem_append.1 h with h | h
      · exact h3 y (List.mem_of_mem_take h)
      · exact hml y h
    · exact h3 y (List.mem_of_mem_drop h)
  rw [e] at hall hl ⊢
  rw [es] at h3 hs
  constructor
  · intro h
    conv => rhs; rw [es]
    rw [sdx_cons hl hall, sdx_cons hs h3, sdxL_mid m _ h]
  · intro h
    conv => rhs; rw [es]
    rw [skl_cons hl hall, skl_cons hs h3, sklL_mid m _ h]
theorem hw_ok : ∀ m ∈ [[104], [119], [104, 119]], m.length ≤ 2 ∧ (∀ x ∈ m, isLet x = true) ∧ ∀ c ∈ m, dig c = 45 := by decide
theorem vow_ok : ∀ m ∈ [[97], [101], [121], [104]], m.length ≤ 2 ∧ (∀ x ∈ m, isLet x = true) ∧ ∀ c ∈ m, dig c = 32 ∨ dig c = 45 := by decide
theorem silent_ct (l : List Int) (a : Int) (ha : 0 ≤ a ∧ a ≤ 255) : Ct Try.prog 5 [ints l, u8 a] fun q _ => Yes q := by
  refine .of_W (fn := Try.f5) hΓ hm (by rfl) ord5 [] (by kernel_rfl) (Step.out ?_)
  repeat' first
    | (refine Step.mk ?_; conv => whnf)
    | (refine Vc.om ?_ ?_; first | omega | with_reducible rfl | with_reducible exact ⟨rfl, fun _ _ => rfl⟩ | (simp only [bytes_2, bytes_3, bytes_4, bytes_5, bytes_9, bytes_12, bytes_21, bytes_22, bytes_26, bytes_29, bytes_35, bytes_36, bytes_37, bytes_40, bytes_46, bytes_50, bytes_51, bytes_52, bytes_59, bytes_63, bytes_66]; omega))
    | (refine NilB.mk fun b hb => Step.out ?_)
    | with_reducible trivial
    | exact noSh_bool _
    | exact noSh_lit _
    | exact noSh_int _ _
    | exact noSh_str _
    | with_reducible rfl
    | with_reducible exact ⟨rfl, fun _ _ => rfl⟩
    | (refine Wr.i64 ?_ ?_; omega)
    | (refine Wr.u8 ?_ ?_; omega)
    | (refine Wr.i32 ?_ ?_; omega)
    | (with_reducible refine Br.tt ?_)
    | (with_reducible refine Br.ff ?_)
    | (refine Br.dT ?_ ?_; omega)
    | (refine Br.dF ?_ ?_; omega)
    | (exact .inl rfl)
    | (exact .inr rfl)
    | (obtain ⟨k, hk, e⟩ := tmod_nat (n := List.length ‹Str›) ha.1 ‹_›; rw [e])
    | (refine Vc.om ?_ ?_; focus (simp; omega; done))
    | (refine Wr.i64 ?_ ?_; focus (simp; omega; done))
    | (refine Wr.u8 ?_ ?_; focus (simp; omega; done))
    | (refine Br.dT ?_ ?_; focus (simp; omega; done))
    | (refine Br.dF ?_ ?_; focus (simp; omega; done))
    | (refine Met.by (picksP_ct _ _ [[104], [119], [104, 119]] hw_ok (by first | omega | decide | (simp; done) | (simp; omega)) (by first | omega | decide | (simp; done) | (simp; omega))) ?_; rintro q outs ⟨m, d, ⟨m1, m2, m3⟩, rfl, rfl⟩)
    | (refine Met.by (picksP_ct _ _ [[97], [101], [121], [104]] vow_ok (by first | omega | decide | (simp; done) | (simp; omega)) (by first | omega | decide | (simp; done) | (simp; omega))) ?_; rintro q outs ⟨v, d, ⟨v1, v2, v3⟩, rfl, rfl⟩)
    | (refine Br.d (fun h => ?_) (fun h => ?_))
    | (refine Br.swap ?_)
    | (refine Br.bnot ?_)
    | (refine Br.mk (fun h => Step.out ?_) (fun h => Step.out ?_))
    | (refine Two.mk (Step.out ?_) (Step.out ?_))
    | (refine CallOK.io1 (g := 12) (Step.out ?_))
    | (refine CallOK.io1F (g := 21) (Step.out ?_))
    | (refine CallOK.of_ct (Step.out ?_))
    | (refine Met.by (g := 8) (awake_ct) ?_; rintro q outs ⟨rfl, rfl⟩)
    | (refine Met.by (g := 9) (few_ct _) ?_; rintro q outs ⟨rfl, rfl⟩)
    | (refine Met.by (g := 11) (new_ct _ (by assumption)) ?_; rintro q outs ⟨d, hd, rfl, rfl⟩)
    | (refine Met.by (g := 12) (token_ct _) ?_; rintro q outs ⟨x, d, ⟨hx1, hx2, hx3⟩, rfl, rfl⟩)
    | (refine Met.by (g := 15) (soundex_ct _ (by first | omega | decide | (simp; done) | (simp; omega))) ?_; rintro q outs ⟨rfl, rfl⟩)
    | (refine Met.by (g := 17) (skeleton_ct _ (by first | omega | decide | (simp; done) | (simp; omega))) ?_; rintro q outs ⟨rfl, rfl⟩)
    | (refine Met.by (g := 21) (picks_ct _ [] (by first | omega | decide | (simp; done) | (simp; omega)) (by first | omega | decide | (simp; done) | (simp; omega))) ?_; rintro q outs ⟨x, d, hx, rfl, rfl⟩)
    | (refine Vc.mk ?_ (Step.out ?_))
  all_goals
    have he : ∀ m : Str, List.drop (Int.toNat 0) (List.take (1 + (k : Int)).toNat x) ++ m ++ List.drop (1 + (k : Int)).toNat (List.take (x.length : Int).toNat x) = silent x (k + 1) m := fun m => by
      rw [show (1 + (k : Int)).toNat = k + 1 by omega, Int.toNat_natCast, List.take_length]; rfl
    have g1 := (silent_law hx2 hx3 (k := k + 1) ⟨by omega, by omega⟩ m1 m2).1 m3
    rw [← he m] at g1
    first
      | exact absurd g1.symm ‹_›
      | (have g2 := (silent_law hx2 hx3 (k := k + 1) ⟨by omega, by omega⟩ v1 v2).2 v3
         rw [← he v] at g2
         exact .inl (congrArg D.bool (decide_eq_true g2.symm)))
/-! ### The shape of codes -/
def DgOut (x : UInt8) : Prop := 49 ≤ x.toNat ∧ x.toNat ≤ 54
theorem dig_tab {x : UInt8} (h : isLet x = true) : dig x = 32 ∨ dig x = 45 ∨ DgOut (dig x) := by
  obtain ⟨h1, h2⟩ := let_in h
  exact tab_all _ (getD_in (by show x.toNat - 97 < 26; omega))
theorem sdxL_shape : ∀ (l o : Str) (d : UInt8), (∀ x ∈ l, isLet x = true) → 1 ≤ o.length → o.length ≤ 4 → (∀ i, 1 ≤ i → i < o.length → DgOut (o.getD i 0)) →
    1 ≤ (sdxL o d l).length ∧ (sdxL o d l).length ≤ 4 ∧ (sdxL o d l).getD 0 0 = o.getD 0 0 ∧ ∀ i, 1 ≤ i → i < (sdxL o d l).length → DgOut ((sdxL o d l).getD i 0)
  | [], o, d, _, h1, h2, h3 => ⟨h1, h2, rfl, h3⟩
  | x :: l, o, d, hl, h1, h2, h3 => by
    rw [sdxL_step1]
    split
    · have hx := dig_tab (hl x (by simp))
      have key : (stepS o d x).1 = o ∨ ((stepS o d x).1 = o ++ [dig x] ∧ DgOut (dig x)) := by
        unfold stepS
        split
        · exact .inl rfl
        · split
          · exact .inr ⟨rfl, (hx.resolve_left (And.left ‹_›)).resolve_left ‹_›⟩
          · exact .inl rfl
      rcases key with h | ⟨h, hd⟩
      · rw [h]; exact sdxL_shape l o _ (fun y hy => hl y (by simp [hy])) h1 h2 h3
      · have := sdxL_shape l (o ++ [dig x]) (stepS o d x).2 (fun y hy => hl y (by simp [hy])) (by simp) (by simp; omega) (fun i hi1 hi2 => by
          rw [getD_app]
          split
          · exact h3 i hi1 ‹_›
          · simp at hi2; rw [show i - o.length = 0 by omega]; exact hd)
        rw [h]
        refine ⟨this.1, this.2.1, ?_, this.2.2.2⟩
        rw [this.2.2.1, getD_app, if_pos (by omega)]
    · exact ⟨h1, h2, rfl, h3⟩
theorem sklL_shape : ∀ (l o : Str), (∀ x ∈ l, isLet x = true) → (∀ x ∈ o, isLet x = true) → 1 ≤ o.length → o.length ≤ 6 → (∀ i, 1 ≤ i → i < o.length → o.getD i 0 ≠ o.getD (i - 1) 0) →
    1 ≤ (sklL o l).length ∧ (sklL o l).length ≤ 6 ∧ (sklL o l).getD 0 0 = o.getD 0 0 ∧ (∀ x ∈ sklL o l, isLet x = true) ∧ ∀ i, 1 ≤ i → i < (sklL o l).length → (sklL o l).getD i 0 ≠ (sklL o l).getD (i - 1) 0
  | [], o, _, h0, h1, h2, h3 => ⟨h1, h2, rfl, h0, h3⟩
  | x :: l, o, hl, h0, h1, h2, h3 => by
    rw [sklL_step1]
    split
    · by_cases hk : dig x ≠ 32 ∧ dig x ≠ 45 ∧ x ≠ o.getD (o.length - 1) 0
      · have e : addK o x = o ++ [x] := if_pos hk
        have := sklL_shape l (o ++ [x]) (fun y hy => hl y (by simp [hy])) (fun y hy => by
          rcases List.mem_append.1 hy with h | h
          · exact h0 y h
          · rw [List.mem_singleton.1 h]; exact hl x (by simp)) (by simp) (by simp; omega) (fun i hi1 hi2 => by
          simp at hi2
          rw [getD_app, getD_app]
          by_cases hi : i < o.length
          · rw [if_pos hi, if_pos (by omega)]; exact h3 i hi1 hi
          · rw [if_neg hi, if_pos (by omega), show i - o.length = 0 by omega, show i - 1 = o.length - 1 by omega]; exact hk.2.2)
        rw [e]
        refine ⟨this.1, this.2.1, ?_, this.2.2.2⟩
        rw [this.2.2.1, getD_app, if_pos (by omega)]
      · have e : addK o x = o := if_neg hk
        rw [e]; exact sklL_shape l o (fun y hy => hl y (by simp [hy])) h0 h1 h2 h3
    · exact ⟨h1, h2, rfl, h0, h3⟩
theorem pad_get (o : Str) (h : o.length ≤ 4) : (pad4 o).length = 4 ∧ ∀ i, i < 4 → (pad4 o).getD i 0 = if i < o.length then o.getD i 0 else 48 := by
  refine ⟨by simp [pad4]; omega, fun i hi => ?_⟩
  unfold pad4
  rw [getD_app]
  split
  · rfl
  · rw [List.getD_eq_getElem?_getD, List.getElem?_replicate, if_pos (by omega)]; rfl
/-- What the code of a token looks like. -/
structure Shape (s c k : Str) : Prop where
  len : c.length = 4
  first : c.getD 0 0 = s.getD 0 0
  dig : ∀ i, 1 ≤ i → i < 4 → 48 ≤ (c.getD i 0).toNat ∧ (c.getD i 0).toNat ≤ 54
  zero : ∀ i, 2 ≤ i → i < 4 → c.getD (i - 1) 0 = 48 → c.getD i 0 = 48
  k1 : 1 ≤ k.length
  k6 : k.length ≤ 6
  kfirst : k.getD 0 0 = s.getD 0 0
  klet : letters k = k
  kdbl : ∀ i, 1 ≤ i → i < k.length → k.getD i 0 ≠ k.getD (i - 1) 0
theorem shape_law {s : Str} (h1 : 1 ≤ s.length) (h2 : s.length ≤ 16) (h3 : ∀ x ∈ s, isLet x = true) : Shape s (sdx s) (skl s) := by
  have hr := right_tok h1 (by omega) h3
  have hd : ∀ x ∈ s.drop 1, isLet x = true := fun x hx => h3 x (List.mem_of_mem_drop hx)
  have e1 : sdx s = pad4 (sdxL [s.getD 0 0] (Kx.dig (s.getD 0 0)) (s.drop 1)) := by rw [sdx, if_pos hr]
  have e2 : skl s = sklL [s.getD 0 0] (s.drop 1) := by rw [skl, if_pos hr]
  obtain ⟨a1, a2, a3, a4⟩ := sdxL_shape (s.drop 1) [s.getD 0 0] (Kx.dig (s.getD 0 0)) hd (Nat.le_refl _) (by simp) (fun i hi1 hi2 => by simp at hi2; omega)
  obtain ⟨b1, b2, b3, b4, b5⟩ := sklL_shape (s.drop 1) [s.getD 0 0] hd (fun x hx => by rw [List.mem_singleton.1 hx]; exact h3 _ (getD_in (by omega))) (Nat.le_refl _) (by simp) (fun i hi1 hi2 => by simp at hi2; omega)
  rw [← e2] at b1 b2 b3 b4 b5
  generalize sdxL [s.getD 0 0] (Kx.dig (s.getD 0 0)) (s.drop 1) = o at *
  obtain ⟨p1, p2⟩ := pad_get o a2
  rw [e1]
  refine ⟨p1, by rw [p2 0 (by omega), if_pos (by omega), a3]; rfl, fun i hi1 hi2 => ?_, fun i hi1 hi2 h => ?_, b1, b2, b3, List.filter_eq_self.2 b4, b5⟩
  · rw [p2 i hi2]
    split
    · have := a4 i hi1 ‹_›; unfold DgOut at this; omega
    · decide
  · rw [p2 (i - 1) (by omega)] at h
    rw [p2 i hi2]
    split at h
    · have := a4 (i - 1) (by omega) ‹_›
      unfold DgOut at this
      rw [h] at this
      exact absurd this (by decide)
    · rw [if_neg (by omega)]
end Kx
