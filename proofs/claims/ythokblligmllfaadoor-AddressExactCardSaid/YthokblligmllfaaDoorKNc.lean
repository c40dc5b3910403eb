/-
  Rules of names: the check, tokens under rules.
  No condition beyond those written in each theorem.
-/
import Derived.Test.YthokblligmllfaaDoorKNb
open Go Sx Go.Proofs
set_option linter.unusedSimpArgs false
set_option linter.unusedVariables false
namespace Kx
def ruD (r : Ru) : D := .agg [strs r.t, prs r.n, prs r.s]
structure Ru.ok (r : Ru) : Prop where
  t : r.t.length ≤ 1000
  n : r.n.length ≤ 1000
  s : r.s.length ≤ 1000
theorem any_idx {α : Type} (p : α → Bool) (l : List α) : decide (0 ≤ idxF p l) = l.any p := by
  have := idxF_neg p l
  cases h : l.any p with
  | true =>
    refine decide_eq_true (Int.not_lt.1 fun h2 => ?_)
    rw [this.1 h2] at h; cases h
  | false => have := this.2 h; exact decide_eq_false (by omega)
theorem dropped_ct (r : Ru) (s : Str) (hr : Ru.ok r) : Ct Tryd.prog 59 [ruD r, .str s] fun q outs => q = .bool (hasS r.t s) ∧ outs = [] := by
  have h1 := hr.t
  refine .det (.of_W (fn := Tryd.f59) hΓ hm Tryd.func59 [] [] (by kernel_rfl) (Step.out ?_))
  repeat' first
    | (refine Step.mk ?_; conv => whnf)
    | (refine Vc.om ?_ ?_; first | omega | with_reducible rfl | with_reducible exact same_rfl | (simp only [bytes_2, bytes_3, bytes_4, bytes_5, bytes_9, bytes_12, bytes_21, bytes_22, bytes_25, bytes_27, bytes_28, bytes_29, bytes_30, bytes_34, bytes_45, bytes_49, bytes_50, bytes_51, bytes_52, bytes_53, bytes_54, bytes_64, bytes_67, bytes_68, bytes_73, bytes_75, bytes_76, bytes_77, bytes_92, bytes_93, bytes_94, bytes_95, bytes_98, bytes_102, bytes_112, bytes_123, bytes_129]; omega))
    | (refine NilB.mk fun b hb => Step.out ?_)
    | with_reducible trivial
    | exact noSh_bool _
    | exact noSh_lit _
    | exact noSh_int _ _
    | exact noSh_str _
    | with_reducible rfl
    | with_reducible exact same_rfl
    | (refine Wr.i64 ?_ ?_; omega)
    | (refine Wr.u8 ?_ ?_; omega)
    | (refine Wr.i32 ?_ ?_; omega)
    | (with_reducible refine Br.tt ?_)
    | (with_reducible refine Br.ff ?_)
    | (refine Br.dT ?_ ?_; omega)
    | (refine Br.dF ?_ ?_; omega)
    | (refine Met.by (contains_ct r.t s (by omega)) ?_; rintro q outs ⟨rfl, rfl⟩)
    | (refine Br.d (fun h => ?_) (fun h => ?_))
    | (refine Br.swap ?_)
    | (refine Br.bnot ?_)
    | (refine Br.mk (fun h => Step.out ?_) (fun h => Step.out ?_))
    | (refine Two.mk (Step.out ?_) (Step.out ?_))
    | (refine CallOK.of_ct (Step.out ?_))
    | (refine Met.by (g := 81) (contains_ct _ _ (by first | omega | decide | (simp; done) | (simp; omega))) ?_; rintro q outs ⟨rfl, rfl⟩)
    | (refine Vc.mk ?_ (Step.out ?_))
theorem ctitle_ct (p : Pr) (r : Ru) (hr : Ru.ok r) : Ct Tryd.prog 58 [pr p, .ref [strs r.t, prs r.n, prs r.s]] fun q outs => q = .bool (hasS r.t p.2) ∧ outs = [] := by
  refine .det (.of_W (fn := Tryd.f58) hΓ hm Tryd.func58 [] [] (by kernel_rfl) (Step.out ?_))
  repeat' first
    | (refine Step.mk ?_; conv => whnf)
    | (refine Vc.om ?_ ?_; first | omega | with_reducible rfl | with_reducible exact same_rfl | (simp only [bytes_2, bytes_3, bytes_4, bytes_5, bytes_9, bytes_12, bytes_21, bytes_22, bytes_25, bytes_27, bytes_28, bytes_29, bytes_30, bytes_34, bytes_45, bytes_49, bytes_50, bytes_51, bytes_52, bytes_53, bytes_54, bytes_64, bytes_67, bytes_68, bytes_73, bytes_75, bytes_76, bytes_77, bytes_92, bytes_93, bytes_94, bytes_95, bytes_98, bytes_102, bytes_112, bytes_123, bytes_129]; omega))
    | (refine NilB.mk fun b hb => Step.out ?_)
    | with_reducible trivial
    | exact noSh_bool _
    | exact noSh_lit _
    | exact noSh_int _ _
    | exact noSh_str _
    | with_reducible rfl
    | with_reducible exact same_rfl
    | (refine Wr.i64 ?_ ?_; omega)
    | (refine Wr.u8 ?_ ?_; omega)
    | (refine Wr.i32 ?_ ?_; omega)
    | (with_reducible refine Br.tt ?_)
    | (with_reducible refine Br.ff ?_)
    | (refine Br.dT ?_ ?_; omega)
    | (refine Br.dF ?_ ?_; omega)
    | (refine Met.by (dropped_ct r p.2 hr) ?_; rintro q outs ⟨rfl, rfl⟩)
    | (refine Br.d (fun h => ?_) (fun h => ?_))
    | (refine Br.swap ?_)
    | (refine Br.bnot ?_)
    | (refine Br.mk (fun h => Step.out ?_) (fun h => Step.out ?_))
    | (refine Two.mk (Step.out ?_) (Step.out ?_))
    | (refine CallOK.of_ct (Step.out ?_))
    | (refine Met.by (g := 59) (dropped_ct _ _ (by assumption)) ?_; rintro q outs ⟨rfl, rfl⟩)
    | (refine Vc.mk ?_ (Step.out ?_))
theorem indexg_ct (l : List Pr) (q : Ru) (hq : Ru.ok q) (hl : l.length ≤ 1000000000) : Ct Tryd.prog 39 [prs l, .fn 58 [.ref [strs q.t, prs q.n, prs q.s]]] fun r outs => r = i64 (idxF (fun p : Pr => hasS q.t p.2) l) ∧ outs = [] := by
  refine .det (.of_W (fn := Tryd.f39) hΓ hm Tryd.func39 [] [] (by kernel_rfl) (Step.out ?_))
  repeat' first
    | (refine Step.mk ?_; conv => whnf)
    | (refine Vc.om ?_ ?_; first | omega | with_reducible rfl | with_reducible exact same_rfl | (simp only [bytes_2, bytes_3, bytes_4, bytes_5, bytes_9, bytes_12, bytes_21, bytes_22, bytes_25, bytes_27, bytes_28, bytes_29, bytes_30, bytes_34, bytes_45, bytes_49, bytes_50, bytes_51, bytes_52, bytes_53, bytes_54, bytes_64, bytes_67, bytes_68, bytes_73, bytes_75, bytes_76, bytes_77, bytes_92, bytes_93, bytes_94, bytes_95, bytes_98, bytes_102, bytes_112, bytes_123, bytes_129]; omega))
    | (refine NilB.mk fun b hb => Step.out ?_)
    | with_reducible trivial
    | exact noSh_bool _
    | exact noSh_lit _
    | exact noSh_int _ _
    | exact noSh_str _
    | with_reducible rfl
    | with_reducible exact same_rfl
    | (refine Wr.i64 ?_ ?_; omega)
    | (refine Wr.u8 ?_ ?_; omega)
    | (refine Wr.i32 ?_ ?_; omega)
    | (with_reducible refine Br.tt ?_)
    | (with_reducible refine Br.ff ?_)
    | (refine Br.dT ?_ ?_; omega)
    | (refine Br.dF ?_ ?_; omega)
    | (refine Br.d (fun h => ?_) (fun h => ?_))
    | (refine Br.swap ?_)
    | (refine Br.bnot ?_)
    | (refine Br.mk (fun h => Step.out ?_) (fun h => Step.out ?_))
    | (refine Two.mk (Step.out ?_) (Step.out ?_))
    | (refine CallOK.of_ct (Step.out ?_))
    | (refine Vc.mk ?_ (Step.out ?_))
  refine CodeOK.loopW hΓ hm [] [] (by kernel_rfl) (α := Nat) (fun i => [(0, prs l), (1, .fn 58 [.ref [strs q.t, prs q.n, prs q.s]]), (7, i64 l.length), (8, i64 i)]) (fun i => []) 0 (fun i => i ≤ l.length ∧ (l.take i).any (fun p : Pr => hasS q.t p.2) = false) (fun i => l.length - i) ?_ ?_
  · refine Again.by 0 ⟨Nat.zero_le _, rfl⟩ ?_
    repeat' first
      | (refine Step.mk ?_; conv => whnf)
      | (refine Vc.om ?_ ?_; first | omega | with_reducible rfl | with_reducible exact same_rfl | (simp only [bytes_2, bytes_3, bytes_4, bytes_5, bytes_9, bytes_12, bytes_21, bytes_22, bytes_25, bytes_27, bytes_28, bytes_29, bytes_30, bytes_34, bytes_45, bytes_49, bytes_50, bytes_51, bytes_52, bytes_53, bytes_54, bytes_64, bytes_67, bytes_68, bytes_73, bytes_75, bytes_76, bytes_77, bytes_92, bytes_93, bytes_94, bytes_95, bytes_98, bytes_102, bytes_112, bytes_123, bytes_129]; omega))
      | (refine NilB.mk fun b hb => Step.out ?_)
      | with_reducible trivial
      | exact noSh_bool _
      | exact noSh_lit _
      | exact noSh_int _ _
      | exact noSh_str _
      | with_reducible rfl
      | with_reducible exact same_rfl
      | (refine Wr.i64 ?_ ?_; omega)
      | (refine Wr.u8 ?_ ?_; omega)
      | (refine Wr.i32 ?_ ?_; omega)
      | (with_reducible refine Br.tt ?_)
      | (with_reducible refine Br.ff ?_)
      | (refine Br.dT ?_ ?_; omega)
      | (refine Br.dF ?_ ?_; omega)
      | (refine Cho.r ?_)
      | (refine Br.d (fun h => ?_) (fun h => ?_))
      | (refine Br.swap ?_)
      | (refine Br.bnot ?_)
      | (refine Br.mk (fun h => Step.out ?_) (fun h => Step.out ?_))
      | (refine Two.mk (Step.out ?_) (Step.out ?_))
      | (refine CallOK.of_ct (Step.out ?_))
      | (refine Vc.mk ?_ (Step.out ?_))
  · intro i ⟨hi, hv⟩
    repeat' first
      | (refine Step.mk ?_; conv => whnf)
      | (refine Vc.om ?_ ?_; first | omega | with_reducible rfl | with_reducible exact same_rfl | (simp only [bytes_2, bytes_3, bytes_4, bytes_5, bytes_9, bytes_12, bytes_21, bytes_22, bytes_25, bytes_27, bytes_28, bytes_29, bytes_30, bytes_34, bytes_45, bytes_49, bytes_50, bytes_51, bytes_52, bytes_53, bytes_54, bytes_64, bytes_67, bytes_68, bytes_73, bytes_75, bytes_76, bytes_77, bytes_92, bytes_93, bytes_94, bytes_95, bytes_98, bytes_102, bytes_112, bytes_123, bytes_129]; omega))
      | (refine NilB.mk fun b hb => Step.out ?_)
      | with_reducible trivial
      | exact noSh_bool _
      | exact noSh_lit _
      | exact noSh_int _ _
      | exact noSh_str _
      | with_reducible rfl
      | with_reducible exact same_rfl
      | (refine Wr.i64 ?_ ?_; omega)
      | (refine Wr.u8 ?_ ?_; omega)
      | (refine Wr.i32 ?_ ?_; omega)
      | (with_reducible refine Br.tt ?_)
      | (with_reducible refine Br.ff ?_)
      | (refine Br.dT ?_ ?_; omega)
      | (refine Br.dF ?_ ?_; omega)
      | (refine Met.by (ctitle_ct _ q hq) ?_; rintro q outs ⟨rfl, rfl⟩)
      | (refine Br.d (fun h => ?_) (fun h => ?_))
      | (refine Br.swap ?_)
      | (refine Br.bnot ?_)
      | (refine Br.mk (fun h => Step.out ?_) (fun h => Step.out ?_))
      | (refine Two.mk (Step.out ?_) (Step.out ?_))
      | (refine CallOK.of_ct (Step.out ?_))
      | (refine Vc.mk ?_ (Step.out ?_))
    all_goals try simp only [Int.toNat_natCast] at *
    · rw [idxF_at (fun p : Pr => hasS q.t p.2) ([], []) l i (by omega) hv h]
    · refine Again.by (i + 1) ⟨⟨by omega, by rw [any_take _ l ([], []) i (by omega), hv, show hasS q.t (l.getD i ([], [])).2 = false from h]; rfl⟩, by omega⟩ ?_
      repeat' first
        | (refine Step.mk ?_; conv => whnf)
        | (refine Vc.om ?_ ?_; first | omega | with_reducible rfl | with_reducible exact same_rfl | (simp only [bytes_2, bytes_3, bytes_4, bytes_5, bytes_9, bytes_12, bytes_21, bytes_22, bytes_25, bytes_27, bytes_28, bytes_29, bytes_30, bytes_34, bytes_45, bytes_49, bytes_50, bytes_51, bytes_52, bytes_53, bytes_54, bytes_64, bytes_67, bytes_68, bytes_73, bytes_75, bytes_76, bytes_77, bytes_92, bytes_93, bytes_94, bytes_95, bytes_98, bytes_102, bytes_112, bytes_123, bytes_129]; omega))
        | (refine NilB.mk fun b hb => Step.out ?_)
        | with_reducible trivial
        | exact noSh_bool _
        | exact noSh_lit _
        | exact noSh_int _ _
        | exact noSh_str _
        | with_reducible rfl
        | with_reducible exact same_rfl
        | (refine Wr.i64 ?_ ?_; omega)
        | (refine Wr.u8 ?_ ?_; omega)
        | (refine Wr.i32 ?_ ?_; omega)
        | (with_reducible refine Br.tt ?_)
        | (with_reducible refine Br.ff ?_)
        | (refine Br.dT ?_ ?_; omega)
        | (refine Br.dF ?_ ?_; omega)
        | (refine Cho.r ?_)
        | (refine Br.d (fun h => ?_) (fun h => ?_))
        | (refine Br.swap ?_)
        | (refine Br.bnot ?_)
        | (refine Br.mk (fun h => Step.out ?_) (fun h => Step.out ?_))
        | (refine Two.mk (Step.out ?_) (Step.out ?_))
        | (refine CallOK.of_ct (Step.out ?_))
        | (refine Vc.mk ?_ (Step.out ?_))
    · rw [idxF_no]
      rw [show i = l.length by omega, List.take_length] at hv; exact hv
theorem containsf_ct (q : Ru) (hq : Ru.ok q) : Ct Tryd.prog 57 [prs q.n, .fn 58 [.ref [strs q.t, prs q.n, prs q.s]]] fun r outs => r = .bool (q.n.any fun p => hasS q.t p.2) ∧ outs = [] := by
  have h1 := hq.n
  refine .det (.of_W (fn := Tryd.f57) hΓ hm Tryd.func57 [] [] (by kernel_rfl) (Step.out ?_))
  repeat' first
    | (refine Step.mk ?_; conv => whnf)
    | (refine Vc.om ?_ ?_; first | omega | with_reducible rfl | with_reducible exact same_rfl | (simp only [bytes_2, bytes_3, bytes_4, bytes_5, bytes_9, bytes_12, bytes_21, bytes_22, bytes_25, bytes_27, bytes_28, bytes_29, bytes_30, bytes_34, bytes_45, bytes_49, bytes_50, bytes_51, bytes_52, bytes_53, bytes_54, bytes_64, bytes_67, bytes_68, bytes_73, bytes_75, bytes_76, bytes_77, bytes_92, bytes_93, bytes_94, bytes_95, bytes_98, bytes_102, bytes_112, bytes_123, bytes_129]; omega))
    | (refine NilB.mk fun b hb => Step.out ?_)
    | with_reducible trivial
    | exact noSh_bool _
    | exact noSh_lit _
    | exact noSh_int _ _
    | exact noSh_str _
    | with_reducible rfl
    | with_reducible exact same_rfl
    | (refine Wr.i64 ?_ ?_; omega)
    | (refine Wr.u8 ?_ ?_; omega)
    | (refine Wr.i32 ?_ ?_; omega)
    | (with_reducible refine Br.tt ?_)
    | (with_reducible refine Br.ff ?_)
    | (refine Br.dT ?_ ?_; omega)
    | (refine Br.dF ?_ ?_; omega)
    | (refine Met.by (indexg_ct q.n q hq (by omega)) ?_; rintro q outs ⟨rfl, rfl⟩)
    | (refine Br.d (fun h => ?_) (fun h => ?_))
    | (refine Br.swap ?_)
    | (refine Br.bnot ?_)
    | (refine Br.mk (fun h => Step.out ?_) (fun h => Step.out ?_))
    | (refine Two.mk (Step.out ?_) (Step.out ?_))
    | (refine CallOK.of_ct (Step.out ?_))
    | (refine Vc.mk ?_ (Step.out ?_))
  exact any_idx _ _
theorem checkE_big {r : Ru} (h : (32 : Int) < r.t.length ∨ (32 : Int) < r.n.length ∨ (32 : Int) < r.s.length) : 1 = checkE r := by
  rw [checkE, if_neg (by omega)]
theorem checkE_in {r : Ru} (h1 : ¬(32 : Int) < r.t.length) (h2 : ¬(32 : Int) < r.n.length) (h3 : ¬(32 : Int) < r.s.length) : checkE r = if (titlesB r.t && pairsB r.n && pairsB r.s && !(r.n.any fun p => hasS r.t p.2)) = true then 0 else 5 := by
  rw [checkE, if_pos (by omega)]
theorem check_ct (r : Ru) (hr : Ru.ok r) : Ct Tryd.prog 36 [ruD r] fun q outs => q = i64 (checkE r) ∧ outs = [] := by
  have h1 := hr.t; have h2 := hr.n; have h3 := hr.s
  refine .det (.of_W (fn := Tryd.f36) hΓ hm Tryd.func36 [] [] (by kernel_rfl) (Step.out ?_))
  repeat' first
    | (refine Step.mk ?_; conv => whnf)
    | (refine Vc.om ?_ ?_; first | omega | with_reducible rfl | with_reducible exact same_rfl | (simp only [bytes_2, bytes_3, bytes_4, bytes_5, bytes_9, bytes_12, bytes_21, bytes_22, bytes_25, bytes_27, bytes_28, bytes_29, bytes_30, bytes_34, bytes_45, bytes_49, bytes_50, bytes_51, bytes_52, bytes_53, bytes_54, bytes_64, bytes_67, bytes_68, bytes_73, bytes_75, bytes_76, bytes_77, bytes_92, bytes_93, bytes_94, bytes_95, bytes_98, bytes_102, bytes_112, bytes_123, bytes_129]; omega))
    | (refine NilB.mk fun b hb => Step.out ?_)
    | with_reducible trivial
    | exact noSh_bool _
    | exact noSh_lit _
    | exact noSh_int _ _
    | exact noSh_str _
    | with_reducible rfl
    | with_reducible exact same_rfl
    | (refine Wr.i64 ?_ ?_; omega)
    | (refine Wr.u8 ?_ ?_; omega)
    | (refine Wr.i32 ?_ ?_; omega)
    | (with_reducible refine Br.tt ?_)
    | (with_reducible refine Br.ff ?_)
    | (refine Br.dT ?_ ?_; omega)
    | (refine Br.dF ?_ ?_; omega)
    | (refine Met.by (containsf_ct r hr) ?_; rintro q outs ⟨rfl, rfl⟩)
    | (refine Met.by (titles_ct r.t (by omega)) ?_; rintro q outs ⟨rfl, rfl⟩)
    | (refine Met.by (npairs_ct r.n (by omega)) ?_; rintro q outs ⟨rfl, rfl⟩)
    | (refine Met.by (npairs_ct r.s (by omega)) ?_; rintro q outs ⟨rfl, rfl⟩)
    | (refine Br.d (fun h => ?_) (fun h => ?_))
    | (refine Br.swap ?_)
    | (refine Br.bnot ?_)
    | (refine Br.mk (fun h => Step.out ?_) (fun h => Step.out ?_))
    | (refine Two.mk (Step.out ?_) (Step.out ?_))
    | (refine CallOK.of_ct (Step.out ?_))
    | (refine Met.by (g := 55) (titles_ct _ (by first | omega | decide | (simp; done) | (simp; omega))) ?_; rintro q outs ⟨rfl, rfl⟩)
    | (refine Met.by (g := 56) (npairs_ct _ (by first | omega | decide | (simp; done) | (simp; omega))) ?_; rintro q outs ⟨rfl, rfl⟩)
    | (refine Vc.mk ?_ (Step.out ?_))
  all_goals first
    | exact checkE_big (by omega)
    | (rw [checkE_in ‹_› ‹_› ‹_›]; simp only [*, Bool.and_true, Bool.true_and, Bool.and_false, Bool.false_and, Bool.not_true, Bool.not_false, if_true]; done)
    | (rw [checkE_in ‹_› ‹_› ‹_›]; simp only [*, Bool.and_true, Bool.true_and, Bool.and_false, Bool.false_and, Bool.not_true, Bool.not_false, if_true]; rfl)
theorem rcheck_ct (r : Ru) (hr : Ru.ok r) : Ct Tryd.prog 49 [ruD r] fun q outs => q = i64 (checkE r) ∧ outs = [] := by
  have h1 := hr.t; have h2 := hr.n; have h3 := hr.s
  refine .det (.of_W (fn := Tryd.f49) hΓ hm Tryd.func49 ord49 [] (by kernel_rfl) (Step.out ?_))
  repeat' first
    | (refine Step.mk ?_; conv => whnf)
    | (refine Vc.om ?_ ?_; first | omega | with_reducible rfl | with_reducible exact same_rfl | (simp only [bytes_2, bytes_3, bytes_4, bytes_5, bytes_9, bytes_12, bytes_21, bytes_22, bytes_25, bytes_27, bytes_28, bytes_29, bytes_30, bytes_34, bytes_45, bytes_49, bytes_50, bytes_51, bytes_52, bytes_53, bytes_54, bytes_64, bytes_67, bytes_68, bytes_73, bytes_75, bytes_76, bytes_77, bytes_92, bytes_93, bytes_94, bytes_95, bytes_98, bytes_102, bytes_112, bytes_123, bytes_129]; omega))
    | (refine NilB.mk fun b hb => Step.out ?_)
    | with_reducible trivial
    | exact noSh_bool _
    | exact noSh_lit _
    | exact noSh_int _ _
    | exact noSh_str _
    | with_reducible rfl
    | with_reducible exact same_rfl
    | (refine Wr.i64 ?_ ?_; omega)
    | (refine Wr.u8 ?_ ?_; omega)
    | (refine Wr.i32 ?_ ?_; omega)
    | (with_reducible refine Br.tt ?_)
    | (with_reducible refine Br.ff ?_)
    | (refine Br.dT ?_ ?_; omega)
    | (refine Br.dF ?_ ?_; omega)
    | (refine Br.d (fun h => ?_) (fun h => ?_))
    | (refine Br.swap ?_)
    | (refine Br.bnot ?_)
    | (refine Br.mk (fun h => Step.out ?_) (fun h => Step.out ?_))
    | (refine Two.mk (Step.out ?_) (Step.out ?_))
    | (refine CallOK.of_ct (Step.out ?_))
    | (refine Met.by (g := 72) (rtoken_ct _) ?_; rintro q outs ⟨rfl, rfl⟩)
    | (refine Met.by (g := 73) (rasc_ct _ (by first | omega | decide | (simp; done) | (simp; omega))) ?_; rintro q outs ⟨rfl, rfl⟩)
    | (refine Met.by (g := 74) (rpairs_ct _ (by first | omega | decide | (simp; done) | (simp; omega))) ?_; rintro q outs ⟨rfl, rfl⟩)
    | (refine Met.by (g := 75) (rhas_ct _ _ (by first | omega | decide | (simp; done) | (simp; omega))) ?_; rintro q outs ⟨rfl, rfl⟩)
    | (refine Vc.mk ?_ (Step.out ?_))
  all_goals try exact checkE_big (by omega)
  refine CodeOK.loopW hΓ hm ord49 [] (by kernel_rfl) (α := Nat) (fun i => [(1, .loc 0 0), (3, i64 i)]) (fun i => [(0, .var [strs r.t, prs r.n, prs r.s])]) 1 (fun i => i ≤ r.t.length ∧ r.t.all tkn = (r.t.drop i).all tkn) (fun i => r.t.length - i) ?_ ?_
  · refine Again.by 0 ⟨Nat.zero_le _, rfl⟩ ?_
    repeat' first
      | (refine Step.mk ?_; conv => whnf)
      | (refine Vc.om ?_ ?_; first | omega | with_reducible rfl | with_reducible exact same_rfl | (simp only [bytes_2, bytes_3, bytes_4, bytes_5, bytes_9, bytes_12, bytes_21, bytes_22, bytes_25, bytes_27, bytes_28, bytes_29, bytes_30, bytes_34, bytes_45, bytes_49, bytes_50, bytes_51, bytes_52, bytes_53, bytes_54, bytes_64, bytes_67, bytes_68, bytes_73, bytes_75, bytes_76, bytes_77, bytes_92, bytes_93, bytes_94, bytes_95, bytes_98, bytes_102, bytes_112, bytes_123, bytes_129]; omega))
      | (refine NilB.mk fun b hb => Step.out ?_)
      | with_reducible trivial
      | exact noSh_bool _
      | exact noSh_lit _
      | exact noSh_int _ _
      | exact noSh_str _
      | with_reducible rfl
      | with_reducible exact same_rfl
      | (refine Wr.i64 ?_ ?_; omega)
      | (refine Wr.u8 ?_ ?_; omega)
      | (refine Wr.i32 ?_ ?_; omega)
      | (with_reducible refine Br.tt ?_)
      | (with_reducible refine Br.ff ?_)
      | (refine Br.dT ?_ ?_; omega)
      | (refine Br.dF ?_ ?_; omega)
      | (refine Br.d (fun h => ?_) (fun h => ?_))
      | (refine Br.swap ?_)
      | (refine Br.bnot ?_)
      | (refine Br.mk (fun h => Step.out ?_) (fun h => Step.out ?_))
      | (refine Two.mk (Step.out ?_) (Step.out ?_))
      | (refine CallOK.of_ct (Step.out ?_))
      | (refine Met.by (g := 72) (rtoken_ct _) ?_; rintro q outs ⟨rfl, rfl⟩)
      | (refine Met.by (g := 73) (rasc_ct _ (by first | omega | decide | (simp; done) | (simp; omega))) ?_; rintro q outs ⟨rfl, rfl⟩)
      | (refine Met.by (g := 74) (rpairs_ct _ (by first | omega | decide | (simp; done) | (simp; omega))) ?_; rintro q outs ⟨rfl, rfl⟩)
      | (refine Met.by (g := 75) (rhas_ct _ _ (by first | omega | decide | (simp; done) | (simp; omega))) ?_; rintro q outs ⟨rfl, rfl⟩)
      | (refine Vc.mk ?_ (Step.out ?_))
  · intro i ⟨hi, hv⟩
    have hst := fun h : i < r.t.length => all_step tkn r.t [] i h
    repeat' first
      | (refine Step.mk ?_; conv => whnf)
      | (refine Vc.om ?_ ?_; first | omega | with_reducible rfl | with_reducible exact same_rfl | (simp only [bytes_2, bytes_3, bytes_4, bytes_5, bytes_9, bytes_12, bytes_21, bytes_22, bytes_25, bytes_27, bytes_28, bytes_29, bytes_30, bytes_34, bytes_45, bytes_49, bytes_50, bytes_51, bytes_52, bytes_53, bytes_54, bytes_64, bytes_67, bytes_68, bytes_73, bytes_75, bytes_76, bytes_77, bytes_92, bytes_93, bytes_94, bytes_95, bytes_98, bytes_102, bytes_112, bytes_123, bytes_129]; omega))
      | (refine NilB.mk fun b hb => Step.out ?_)
      | with_reducible trivial
      | exact noSh_bool _
      | exact noSh_lit _
      | exact noSh_int _ _
      | exact noSh_str _
      | with_reducible rfl
      | with_reducible exact same_rfl
      | (refine Wr.i64 ?_ ?_; omega)
      | (refine Wr.u8 ?_ ?_; omega)
      | (refine Wr.i32 ?_ ?_; omega)
      | (with_reducible refine Br.tt ?_)
      | (with_reducible refine Br.ff ?_)
      | (refine Br.dT ?_ ?_; omega)
      | (refine Br.dF ?_ ?_; omega)
      | (refine Met.by (rasc_ct r.t (by omega)) ?_; rintro q outs ⟨rfl, rfl⟩)
      | (refine Met.by (rpairs_ct r.n (by omega)) ?_; rintro q outs ⟨rfl, rfl⟩)
      | (refine Met.by (rpairs_ct r.s (by omega)) ?_; rintro q outs ⟨rfl, rfl⟩)
      | (refine Br.d (fun h => ?_) (fun h => ?_))
      | (refine Br.swap ?_)
      | (refine Br.bnot ?_)
      | (refine Br.mk (fun h => Step.out ?_) (fun h => Step.out ?_))
      | (refine Two.mk (Step.out ?_) (Step.out ?_))
      | (refine CallOK.of_ct (Step.out ?_))
      | (refine Met.by (g := 72) (rtoken_ct _) ?_; rintro q outs ⟨rfl, rfl⟩)
      | (refine Met.by (g := 73) (rasc_ct _ (by first | omega | decide | (simp; done) | (simp; omega))) ?_; rintro q outs ⟨rfl, rfl⟩)
      | (refine Met.by (g := 74) (rpairs_ct _ (by first | omega | decide | (simp; done) | (simp; omega))) ?_; rintro q outs ⟨rfl, rfl⟩)
      | (refine Met.by (g := 75) (rhas_ct _ _ (by first | omega | decide | (simp; done) | (simp; omega))) ?_; rintro q outs ⟨rfl, rfl⟩)
      | (refine Vc.mk ?_ (Step.out ?_))
    · refine Again.by (i + 1) ⟨⟨by omega, by rw [hv, hst (by omega), show tkn (r.t.getD i []) = true from h, Bool.true_and]⟩, by omega⟩ ?_
      repeat' first
        | (refine Step.mk ?_; conv => whnf)
        | (refine Vc.om ?_ ?_; first | omega | with_reducible rfl | with_reducible exact same_rfl | (simp only [bytes_2, bytes_3, bytes_4, bytes_5, bytes_9, bytes_12, bytes_21, bytes_22, bytes_25, bytes_27, bytes_28, bytes_29, bytes_30, bytes_34, bytes_45, bytes_49, bytes_50, bytes_51, bytes_52, bytes_53, bytes_54, bytes_64, bytes_67, bytes_68, bytes_73, bytes_75, bytes_76, bytes_77, bytes_92, bytes_93, bytes_94, bytes_95, bytes_98, bytes_102, bytes_112, bytes_123, bytes_129]; omega))
        | (refine NilB.mk fun b hb => Step.out ?_)
        | with_reducible trivial
        | exact noSh_bool _
        | exact noSh_lit _
        | exact noSh_int _ _
        | exact noSh_str _
        | with_reducible rfl
        | with_reducible exact same_rfl
        | (refine Wr.i64 ?_ ?_; omega)
        | (refine Wr.u8 ?_ ?_; omega)
        | (refine Wr.i32 ?_ ?_; omega)
        | (with_reducible refine Br.tt ?_)
        | (with_reducible refine Br.ff ?_)
        | (refine Br.dT ?_ ?_; omega)
        | (refine Br.dF ?_ ?_; omega)
        | (refine Br.d (fun h => ?_) (fun h => ?_))
        | (refine Br.swap ?_)
        | (refine Br.bnot ?_)
        | (refine Br.mk (fun h => Step.out ?_) (fun h => Step.out ?_))
        | (refine Two.mk (Step.out ?_) (Step.out ?_))
        | (refine CallOK.of_ct (Step.out ?_))
        | (refine Met.by (g := 72) (rtoken_ct _) ?_; rintro q outs ⟨rfl, rfl⟩)
        | (refine Met.by (g := 73) (rasc_ct _ (by first | omega | decide | (simp; done) | (simp; omega))) ?_; rintro q outs ⟨rfl, rfl⟩)
        | (refine Met.by (g := 74) (rpairs_ct _ (by first | omega | decide | (simp; done) | (simp; omega))) ?_; rintro q outs ⟨rfl, rfl⟩)
        | (refine Met.by (g := 75) (rhas_ct _ _ (by first | omega | decide | (simp; done) | (simp; omega))) ?_; rintro q outs ⟨rfl, rfl⟩)
        | (refine Vc.mk ?_ (Step.out ?_))
    · rw [checkE_in ‹_› ‹_› ‹_›, titles_eq, hv, hst (by omega), show tkn (r.t.getD i []) = false from h]; rfl
    · have hT : titlesB r.t = true := by rw [titles_eq, hv, List.drop_of_length_le (by omega), ‹ascB r.t = true›]; rfl
      refine CodeOK.loopW hΓ hm ord49 [] (by kernel_rfl) (α := Nat) (fun j => [(1, .loc 0 0), (4, i64 j)]) (fun j => [(0, .var [strs r.t, prs r.n, prs r.s])]) 1 (fun j => j ≤ r.n.length ∧ (r.n.any fun p => hasS r.t p.2) = ((r.n.drop j).any fun p => hasS r.t p.2)) (fun j => r.n.length - j) ?_ ?_
      · refine Again.by 0 ⟨Nat.zero_le _, rfl⟩ ?_
        repeat' first
          | (refine Step.mk ?_; conv => whnf)
          | (refine Vc.om ?_ ?_; first | omega | with_reducible rfl | with_reducible exact same_rfl | (simp only [bytes_2, bytes_3, bytes_4, bytes_5, bytes_9, bytes_12, bytes_21, bytes_22, bytes_25, bytes_27, bytes_28, bytes_29, bytes_30, bytes_34, bytes_45, bytes_49, bytes_50, bytes_51, bytes_52, bytes_53, bytes_54, bytes_64, bytes_67, bytes_68, bytes_73, bytes_75, bytes_76, bytes_77, bytes_92, bytes_93, bytes_94, bytes_95, bytes_98, bytes_102, bytes_112, bytes_123, bytes_129]; omega))
          | (refine NilB.mk fun b hb => Step.out ?_)
          | with_reducible trivial
          | exact noSh_bool _
          | exact noSh_lit _
          | exact noSh_int _ _
          | exact noSh_str _
          | with_reducible rfl
          | with_reducible exact same_rfl
          | (refine Wr.i64 ?_ ?_; omega)
          | (refine Wr.u8 ?_ ?_; omega)
          | (refine Wr.i32 ?_ ?_; omega)
          | (with_reducible refine Br.tt ?_)
          | (with_reducible refine Br.ff ?_)
          | (refine Br.dT ?_ ?_; omega)
          | (refine Br.dF ?_ ?_; omega)
          | (refine Br.d (fun h => ?_) (fun h => ?_))
          | (refine Br.swap ?_)
          | (refine Br.bnot ?_)
          | (refine Br.mk (fun h => Step.out ?_) (fun h => Step.out ?_))
          | (refine Two.mk (Step.out ?_) (Step.out ?_))
          | (refine CallOK.of_ct (Step.out ?_))
          | (refine Met.by (g := 72) (rtoken_ct _) ?_; rintro q outs ⟨rfl, rfl⟩)
          | (refine Met.by (g := 73) (rasc_ct _ (by first | omega | decide | (simp; done) | (simp; omega))) ?_; rintro q outs ⟨rfl, rfl⟩)
          | (refine Met.by (g := 74) (rpairs_ct _ (by first | omega | decide | (simp; done) | (simp; omega))) ?_; rintro q outs ⟨rfl, rfl⟩)
          | (refine Met.by (g := 75) (rhas_ct _ _ (by first | omega | decide | (simp; done) | (simp; omega))) ?_; rintro q outs ⟨rfl, rfl⟩)
          | (refine Vc.mk ?_ (Step.out ?_))
      · intro j ⟨hj, hw⟩
        have hsu := fun h : j < r.n.length => any_step (fun p : Pr => hasS r.t p.2) r.n ([], []) j h
        repeat' first
          | (refine Step.mk ?_; conv => whnf)
          | (refine Vc.om ?_ ?_; first | omega | with_reducible rfl | with_reducible exact same_rfl | (simp only [bytes_2, bytes_3, bytes_4, bytes_5, bytes_9, bytes_12, bytes_21, bytes_22, bytes_25, bytes_27, bytes_28, bytes_29, bytes_30, bytes_34, bytes_45, bytes_49, bytes_50, bytes_51, bytes_52, bytes_53, bytes_54, bytes_64, bytes_67, bytes_68, bytes_73, bytes_75, bytes_76, bytes_77, bytes_92, bytes_93, bytes_94, bytes_95, bytes_98, bytes_102, bytes_112, bytes_123, bytes_129]; omega))
          | (refine NilB.mk fun b hb => Step.out ?_)
          | with_reducible trivial
          | exact noSh_bool _
          | exact noSh_lit _
          | exact noSh_int _ _
          | exact noSh_str _
          | with_reducible rfl
          | with_reducible exact same_rfl
          | (refine Wr.i64 ?_ ?_; omega)
          | (refine Wr.u8 ?_ ?_; omega)
          | (refine Wr.i32 ?_ ?_; omega)
          | (with_reducible refine Br.tt ?_)
          | (with_reducible refine Br.ff ?_)
          | (refine Br.dT ?_ ?_; omega)
          | (refine Br.dF ?_ ?_; omega)
          | (refine Met.by (rhas_ct r.t _ (by omega)) ?_; rintro q outs ⟨rfl, rfl⟩)
          | (refine Br.d (fun h => ?_) (fun h => ?_))
          | (refine Br.swap ?_)
          | (refine Br.bnot ?_)
          | (refine Br.mk (fun h => Step.out ?_) (fun h => Step.out ?_))
          | (refine Two.mk (Step.out ?_) (Step.out ?_))
          | (refine CallOK.of_ct (Step.out ?_))
          | (refine Met.by (g := 72) (rtoken_ct _) ?_; rintro q outs ⟨rfl, rfl⟩)
          | (refine Met.by (g := 73) (rasc_ct _ (by first | omega | decide | (simp; done) | (simp; omega))) ?_; rintro q outs ⟨rfl, rfl⟩)
          | (refine Met.by (g := 74) (rpairs_ct _ (by first | omega | decide | (simp; done) | (simp; omega))) ?_; rintro q outs ⟨rfl, rfl⟩)
          | (refine Met.by (g := 75) (rhas_ct _ _ (by first | omega | decide | (simp; done) | (simp; omega))) ?_; rintro q outs ⟨rfl, rfl⟩)
          | (refine Vc.mk ?_ (Step.out ?_))
        · rw [checkE_in ‹_› ‹_› ‹_›, hw, hsu (by omega), show hasS r.t (r.n.getD j ([], [])).2 = true from h]; simp only [*, Bool.and_true, Bool.true_and, Bool.and_false, Bool.false_and, Bool.not_true, Bool.not_false, if_true]; rfl
        · refine Again.by (j + 1) ⟨⟨by omega, by rw [hw, hsu (by omega), show hasS r.t (r.n.getD j ([], [])).2 = false from h, Bool.false_or]⟩, by omega⟩ ?_
          repeat' first
            | (refine Step.mk ?_; conv => whnf)
            | (refine Vc.om ?_ ?_; first | omega | with_reducible rfl | with_reducible exact same_rfl | (simp only [bytes_2, bytes_3, bytes_4, bytes_5, bytes_9, bytes_12, bytes_21, bytes_22, bytes_25, bytes_27, bytes_28, bytes_29, bytes_30, bytes_34, bytes_45, bytes_49, bytes_50, bytes_51, bytes_52, bytes_53, bytes_54, bytes_64, bytes_67, bytes_68, bytes_73, bytes_75, bytes_76, bytes_77, bytes_92, bytes_93, bytes_94, bytes_95, bytes_98, bytes_102, bytes_112, bytes_123, bytes_129]; omega))
            | (refine NilB.mk fun b hb => Step.out ?_)
            | with_reducible trivial
            | exact noSh_bool _
            | exact noSh_lit _
            | exact noSh_int _ _
            | exact noSh_str _
            | with_reducible rfl
            | with_reducible exact same_rfl
            | (refine Wr.i64 ?_ ?_; omega)
            | (refine Wr.u8 ?_ ?_; omega)
            | (refine Wr.i32 ?_ ?_; omega)
            | (with_reducible refine Br.tt ?_)
            | (with_reducible refine Br.ff ?_)
            | (refine Br.dT ?_ ?_; omega)
            | (refine Br.dF ?_ ?_; omega)
            | (refine Br.d (fun h => ?_) (fun h => ?_))
            | (refine Br.swap ?_)
            | (refine Br.bnot ?_)
            | (refine Br.mk (fun h => Step.out ?_) (fun h => Step.out ?_))
            | (refine Two.mk (Step.out ?_) (Step.out ?_))
            | (refine CallOK.of_ct (Step.out ?_))
            | (refine Met.by (g := 72) (rtoken_ct _) ?_; rintro q outs ⟨rfl, rfl⟩)
            | (refine Met.by (g := 73) (rasc_ct _ (by first | omega | decide | (simp; done) | (simp; omega))) ?_; rintro q outs ⟨rfl, rfl⟩)
            | (refine Met.by (g := 74) (rpairs_ct _ (by first | omega | decide | (simp; done) | (simp; omega))) ?_; rintro q outs ⟨rfl, rfl⟩)
            | (refine Met.by (g := 75) (rhas_ct _ _ (by first | omega | decide | (simp; done) | (simp; omega))) ?_; rintro q outs ⟨rfl, rfl⟩)
            | (refine Vc.mk ?_ (Step.out ?_))
        · rw [checkE_in ‹_› ‹_› ‹_›, hw, List.drop_of_length_le (by omega)]; simp only [*, List.any_nil, Bool.and_true, Bool.true_and, Bool.and_false, Bool.false_and, Bool.not_true, Bool.not_false, if_true]
    · have hT : titlesB r.t = true := by rw [titles_eq, hv, List.drop_of_length_le (by omega), ‹ascB r.t = true›]; rfl
      rw [checkE_in ‹_› ‹_› ‹_›]; simp only [*, Bool.and_true, Bool.true_and, Bool.and_false, Bool.false_and, Bool.not_true, Bool.not_false, if_true]; rfl
    · have hT : titlesB r.t = true := by rw [titles_eq, hv, List.drop_of_length_le (by omega), ‹ascB r.t = true›]; rfl
      rw [checkE_in ‹_› ‹_› ‹_›]; simp only [*, Bool.and_true, Bool.true_and, Bool.and_false, Bool.false_and, Bool.not_true, Bool.not_false, if_true]; rfl
    · have hT : titlesB r.t = false := by rw [titles_eq, ‹ascB r.t = false›, Bool.and_false]
      rw [checkE_in ‹_› ‹_› ‹_›]; simp only [*, Bool.and_true, Bool.true_and, Bool.and_false, Bool.false_and, Bool.not_true, Bool.not_false, if_true]; rfl
end Kx
