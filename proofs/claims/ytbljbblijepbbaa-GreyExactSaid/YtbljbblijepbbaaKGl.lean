/-
  The law Contradicts.
  No condition beyond those written in each theorem.
-/
import Derived.Test.YtbljbblijepbbaaKGj
open Go Sx Go.Proofs
set_option linter.unusedSimpArgs false
set_option linter.unusedVariables false
namespace Kx
def isInC (l : List Cd) (x y : Rf) : Bool := l.any fun z => decide (z.a = x) && decide (z.b = y)
theorem isInC_step (b : List Cd) (x y : Rf) (i : Nat) (h : i < b.length) : isInC (b.take (i + 1)) x y = (isInC (b.take i) x y || (decide ((b.getD i Cd.z).a = x) && decide ((b.getD i Cd.z).b = y))) := by
  rw [isInC, take_step b Cd.z i h, List.any_append]; simp [isInC]
def sameK (o : Option De) (d : De) : Prop := match o with | none => False | some p => (p.a.g = d.a.g ∧ p.a.i = d.a.i) ∧ (p.b.g = d.b.g ∧ p.b.i = d.b.i)
instance (o : Option De) (d : De) : Decidable (sameK o d) := by cases o <;> unfold sameK <;> infer_instance
/-- The first decision of each couple that is among the candidates. -/
def firsts (l : List Cd) : Option De → List De → List De
  | _, [] => []
  | o, d :: s => if sameK o d then firsts l (some d) s else if isInC l d.a d.b = true then d :: firsts l (some d) s else firsts l (some d) s
theorem firsts_cons (l : List Cd) (o : Option De) (d : De) (s : List De) : firsts l o (d :: s) = if sameK o d then firsts l (some d) s else if isInC l d.a d.b = true then d :: firsts l (some d) s else firsts l (some d) s := rfl
theorem firsts_sub (l : List Cd) : ∀ (s : List De) (o : Option De), (firsts l o s).Sublist s
  | [], _ => List.Sublist.slnil
  | d :: s, o => by
    rw [firsts_cons]
    split
    · exact (firsts_sub l s _).cons d
    · split
      · exact (firsts_sub l s _).cons_cons d
      · exact (firsts_sub l s _).cons d
theorem firsts_ok {l : List Cd} {s : List De} (h : DeV s) : DeV (firsts l none s) := by
  have hs := firsts_sub l s none
  exact ⟨h.p.sublist hs, fun c hc => h.q c (hs.subset hc), Nat.le_trans hs.length_le h.n⟩
theorem sameK_key {p d : De} (h : sameK (some p) d) : deK p = deK d := by
  obtain ⟨⟨h1, h2⟩, h3, h4⟩ := h
  simp only [deK, h1, h2, h3, h4]
theorem tell_firsts {l : List Cd} {c : Cd} (hc : c ∈ l) : ∀ (s : List De) (o : Option De), (∀ p, o = some p → deK p ≠ cdK c) → tell (firsts l o s) (cdK c) = tell s (cdK c)
  | [], _, _ => rfl
  | d :: s, o, ho => by
    rw [firsts_cons]
    by_cases hk : deK d = cdK c
    · have h1 : ¬sameK o d := fun h => by
        cases o with
        | none => exact h
        | some p => exact ho p rfl ((sameK_key h).trans hk)
      have h2 : isInC l d.a d.b = true := by
        rw [isInC, List.any_eq_true]
        refine ⟨c, hc, ?_⟩
        simp only [deK, cdK, List.cons.injEq, and_true] at hk
        obtain ⟨k1, k2, k3, k4⟩ := hk
        have e1 : c.a = d.a := (rf_eq _ _).2 ⟨k1.symm, k2.symm⟩
        have e2 : c.b = d.b := (rf_eq _ _).2 ⟨k3.symm, k4.symm⟩
        rw [e1, e2, decide_eq_true rfl, decide_eq_true rfl]; rfl
      rw [if_neg h1, if_pos h2, tell, tell, if_pos hk, if_pos hk]
    · have ih := tell_firsts hc s (some d) (fun p hp => by cases hp; exact hk)
      rw [tell, if_neg hk, ← ih]
      split
      · rfl
      · split
        · rw [tell, if_neg hk]
        · rfl
theorem bnd_congr {t : Th} {s s' : List De} : ∀ l : List Cd, (∀ c ∈ l, tell s (cdK c) = tell s' (cdK c)) → bnd t s l = bnd t s' l
  | [], _ => rfl
  | c :: l, h => by
    have ih := bnd_congr (t := t) l fun x hx => h x (by simp [hx])
    have hc : counts t s c = counts t s' c := by rw [counts, counts, h c (by simp)]
    rw [bnd, bnd, hc, ih]
theorem bnd_firsts (t : Th) (l : List Cd) (s : List De) : bnd t (firsts l none s) l = bnd t s l :=
  bnd_congr l fun c hc => tell_firsts hc s none (by simp)
section
variable {l : List Cd} {s : List De} {i : Nat} (h : (i : Int) < s.length)
include h
theorem firsts_skip (h0 : 0 < (i : Int)) (hA : (s.getD ((i : Int) - 1).toNat De.z).a.g = (s.getD i De.z).a.g ∧ (s.getD ((i : Int) - 1).toNat De.z).a.i = (s.getD i De.z).a.i)
    (hB : (s.getD ((i : Int) - 1).toNat De.z).b.g = (s.getD i De.z).b.g ∧ (s.getD ((i : Int) - 1).toNat De.z).b.i = (s.getD i De.z).b.i) : firsts l (prev De.z s i) (s.drop i) = firsts l (prev De.z s (i + 1)) (s.drop (i + 1)) := by
  rw [drop_step s De.z i (by omega), firsts_cons, if_pos]
  · rfl
  · rw [prev_pos (by omega)]
    rw [pred_nat i (by omega)] at hA hB
    exact ⟨hA, hB⟩
theorem not_same (hn : ¬(0 < (i : Int) ∧ ((s.getD ((i : Int) - 1).toNat De.z).a.g = (s.getD i De.z).a.g ∧ (s.getD ((i : Int) - 1).toNat De.z).a.i = (s.getD i De.z).a.i)
    ∧ ((s.getD ((i : Int) - 1).toNat De.z).b.g = (s.getD i De.z).b.g ∧ (s.getD ((i : Int) - 1).toNat De.z).b.i = (s.getD i De.z).b.i))) : ¬sameK (prev De.z s i) (s.getD i De.z) := fun hs => by
  cases i with
  | zero => exact hs
  | succ j =>
    refine hn ⟨by omega, ?_⟩
    rw [pred_nat (j + 1) (by omega)]
    exact hs
theorem firsts_keep (hn : ¬sameK (prev De.z s i) (s.getD i De.z)) (hw : isInC l (s.getD i De.z).a (s.getD i De.z).b = true) : firsts l (prev De.z s i) (s.drop i) = (s.getD i De.z) :: firsts l (prev De.z s (i + 1)) (s.drop (i + 1)) := by
  rw [drop_step s De.z i (by omega), firsts_cons, if_neg hn, if_pos hw]; rfl
theorem firsts_drop (hn : ¬sameK (prev De.z s i) (s.getD i De.z)) (hw : isInC l (s.getD i De.z).a (s.getD i De.z).b = false) : firsts l (prev De.z s i) (s.drop i) = firsts l (prev De.z s (i + 1)) (s.drop (i + 1)) := by
  rw [drop_step s De.z i (by omega), firsts_cons, if_neg hn, if_neg (by rw [hw]; simp)]; rfl
end
set_option maxHeartbeats 4000000 in
theorem contradicts_ct (y0 : List Int) : Ct Try.prog 5 [ints y0] fun r outs => r = .bool true ∧ outs = [] := by
  refine .det (.of_W (fn := Try.f5) hΓ hm Try.func5 ord5 [] (by kernel_rfl) (Step.out ?_))
  repeat' first
    | (refine Step.mk ?_; conv => whnf)
    | (refine Vc.om ?_ ?_; first | omega | with_reducible rfl | with_reducible exact same_rfl | (simp only [bytes_2, bytes_3, bytes_4, bytes_5, bytes_9, bytes_12, bytes_21, bytes_22, bytes_25, bytes_27, bytes_28, bytes_30, bytes_32, bytes_33, bytes_36, bytes_37, bytes_38, bytes_39, bytes_41, bytes_42, bytes_43, bytes_44, bytes_45, bytes_46, bytes_52, bytes_56, bytes_58, bytes_60, bytes_67, bytes_68, bytes_69, bytes_70, bytes_71, bytes_72, bytes_73, bytes_74, bytes_75, bytes_76, bytes_77, bytes_81, bytes_84, bytes_85, bytes_87, bytes_95, bytes_96, bytes_111, bytes_115, true_and, and_true] <;> omega))
    | (refine NilB.mk fun b hb => Step.out ?_)
    | with_reducible trivial
    | exact noSh_bool _
    | exact noSh_lit _
    | exact noSh_int _ _
    | exact noSh_str _
    | with_reducible rfl
    | with_reducible exact same_rfl
    | (refine Wr.i64 ?_ ?_; omega)
    | (refine Wr.u8 ?_ ?_; omega)
    | (refine Wr.i32 ?_ ?_; omega)
    | (with_reducible refine Br.tt ?_)
    | (with_reducible refine Br.ff ?_)
    | (refine Br.dT ?_ ?_; omega)
    | (refine Br.dF ?_ ?_; omega)
    | (refine Br.d (fun h => ?_) (fun h => ?_))
    | (refine Br.swap ?_)
    | (refine Br.bnot ?_)
    | (refine Br.mk (fun h => Step.out ?_) (fun h => Step.out ?_))
    | (refine Two.mk (Step.out ?_) (Step.out ?_))
    | (refine Cp.mk fun q hq => Step.out ?_)
    | (refine Ovl.mk (by assumption) (Step.out ?_))
    | (refine CallOK.io1 (g := 11) (Step.out ?_))
    | (refine CallOK.io1 (g := 12) (Step.out ?_))
    | (refine CallOK.ctF (g := 13) (Step.out ?_))
    | (refine CallOK.io1 (g := 17) (Step.out ?_))
    | (refine CallOK.of_ct (Step.out ?_))
    | (refine CallQ.of_ct (Step.out ?_))
    | (refine Met.by (g := 8) (awake_ct) ?_; rintro q outs ⟨rfl, rfl⟩)
    | (refine Met.by (g := 9) (few_ct _) ?_; rintro q outs ⟨rfl, rfl⟩)
    | (refine Met.by (g := 10) (new_ct _ (by assumption)) ?_; rintro q outs ⟨d, hd, rfl, rfl⟩)
    | (refine Met.by (g := 11) (thresholds_ct _) ?_; rintro q outs ⟨t, d, ht, rfl, rfl⟩)
    | (refine Met.by (g := 12) (candidates_ct _) ?_; rintro q outs ⟨l, d, hl, rfl, rfl⟩)
    | (refine Met.by (g := 13) (bonds_ct _ _ _) ?_; rintro q outs ⟨rfl, rfl⟩)
    | (refine Met.by (g := 17) (decs_ct _ _ _ _ (by omega) (by omega)) ?_; rintro q outs ⟨l, d, hl, rfl, rfl⟩)
    | (refine Met.by (g := 18) (sameB_ct _ _ (by omega)) ?_; rintro q outs ⟨rfl, rfl⟩)
    | (refine Vc.mk ?_ (Step.out ?_))
  rename_i c0 d0 hc0
  have hV : DeV l := ⟨hl.p, hl.q, by have := hl.n; omega⟩
  have hlen := hV.n
  have hcl := hc0.n
  generalize l = s at *
  have f1 : fault t c0 s = 0 := fault_ok (by omega) hc0 hV.ok
  have f2 : fault t c0 (firsts c0 none s) = 0 := fault_ok (by omega) hc0 (firsts_ok hV).ok
  have e1 : bondsL t c0 s = bondsL t c0 (firsts c0 none s) := by rw [bondsL, bondsL, if_pos f1, if_pos f2, bnd_firsts]
  have hbl : (bondsL t c0 s).length ≤ c0.length := by rw [bondsL, if_pos f1]; exact bnd_len _ _ _
  refine CodeOK.loopW hΓ hm ord5 [] (by kernel_rfl) (α := Nat × List De) (fun z => [(4, .loc 0 0), (5, cds c0), (6, des s), (7, bds (bondsL t c0 s)), (8, i64 0), (9, .own 1), (40, des s), (41, i64 s.length), (42, i64 z.1)]) (fun z => [(0, .var [i64 t.lo, i64 t.hi]), (1, .arr 43 7 z.2.length fun j => De.f (z.2.getD j De.z))]) 2 (fun z => z.1 ≤ s.length ∧ z.2 ++ firsts c0 (prev De.z s z.1) (s.drop z.1) = firsts c0 none s ∧ z.2.length ≤ z.1) (fun z => s.length - z.1) ?_ ?_
  · refine Again.by (0, []) ⟨Nat.zero_le _, rfl, Nat.le_refl _⟩ ?_
    repeat' first
      | (refine Step.mk ?_; conv => whnf)
      | (refine Vc.om ?_ ?_; first | omega | with_reducible rfl | with_reducible exact same_rfl | (simp only [bytes_2, bytes_3, bytes_4, bytes_5, bytes_9, bytes_12, bytes_21, bytes_22, bytes_25, bytes_27, bytes_28, bytes_30, bytes_32, bytes_33, bytes_36, bytes_37, bytes_38, bytes_39, bytes_41, bytes_42, bytes_43, bytes_44, bytes_45, bytes_46, bytes_52, bytes_56, bytes_58, bytes_60, bytes_67, bytes_68, bytes_69, bytes_70, bytes_71, bytes_72, bytes_73, bytes_74, bytes_75, bytes_76, bytes_77, bytes_81, bytes_84, bytes_85, bytes_87, bytes_95, bytes_96, bytes_111, bytes_115, true_and, and_true] <;> omega))
      | (refine NilB.mk fun b hb => Step.out ?_)
      | with_reducible trivial
      | exact noSh_bool _
      | exact noSh_lit _
      | exact noSh_int _ _
      | exact noSh_str _
      | with_reducible rfl
      | with_reducible exact same_rfl
      | (refine Wr.i64 ?_ ?_; omega)
      | (refine Wr.u8 ?_ ?_; omega)
      | (refine Wr.i32 ?_ ?_; omega)
      | (with_reducible refine Br.tt ?_)
      | (with_reducible refine Br.ff ?_)
      | (refine Br.dT ?_ ?_; omega)
      | (refine Br.dF ?_ ?_; omega)
      | (refine Br.d (fun h => ?_) (fun h => ?_))
      | (refine Br.swap ?_)
      | (refine Br.bnot ?_)
      | (refine Br.mk (fun h => Step.out ?_) (fun h => Step.out ?_))
      | (refine Two.mk (Step.out ?_) (Step.out ?_))
      | (refine Cp.mk fun q hq => Step.out ?_)
      | (refine Ovl.mk (by assumption) (Step.out ?_))
      | (refine CallOK.io1 (g := 11) (Step.out ?_))
      | (refine CallOK.io1 (g := 12) (Step.out ?_))
      | (refine CallOK.ctF (g := 13) (Step.out ?_))
      | (refine CallOK.io1 (g := 17) (Step.out ?_))
      | (refine CallOK.of_ct (Step.out ?_))
      | (refine CallQ.of_ct (Step.out ?_))
      | (refine Met.by (g := 8) (awake_ct) ?_; rintro q outs ⟨rfl, rfl⟩)
      | (refine Met.by (g := 9) (few_ct _) ?_; rintro q outs ⟨rfl, rfl⟩)
      | (refine Met.by (g := 10) (new_ct _ (by assumption)) ?_; rintro q outs ⟨d, hd, rfl, rfl⟩)
      | (refine Met.by (g := 11) (thresholds_ct _) ?_; rintro q outs ⟨t, d, ht, rfl, rfl⟩)
      | (refine Met.by (g := 12) (candidates_ct _) ?_; rintro q outs ⟨l, d, hl, rfl, rfl⟩)
      | (refine Met.by (g := 13) (bonds_ct _ _ _) ?_; rintro q outs ⟨rfl, rfl⟩)
      | (refine Met.by (g := 17) (decs_ct _ _ _ _ (by omega) (by omega)) ?_; rintro q outs ⟨l, d, hl, rfl, rfl⟩)
      | (refine Met.by (g := 18) (sameB_ct _ _ (by omega)) ?_; rintro q outs ⟨rfl, rfl⟩)
      | (refine Vc.mk ?_ (Step.out ?_))
    all_goals first | rfl | exact f1 | exact ⟨rfl, fun _ _ => rfl⟩
  · intro ⟨i, e⟩ ⟨h1, h2, h3⟩
    dsimp only at h1 h2 h3 ⊢
    repeat' first
      | (refine Step.mk ?_; conv => whnf)
      | (refine Vc.om ?_ ?_; first | omega | with_reducible rfl | with_reducible exact same_rfl | (simp only [bytes_2, bytes_3, bytes_4, bytes_5, bytes_9, bytes_12, bytes_21, bytes_22, bytes_25, bytes_27, bytes_28, bytes_30, bytes_32, bytes_33, bytes_36, bytes_37, bytes_38, bytes_39, bytes_41, bytes_42, bytes_43, bytes_44, bytes_45, bytes_46, bytes_52, bytes_56, bytes_58, bytes_60, bytes_67, bytes_68, bytes_69, bytes_70, bytes_71, bytes_72, bytes_73, bytes_74, bytes_75, bytes_76, bytes_77, bytes_81, bytes_84, bytes_85, bytes_87, bytes_95, bytes_96, bytes_111, bytes_115, true_and, and_true] <;> omega))
      | (refine NilB.mk fun b hb => Step.out ?_)
      | with_reducible trivial
      | exact noSh_bool _
      | exact noSh_lit _
      | exact noSh_int _ _
      | exact noSh_str _
      | with_reducible rfl
      | with_reducible exact same_rfl
      | (refine Wr.i64 ?_ ?_; omega)
      | (refine Wr.u8 ?_ ?_; omega)
      | (refine Wr.i32 ?_ ?_; omega)
      | (with_reducible refine Br.tt ?_)
      | (with_reducible refine Br.ff ?_)
      | (refine Br.dT ?_ ?_; omega)
      | (refine Br.dF ?_ ?_; omega)
      | (refine Br.d (fun h => ?_) (fun h => ?_))
      | (refine Br.swap ?_)
      | (refine Br.bnot ?_)
      | (refine Br.mk (fun h => Step.out ?_) (fun h => Step.out ?_))
      | (refine Two.mk (Step.out ?_) (Step.out ?_))
      | (refine Cp.mk fun q hq => Step.out ?_)
      | (refine Ovl.mk (by assumption) (Step.out ?_))
      | (refine CallOK.io1 (g := 11) (Step.out ?_))
      | (refine CallOK.io1 (g := 12) (Step.out ?_))
      | (refine CallOK.ctF (g := 13) (Step.out ?_))
      | (refine CallOK.io1 (g := 17) (Step.out ?_))
      | (refine CallOK.of_ct (Step.out ?_))
      | (refine CallQ.of_ct (Step.out ?_))
      | (refine Met.by (g := 8) (awake_ct) ?_; rintro q outs ⟨rfl, rfl⟩)
      | (refine Met.by (g := 9) (few_ct _) ?_; rintro q outs ⟨rfl, rfl⟩)
      | (refine Met.by (g := 10) (new_ct _ (by assumption)) ?_; rintro q outs ⟨d, hd, rfl, rfl⟩)
      | (refine Met.by (g := 11) (thresholds_ct _) ?_; rintro q outs ⟨t, d, ht, rfl, rfl⟩)
      | (refine Met.by (g := 12) (candidates_ct _) ?_; rintro q outs ⟨l, d, hl, rfl, rfl⟩)
      | (refine Met.by (g := 13) (bonds_ct _ _ _) ?_; rintro q outs ⟨rfl, rfl⟩)
      | (refine Met.by (g := 17) (decs_ct _ _ _ _ (by omega) (by omega)) ?_; rintro q outs ⟨l, d, hl, rfl, rfl⟩)
      | (refine Met.by (g := 18) (sameB_ct _ _ (by omega)) ?_; rintro q outs ⟨rfl, rfl⟩)
      | (refine Vc.mk ?_ (Step.out ?_))
    · simp only [Int.toNat_natCast] at *
      refine Again.by (i + 1, e) ⟨⟨by dsimp only; omega, by dsimp only; rw [← h2, firsts_skip (i := i) ‹_› ‹_› ‹_› ‹_›], by dsimp only; omega⟩, by dsimp only; omega⟩ ?_
      repeat' first
        | (refine Step.mk ?_; conv => whnf)
        | (refine Vc.om ?_ ?_; first | omega | with_reducible rfl | with_reducible exact same_rfl | (simp only [bytes_2, bytes_3, bytes_4, bytes_5, bytes_9, bytes_12, bytes_21, bytes_22, bytes_25, bytes_27, bytes_28, bytes_30, bytes_32, bytes_33, bytes_36, bytes_37, bytes_38, bytes_39, bytes_41, bytes_42, bytes_43, bytes_44, bytes_45, bytes_46, bytes_52, bytes_56, bytes_58, bytes_60, bytes_67, bytes_68, bytes_69, bytes_70, bytes_71, bytes_72, bytes_73, bytes_74, bytes_75, bytes_76, bytes_77, bytes_81, bytes_84, bytes_85, bytes_87, bytes_95, bytes_96, bytes_111, bytes_115, true_and, and_true] <;> omega))
        | (refine NilB.mk fun b hb => Step.out ?_)
        | with_reducible trivial
        | exact noSh_bool _
        | exact noSh_lit _
        | exact noSh_int _ _
        | exact noSh_str _
        | with_reducible rfl
        | with_reducible exact same_rfl
        | (refine Wr.i64 ?_ ?_; omega)
        | (refine Wr.u8 ?_ ?_; omega)
        | (refine Wr.i32 ?_ ?_; omega)
        | (with_reducible refine Br.tt ?_)
        | (with_reducible refine Br.ff ?_)
        | (refine Br.dT ?_ ?_; omega)
        | (refine Br.dF ?_ ?_; omega)
        | (refine Br.d (fun h => ?_) (fun h => ?_))
        | (refine Br.swap ?_)
        | (refine Br.bnot ?_)
        | (refine Br.mk (fun h => Step.out ?_) (fun h => Step.out ?_))
        | (refine Two.mk (Step.out ?_) (Step.out ?_))
        | (refine Cp.mk fun q hq => Step.out ?_)
        | (refine Ovl.mk (by assumption) (Step.out ?_))
        | (refine CallOK.io1 (g := 11) (Step.out ?_))
        | (refine CallOK.io1 (g := 12) (Step.out ?_))
        | (refine CallOK.ctF (g := 13) (Step.out ?_))
        | (refine CallOK.io1 (g := 17) (Step.out ?_))
        | (refine CallOK.of_ct (Step.out ?_))
        | (refine CallQ.of_ct (Step.out ?_))
        | (refine Met.by (g := 8) (awake_ct) ?_; rintro q outs ⟨rfl, rfl⟩)
        | (refine Met.by (g := 9) (few_ct _) ?_; rintro q outs ⟨rfl, rfl⟩)
        | (refine Met.by (g := 10) (new_ct _ (by assumption)) ?_; rintro q outs ⟨d, hd, rfl, rfl⟩)
        | (refine Met.by (g := 11) (thresholds_ct _) ?_; rintro q outs ⟨t, d, ht, rfl, rfl⟩)
        | (refine Met.by (g := 12) (candidates_ct _) ?_; rintro q outs ⟨l, d, hl, rfl, rfl⟩)
        | (refine Met.by (g := 13) (bonds_ct _ _ _) ?_; rintro q outs ⟨rfl, rfl⟩)
        | (refine Met.by (g := 17) (decs_ct _ _ _ _ (by omega) (by omega)) ?_; rintro q outs ⟨l, d, hl, rfl, rfl⟩)
        | (refine Met.by (g := 18) (sameB_ct _ _ (by omega)) ?_; rintro q outs ⟨rfl, rfl⟩)
        | (refine Vc.mk ?_ (Step.out ?_))
      all_goals exact ⟨rfl, fun _ _ => rfl⟩
    all_goals try
      have hn : ¬sameK (prev De.z s i) (s.getD i De.z) := by
        try simp only [Int.toNat_natCast] at *
        exact not_same ‹_› fun hh => by first | exact absurd hh.1 ‹_› | exact absurd hh.2.1 ‹_› | exact absurd hh.2.2 ‹_›
      clear f1 f2 e1
      refine CodeOK.loopW hΓ hm ord5 [] (by kernel_rfl) (α := Nat) (fun k => [(4, .loc 0 0), (5, cds c0), (6, des s), (7, bds (bondsL t c0 s)), (8, i64 0), (9, .own 1), (11, .loc 2 0), (12, .bool (isInC (c0.take k) (s.getD i De.z).a (s.getD i De.z).b)), (40, des s), (41, i64 s.length), (42, i64 i), (71, cds c0), (72, i64 c0.length), (73, i64 k)]) (fun k => [(0, .var [i64 t.lo, i64 t.hi]), (1, .arr 43 7 e.length fun j => De.f (e.getD j De.z)), (2, .var (De.f (s.getD i De.z)))]) 3 (fun k => k ≤ c0.length) (fun k => c0.length - k) ?_ ?_
      · refine Again.by 0 (Nat.zero_le _) ?_
        repeat' first
          | (refine Step.mk ?_; conv => whnf)
          | (refine Vc.om ?_ ?_; first | omega | with_reducible rfl | with_reducible exact same_rfl | (simp only [bytes_2, bytes_3, bytes_4, bytes_5, bytes_9, bytes_12, bytes_21, bytes_22, bytes_25, bytes_27, bytes_28, bytes_30, bytes_32, bytes_33, bytes_36, bytes_37, bytes_38, bytes_39, bytes_41, bytes_42, bytes_43, bytes_44, bytes_45, bytes_46, bytes_52, bytes_56, bytes_58, bytes_60, bytes_67, bytes_68, bytes_69, bytes_70, bytes_71, bytes_72, bytes_73, bytes_74, bytes_75, bytes_76, bytes_77, bytes_81, bytes_84, bytes_85, bytes_87, bytes_95, bytes_96, bytes_111, bytes_115, true_and, and_true] <;> omega))
          | (refine NilB.mk fun b hb => Step.out ?_)
          | with_reducible trivial
          | exact noSh_bool _
          | exact noSh_lit _
          | exact noSh_int _ _
          | exact noSh_str _
          | with_reducible rfl
          | with_reducible exact same_rfl
          | (refine Wr.i64 ?_ ?_; omega)
          | (refine Wr.u8 ?_ ?_; omega)
          | (refine Wr.i32 ?_ ?_; omega)
          | (with_reducible refine Br.tt ?_)
          | (with_reducible refine Br.ff ?_)
          | (refine Br.dT ?_ ?_; omega)
          | (refine Br.dF ?_ ?_; omega)
          | (refine Br.d (fun h => ?_) (fun h => ?_))
          | (refine Br.swap ?_)
          | (refine Br.bnot ?_)
          | (refine Br.mk (fun h => Step.out ?_) (fun h => Step.out ?_))
          | (refine Two.mk (Step.out ?_) (Step.out ?_))
          | (refine Cp.mk fun q hq => Step.out ?_)
          | (refine Ovl.mk (by assumption) (Step.out ?_))
          | (refine CallOK.io1 (g := 11) (Step.out ?_))
          | (refine CallOK.io1 (g := 12) (Step.out ?_))
          | (refine CallOK.ctF (g := 13) (Step.out ?_))
          | (refine CallOK.io1 (g := 17) (Step.out ?_))
          | (refine CallOK.of_ct (Step.out ?_))
          | (refine CallQ.of_ct (Step.out ?_))
          | (refine Met.by (g := 8) (awake_ct) ?_; rintro q outs ⟨rfl, rfl⟩)
          | (refine Met.by (g := 9) (few_ct _) ?_; rintro q outs ⟨rfl, rfl⟩)
          | (refine Met.by (g := 10) (new_ct _ (by assumption)) ?_; rintro q outs ⟨d, hd, rfl, rfl⟩)
          | (refine Met.by (g := 11) (thresholds_ct _) ?_; rintro q outs ⟨t, d, ht, rfl, rfl⟩)
          | (refine Met.by (g := 12) (candidates_ct _) ?_; rintro q outs ⟨l, d, hl, rfl, rfl⟩)
          | (refine Met.by (g := 13) (bonds_ct _ _ _) ?_; rintro q outs ⟨rfl, rfl⟩)
          | (refine Met.by (g := 17) (decs_ct _ _ _ _ (by omega) (by omega)) ?_; rintro q outs ⟨l, d, hl, rfl, rfl⟩)
          | (refine Met.by (g := 18) (sameB_ct _ _ (by omega)) ?_; rintro q outs ⟨rfl, rfl⟩)
          | (refine Vc.mk ?_ (Step.out ?_))
        all_goals first | rfl | exact ⟨rfl, fun _ _ => rfl⟩
      · intro k hk
        have hki := firsts_keep (l := c0) (s := s) (i := i) (by omega) hn
        have hdi := firsts_drop (l := c0) (s := s) (i := i) (by omega) hn
        clear hn
        generalize hY : s.getD i De.z = Y at *
        repeat' first
          | (refine Step.mk ?_; conv => whnf)
          | (refine Vc.om ?_ ?_; first | omega | with_reducible rfl | with_reducible exact same_rfl | (simp only [bytes_2, bytes_3, bytes_4, bytes_5, bytes_9, bytes_12, bytes_21, bytes_22, bytes_25, bytes_27, bytes_28, bytes_30, bytes_32, bytes_33, bytes_36, bytes_37, bytes_38, bytes_39, bytes_41, bytes_42, bytes_43, bytes_44, bytes_45, bytes_46, bytes_52, bytes_56, bytes_58, bytes_60, bytes_67, bytes_68, bytes_69, bytes_70, bytes_71, bytes_72, bytes_73, bytes_74, bytes_75, bytes_76, bytes_77, bytes_81, bytes_84, bytes_85, bytes_87, bytes_95, bytes_96, bytes_111, bytes_115, true_and, and_true] <;> omega))
          | (refine NilB.mk fun b hb => Step.out ?_)
          | with_reducible trivial
          | exact noSh_bool _
          | exact noSh_lit _
          | exact noSh_int _ _
          | exact noSh_str _
          | with_reducible rfl
          | with_reducible exact same_rfl
          | (refine Wr.i64 ?_ ?_; omega)
          | (refine Wr.u8 ?_ ?_; omega)
          | (refine Wr.i32 ?_ ?_; omega)
          | (with_reducible refine Br.tt ?_)
          | (with_reducible refine Br.ff ?_)
          | (refine Br.dT ?_ ?_; omega)
          | (refine Br.dF ?_ ?_; omega)
          | (refine Br.d (fun h => ?_) (fun h => ?_))
          | (refine Br.swap ?_)
          | (refine Br.bnot ?_)
          | (refine Br.mk (fun h => Step.out ?_) (fun h => Step.out ?_))
          | (refine Two.mk (Step.out ?_) (Step.out ?_))
          | (refine Cp.mk fun q hq => Step.out ?_)
          | (refine Ovl.mk (by assumption) (Step.out ?_))
          | (refine CallOK.io1 (g := 11) (Step.out ?_))
          | (refine CallOK.io1 (g := 12) (Step.out ?_))
          | (refine CallOK.ctF (g := 13) (Step.out ?_))
          | (refine CallOK.io1 (g := 17) (Step.out ?_))
          | (refine CallOK.of_ct (Step.out ?_))
          | (refine CallQ.of_ct (Step.out ?_))
          | (refine Met.by (g := 8) (awake_ct) ?_; rintro q outs ⟨rfl, rfl⟩)
          | (refine Met.by (g := 9) (few_ct _) ?_; rintro q outs ⟨rfl, rfl⟩)
          | (refine Met.by (g := 10) (new_ct _ (by assumption)) ?_; rintro q outs ⟨d, hd, rfl, rfl⟩)
          | (refine Met.by (g := 11) (thresholds_ct _) ?_; rintro q outs ⟨t, d, ht, rfl, rfl⟩)
          | (refine Met.by (g := 12) (candidates_ct _) ?_; rintro q outs ⟨l, d, hl, rfl, rfl⟩)
          | (refine Met.by (g := 13) (bonds_ct _ _ _) ?_; rintro q outs ⟨rfl, rfl⟩)
          | (refine Met.by (g := 17) (decs_ct _ _ _ _ (by omega) (by omega)) ?_; rintro q outs ⟨l, d, hl, rfl, rfl⟩)
          | (refine Met.by (g := 18) (sameB_ct _ _ (by omega)) ?_; rintro q outs ⟨rfl, rfl⟩)
          | (refine Vc.mk ?_ (Step.out ?_))
        all_goals try
          refine Again.by (k + 1) ⟨by omega, by omega⟩ ?_
          rw [isInC_step c0 Y.a Y.b k (by omega)]
          repeat' first
            | (refine Step.mk ?_; conv => whnf)
            | (refine Vc.om ?_ ?_; first | omega | with_reducible rfl | with_reducible exact same_rfl | (simp only [bytes_2, bytes_3, bytes_4, bytes_5, bytes_9, bytes_12, bytes_21, bytes_22, bytes_25, bytes_27, bytes_28, bytes_30, bytes_32, bytes_33, bytes_36, bytes_37, bytes_38, bytes_39, bytes_41, bytes_42, bytes_43, bytes_44, bytes_45, bytes_46, bytes_52, bytes_56, bytes_58, bytes_60, bytes_67, bytes_68, bytes_69, bytes_70, bytes_71, bytes_72, bytes_73, bytes_74, bytes_75, bytes_76, bytes_77, bytes_81, bytes_84, bytes_85, bytes_87, bytes_95, bytes_96, bytes_111, bytes_115, true_and, and_true] <;> omega))
            | (refine NilB.mk fun b hb => Step.out ?_)
            | with_reducible trivial
            | exact noSh_bool _
            | exact noSh_lit _
            | exact noSh_int _ _
            | exact noSh_str _
            | with_reducible rfl
            | with_reducible exact same_rfl
            | (refine Wr.i64 ?_ ?_; omega)
            | (refine Wr.u8 ?_ ?_; omega)
            | (refine Wr.i32 ?_ ?_; omega)
            | (with_reducible refine Br.tt ?_)
            | (with_reducible refine Br.ff ?_)
            | (refine Br.dT ?_ ?_; omega)
            | (refine Br.dF ?_ ?_; omega)
            | (refine Br.d (fun h => ?_) (fun h => ?_))
            | (refine Br.swap ?_)
            | (refine Br.bnot ?_)
            | (refine Br.mk (fun h => Step.out ?_) (fun h => Step.out ?_))
            | (refine Two.mk (Step.out ?_) (Step.out ?_))
            | (refine Cp.mk fun q hq => Step.out ?_)
            | (refine Ovl.mk (by assumption) (Step.out ?_))
            | (refine CallOK.io1 (g := 11) (Step.out ?_))
            | (refine CallOK.io1 (g := 12) (Step.out ?_))
            | (refine CallOK.ctF (g := 13) (Step.out ?_))
            | (refine CallOK.io1 (g := 17) (Step.out ?_))
            | (refine CallOK.of_ct (Step.out ?_))
            | (refine CallQ.of_ct (Step.out ?_))
            | (refine Met.by (g := 8) (awake_ct) ?_; rintro q outs ⟨rfl, rfl⟩)
            | (refine Met.by (g := 9) (few_ct _) ?_; rintro q outs ⟨rfl, rfl⟩)
            | (refine Met.by (g := 10) (new_ct _ (by assumption)) ?_; rintro q outs ⟨d, hd, rfl, rfl⟩)
            | (refine Met.by (g := 11) (thresholds_ct _) ?_; rintro q outs ⟨t, d, ht, rfl, rfl⟩)
            | (refine Met.by (g := 12) (candidates_ct _) ?_; rintro q outs ⟨l, d, hl, rfl, rfl⟩)
            | (refine Met.by (g := 13) (bonds_ct _ _ _) ?_; rintro q outs ⟨rfl, rfl⟩)
            | (refine Met.by (g := 17) (decs_ct _ _ _ _ (by omega) (by omega)) ?_; rintro q outs ⟨l, d, hl, rfl, rfl⟩)
            | (refine Met.by (g := 18) (sameB_ct _ _ (by omega)) ?_; rintro q outs ⟨rfl, rfl⟩)
            | (refine Vc.mk ?_ (Step.out ?_))
          all_goals try simp only [Int.toNat_natCast] at *
          all_goals try simp only [rf_eq]
          all_goals simp [-List.getD_eq_getElem?_getD, *]
          done
        · have hw : isInC c0 Y.a Y.b = true := by rw [List.take_of_length_le (by omega)] at h; exact h
          refine Again.by (i + 1, e ++ [Y]) ⟨⟨by dsimp only; omega, by dsimp only; rw [← h2, hki hw, List.append_assoc]; rfl, by simp; omega⟩, by dsimp only; omega⟩ ?_
          repeat' first
            | (refine Step.mk ?_; conv => whnf)
            | (refine Vc.om ?_ ?_; first | omega | with_reducible rfl | with_reducible exact same_rfl | (simp only [bytes_2, bytes_3, bytes_4, bytes_5, bytes_9, bytes_12, bytes_21, bytes_22, bytes_25, bytes_27, bytes_28, bytes_30, bytes_32, bytes_33, bytes_36, bytes_37, bytes_38, bytes_39, bytes_41, bytes_42, bytes_43, bytes_44, bytes_45, bytes_46, bytes_52, bytes_56, bytes_58, bytes_60, bytes_67, bytes_68, bytes_69, bytes_70, bytes_71, bytes_72, bytes_73, bytes_74, bytes_75, bytes_76, bytes_77, bytes_81, bytes_84, bytes_85, bytes_87, bytes_95, bytes_96, bytes_111, bytes_115, true_and, and_true] <;> omega))
            | (refine NilB.mk fun b hb => Step.out ?_)
            | with_reducible trivial
            | exact noSh_bool _
            | exact noSh_lit _
            | exact noSh_int _ _
            | exact noSh_str _
            | with_reducible rfl
            | with_reducible exact same_rfl
            | (refine Wr.i64 ?_ ?_; omega)
            | (refine Wr.u8 ?_ ?_; omega)
            | (refine Wr.i32 ?_ ?_; omega)
            | (with_reducible refine Br.tt ?_)
            | (with_reducible refine Br.ff ?_)
            | (refine Br.dT ?_ ?_; omega)
            | (refine Br.dF ?_ ?_; omega)
            | (refine Br.d (fun h => ?_) (fun h => ?_))
            | (refine Br.swap ?_)
            | (refine Br.bnot ?_)
            | (refine Br.mk (fun h => Step.out ?_) (fun h => Step.out ?_))
            | (refine Two.mk (Step.out ?_) (Step.out ?_))
            | (refine Cp.mk fun q hq => Step.out ?_)
            | (refine Ovl.mk (by assumption) (Step.out ?_))
            | (refine CallOK.io1 (g := 11) (Step.out ?_))
            | (refine CallOK.io1 (g := 12) (Step.out ?_))
            | (refine CallOK.ctF (g := 13) (Step.out ?_))
            | (refine CallOK.io1 (g := 17) (Step.out ?_))
            | (refine CallOK.of_ct (Step.out ?_))
            | (refine CallQ.of_ct (Step.out ?_))
            | (refine Met.by (g := 8) (awake_ct) ?_; rintro q outs ⟨rfl, rfl⟩)
            | (refine Met.by (g := 9) (few_ct _) ?_; rintro q outs ⟨rfl, rfl⟩)
            | (refine Met.by (g := 10) (new_ct _ (by assumption)) ?_; rintro q outs ⟨d, hd, rfl, rfl⟩)
            | (refine Met.by (g := 11) (thresholds_ct _) ?_; rintro q outs ⟨t, d, ht, rfl, rfl⟩)
            | (refine Met.by (g := 12) (candidates_ct _) ?_; rintro q outs ⟨l, d, hl, rfl, rfl⟩)
            | (refine Met.by (g := 13) (bonds_ct _ _ _) ?_; rintro q outs ⟨rfl, rfl⟩)
            | (refine Met.by (g := 17) (decs_ct _ _ _ _ (by omega) (by omega)) ?_; rintro q outs ⟨l, d, hl, rfl, rfl⟩)
            | (refine Met.by (g := 18) (sameB_ct _ _ (by omega)) ?_; rintro q outs ⟨rfl, rfl⟩)
            | (refine Vc.mk ?_ (Step.out ?_))
          all_goals exact app1 De.f De.z ite_de e Y
        · have hw : isInC c0 Y.a Y.b = false := by rw [List.take_of_length_le (by omega)] at h; exact h
          refine Again.by (i + 1, e) ⟨⟨by dsimp only; omega, by dsimp only; rw [← h2, hdi hw], by dsimp only; omega⟩, by dsimp only; omega⟩ ?_
          repeat' first
            | (refine Step.mk ?_; conv => whnf)
            | (refine Vc.om ?_ ?_; first | omega | with_reducible rfl | with_reducible exact same_rfl | (simp only [bytes_2, bytes_3, bytes_4, bytes_5, bytes_9, bytes_12, bytes_21, bytes_22, bytes_25, bytes_27, bytes_28, bytes_30, bytes_32, bytes_33, bytes_36, bytes_37, bytes_38, bytes_39, bytes_41, bytes_42, bytes_43, bytes_44, bytes_45, bytes_46, bytes_52, bytes_56, bytes_58, bytes_60, bytes_67, bytes_68, bytes_69, bytes_70, bytes_71, bytes_72, bytes_73, bytes_74, bytes_75, bytes_76, bytes_77, bytes_81, bytes_84, bytes_85, bytes_87, bytes_95, bytes_96, bytes_111, bytes_115, true_and, and_true] <;> omega))
            | (refine NilB.mk fun b hb => Step.out ?_)
            | with_reducible trivial
            | exact noSh_bool _
            | exact noSh_lit _
            | exact noSh_int _ _
            | exact noSh_str _
            | with_reducible rfl
            | with_reducible exact same_rfl
            | (refine Wr.i64 ?_ ?_; omega)
            | (refine Wr.u8 ?_ ?_; omega)
            | (refine Wr.i32 ?_ ?_; omega)
            | (with_reducible refine Br.tt ?_)
            | (with_reducible refine Br.ff ?_)
            | (refine Br.dT ?_ ?_; omega)
            | (refine Br.dF ?_ ?_; omega)
            | (refine Br.d (fun h => ?_) (fun h => ?_))
            | (refine Br.swap ?_)
            | (refine Br.bnot ?_)
            | (refine Br.mk (fun h => Step.out ?_) (fun h => Step.out ?_))
            | (refine Two.mk (Step.out ?_) (Step.out ?_))
            | (refine Cp.mk fun q hq => Step.out ?_)
            | (refine Ovl.mk (by assumption) (Step.out ?_))
            | (refine CallOK.io1 (g := 11) (Step.out ?_))
            | (refine CallOK.io1 (g := 12) (Step.out ?_))
            | (refine CallOK.ctF (g := 13) (Step.out ?_))
            | (refine CallOK.io1 (g := 17) (Step.out ?_))
            | (refine CallOK.of_ct (Step.out ?_))
            | (refine CallQ.of_ct (Step.out ?_))
            | (refine Met.by (g := 8) (awake_ct) ?_; rintro q outs ⟨rfl, rfl⟩)
            | (refine Met.by (g := 9) (few_ct _) ?_; rintro q outs ⟨rfl, rfl⟩)
            | (refine Met.by (g := 10) (new_ct _ (by assumption)) ?_; rintro q outs ⟨d, hd, rfl, rfl⟩)
            | (refine Met.by (g := 11) (thresholds_ct _) ?_; rintro q outs ⟨t, d, ht, rfl, rfl⟩)
            | (refine Met.by (g := 12) (candidates_ct _) ?_; rintro q outs ⟨l, d, hl, rfl, rfl⟩)
            | (refine Met.by (g := 13) (bonds_ct _ _ _) ?_; rintro q outs ⟨rfl, rfl⟩)
            | (refine Met.by (g := 17) (decs_ct _ _ _ _ (by omega) (by omega)) ?_; rintro q outs ⟨l, d, hl, rfl, rfl⟩)
            | (refine Met.by (g := 18) (sameB_ct _ _ (by omega)) ?_; rintro q outs ⟨rfl, rfl⟩)
            | (refine Vc.mk ?_ (Step.out ?_))
          all_goals exact ⟨rfl, fun _ _ => rfl⟩
    all_goals
      have he : e = firsts c0 none s := by rw [List.drop_of_length_le (by omega)] at h2; rw [← h2, firsts, List.append_nil]
      subst he
      first
        | exact decide_eq_true e1
        | exact absurd f2 ‹_›
end Kx
