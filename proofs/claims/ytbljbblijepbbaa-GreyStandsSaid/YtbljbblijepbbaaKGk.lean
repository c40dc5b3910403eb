/-
  The law Higher.
  No condition beyond those written in each theorem.
-/
import Derived.Test.YtbljbblijepbbaaKGj
open Go Sx Go.Proofs
set_option linter.unusedSimpArgs false
set_option linter.unusedVariables false
namespace Kx
def nones (t : Th) (l : List Cd) : Nat := (l.filter fun c => decide (cls t c.w = 0)).length
theorem nones_step (t : Th) (l : List Cd) (i : Nat) (h : i < l.length) : nones t (l.take (i + 1)) = if cls t (l.getD i Cd.z).w = 0 then nones t (l.take i) + 1 else nones t (l.take i) := by
  rw [nones, filter_step _ l Cd.z i h, List.length_append]
  by_cases hc : cls t (l.getD i Cd.z).w = 0
  · rw [if_pos (decide_eq_true hc), if_pos hc]; rfl
  · rw [if_neg (by simpa using hc), if_neg hc]; rfl
theorem open_nil (t : Th) (c : Cd) : isOpen t [] c = decide (cls t c.w = 1) := by simp [isOpen, tell]
theorem counts_nil2 (t : Th) (c : Cd) : counts t [] c = decide (cls t c.w = 2) := by simp [counts, tell]
theorem three (t : Th) : ∀ l : List Cd, nones t l + (bnd t [] l).length + (opn t [] l).length = l.length
  | [] => rfl
  | c :: l => by
    have ih := three t l
    rw [bnd, opn, counts_nil2, open_nil, nones, List.filter_cons]
    rw [nones] at ih
    rcases cls_tri t c.w with h | h | h <;> rw [h] <;> simp <;> omega
def isInR (b : List Bd) (x y : Rf) : Bool := b.any fun z => decide (x = z.a) && decide (y = z.b)
theorem isInR_step (b : List Bd) (x y : Rf) (i : Nat) (h : i < b.length) : isInR (b.take (i + 1)) x y = (isInR (b.take i) x y || (decide (x = (b.getD i Bd.z).a) && decide (y = (b.getD i Bd.z).b))) := by
  rw [isInR, take_step b Bd.z i h, List.any_append]; simp [isInR]
theorem higher_in {t u : Th} (hu : t.hi ≤ u.hi) {l : List Cd} {y : Bd} (hy : y ∈ bnd u [] l) : isInR (bnd t [] l) y.a y.b = true := by
  obtain ⟨c, hc, h1, rfl⟩ := (mem_bnd u [] l y).1 hy
  rw [counts_nil] at h1
  have h1 := of_decide_eq_true h1
  rw [isInR, List.any_eq_true]
  exact ⟨bndOf t c, (mem_bnd t [] l _).2 ⟨c, hc, by rw [counts_nil]; exact decide_eq_true (by omega), rfl⟩, by simp [bndOf]⟩
set_option maxHeartbeats 4000000 in
theorem higher_ct (y0 : List Int) : Ct Try.prog 4 [ints y0] fun r outs => r = .bool true ∧ outs = [] := by
  refine .det (.of_W (fn := Try.f4) hΓ hm Try.func4 ord4 [] (by kernel_rfl) (Step.out ?_))
  repeat' first
    | (refine Step.mk ?_; conv => whnf)
    | (refine Vc.om ?_ ?_; first | omega | with_reducible rfl | with_reducible exact same_rfl | (simp only [bytes_2, bytes_3, bytes_4, bytes_5, bytes_9, bytes_12, bytes_21, bytes_22, bytes_25, bytes_27, bytes_28, bytes_30, bytes_32, bytes_33, bytes_36, bytes_37, bytes_38, bytes_39, bytes_41, bytes_42, bytes_43, bytes_44, bytes_45, bytes_46, bytes_52, bytes_56, bytes_58, bytes_60, bytes_67, bytes_68, bytes_69, bytes_70, bytes_71, bytes_72, bytes_73, bytes_74, bytes_75, bytes_76, bytes_77, bytes_81, bytes_84, bytes_85, bytes_87, bytes_95, bytes_96, bytes_111, bytes_115, true_and, and_true] <;> omega))
    | (refine NilB.mk fun b hb => Step.out ?_)
    | with_reducible trivial
    | exact noSh_bool _
    | exact noSh_lit _
    | exact noSh_int _ _
    | exact noSh_str _
    | with_reducible rfl
    | with_reducible exact same_rfl
    | (refine Wr.i64 ?_ ?_; omega)
    | (refine Wr.u8 ?_ ?_; omega)
    | (refine Wr.i32 ?_ ?_; omega)
    | (with_reducible refine Br.tt ?_)
    | (with_reducible refine Br.ff ?_)
    | (refine Br.dT ?_ ?_; omega)
    | (refine Br.dF ?_ ?_; omega)
    | (refine Met.by (bonds0_ct t l) ?_; rintro q outs ⟨rfl, rfl⟩)
    | (refine Met.by (bonds0_ct ⟨t.lo, t.hi + x⟩ l) ?_; rintro q outs ⟨rfl, rfl⟩)
    | (refine Met.by (open0_ct t l) ?_; rintro q outs ⟨rfl, rfl⟩)
    | (refine Br.d (fun h => ?_) (fun h => ?_))
    | (refine Br.swap ?_)
    | (refine Br.bnot ?_)
    | (refine Br.mk (fun h => Step.out ?_) (fun h => Step.out ?_))
    | (refine Two.mk (Step.out ?_) (Step.out ?_))
    | (refine Cp.mk fun q hq => Step.out ?_)
    | (refine Ovl.mk (by assumption) (Step.out ?_))
    | (refine CallOK.io1 (g := 11) (Step.out ?_))
    | (refine CallOK.io1 (g := 12) (Step.out ?_))
    | (refine CallOK.ctF (g := 13) (Step.out ?_))
    | (refine CallOK.io1 (g := 14) (Step.out ?_))
    | (refine CallOK.ctF (g := 15) (Step.out ?_))
    | (refine CallOK.of_ct (Step.out ?_))
    | (refine CallQ.of_ct (Step.out ?_))
    | (refine Met.by (g := 8) (awake_ct) ?_; rintro q outs ⟨rfl, rfl⟩)
    | (refine Met.by (g := 9) (few_ct _) ?_; rintro q outs ⟨rfl, rfl⟩)
    | (refine Met.by (g := 10) (new_ct _ (by assumption)) ?_; rintro q outs ⟨d, hd, rfl, rfl⟩)
    | (refine Met.by (g := 11) (thresholds_ct _) ?_; rintro q outs ⟨t, d, ht, rfl, rfl⟩)
    | (refine Met.by (g := 12) (candidates_ct _) ?_; rintro q outs ⟨l, d, hl, rfl, rfl⟩)
    | (refine Met.by (g := 13) (bonds_ct _ _ _) ?_; rintro q outs ⟨rfl, rfl⟩)
    | (refine Met.by (g := 14) (next_ct _ _) ?_; rintro q outs ⟨x, d, hx, rfl, rfl⟩)
    | (refine Met.by (g := 15) (open_ct _ _ _) ?_; rintro q outs ⟨rfl, rfl⟩)
    | (refine Met.by (g := 16) (class_ct _ _) ?_; rintro q outs ⟨rfl, rfl⟩)
    | (refine Vc.mk ?_ (Step.out ?_))
  all_goals
    have hl0 := hl.n
    have f1 : fault t l [] = 0 := fault_ok (by omega) hl rfl
    have f2 : fault ⟨t.lo, t.hi + x⟩ l [] = 0 := fault_ok (by dsimp only; omega) hl rfl
    have e1 : (bondsL t l []) = bnd t [] l := if_pos f1
    have e2 : (bondsL ⟨t.lo, t.hi + x⟩ l []) = bnd ⟨t.lo, t.hi + x⟩ [] l := if_pos f2
    have e3 : openL t l [] = opn t [] l := if_pos f1
    have hsum := three t l
    rw [← e1, ← e3] at hsum
    have hub : (bondsL ⟨t.lo, t.hi + x⟩ l []).length ≤ l.length := by rw [e2]; exact bnd_len _ _ _
    have hhi := fun y (hy : y ∈ (bondsL ⟨t.lo, t.hi + x⟩ l [])) => higher_in (t := t) (u := ⟨t.lo, t.hi + x⟩) (by dsimp only; omega) (by rw [← e2]; exact hy)
    rw [← e1] at hhi
    clear e1 e2 e3
    refine CodeOK.loopW hΓ hm ord4 [] (by kernel_rfl) (α := Nat) (fun i => [(4, .loc 0 0), (5, cds l), (7, bds (bondsL t l [])), (8, i64 0), (9, bds (bondsL ⟨t.lo, t.hi + x⟩ l [])), (10, i64 0), (11, cds (openL t l [])), (12, i64 0), (13, i64 (nones t (l.take i))), (61, cds l), (62, i64 l.length), (63, i64 i)]) (fun i => [(0, .var [i64 t.lo, i64 t.hi])]) 1 (fun i => i ≤ l.length) (fun i => l.length - i) ?_ ?_
    · refine Again.by 0 (Nat.zero_le _) ?_
      repeat' first
        | (refine Step.mk ?_; conv => whnf)
        | (refine Vc.om ?_ ?_; first | omega | with_reducible rfl | with_reducible exact same_rfl | (simp only [bytes_2, bytes_3, bytes_4, bytes_5, bytes_9, bytes_12, bytes_21, bytes_22, bytes_25, bytes_27, bytes_28, bytes_30, bytes_32, bytes_33, bytes_36, bytes_37, bytes_38, bytes_39, bytes_41, bytes_42, bytes_43, bytes_44, bytes_45, bytes_46, bytes_52, bytes_56, bytes_58, bytes_60, bytes_67, bytes_68, bytes_69, bytes_70, bytes_71, bytes_72, bytes_73, bytes_74, bytes_75, bytes_76, bytes_77, bytes_81, bytes_84, bytes_85, bytes_87, bytes_95, bytes_96, bytes_111, bytes_115, true_and, and_true] <;> omega))
        | (refine NilB.mk fun b hb => Step.out ?_)
        | with_reducible trivial
        | exact noSh_bool _
        | exact noSh_lit _
        | exact noSh_int _ _
        | exact noSh_str _
        | with_reducible rfl
        | with_reducible exact same_rfl
        | (refine Wr.i64 ?_ ?_; omega)
        | (refine Wr.u8 ?_ ?_; omega)
        | (refine Wr.i32 ?_ ?_; omega)
        | (with_reducible refine Br.tt ?_)
        | (with_reducible refine Br.ff ?_)
        | (refine Br.dT ?_ ?_; omega)
        | (refine Br.dF ?_ ?_; omega)
        | (refine Br.d (fun h => ?_) (fun h => ?_))
        | (refine Br.swap ?_)
        | (refine Br.bnot ?_)
        | (refine Br.mk (fun h => Step.out ?_) (fun h => Step.out ?_))
        | (refine Two.mk (Step.out ?_) (Step.out ?_))
        | (refine Cp.mk fun q hq => Step.out ?_)
        | (refine Ovl.mk (by assumption) (Step.out ?_))
        | (refine CallOK.io1 (g := 11) (Step.out ?_))
        | (refine CallOK.io1 (g := 12) (Step.out ?_))
        | (refine CallOK.ctF (g := 13) (Step.out ?_))
        | (refine CallOK.io1 (g := 14) (Step.out ?_))
        | (refine CallOK.ctF (g := 15) (Step.out ?_))
        | (refine CallOK.of_ct (Step.out ?_))
        | (refine CallQ.of_ct (Step.out ?_))
        | (refine Met.by (g := 8) (awake_ct) ?_; rintro q outs ⟨rfl, rfl⟩)
        | (refine Met.by (g := 9) (few_ct _) ?_; rintro q outs ⟨rfl, rfl⟩)
        | (refine Met.by (g := 10) (new_ct _ (by assumption)) ?_; rintro q outs ⟨d, hd, rfl, rfl⟩)
        | (refine Met.by (g := 11) (thresholds_ct _) ?_; rintro q outs ⟨t, d, ht, rfl, rfl⟩)
        | (refine Met.by (g := 12) (candidates_ct _) ?_; rintro q outs ⟨l, d, hl, rfl, rfl⟩)
        | (refine Met.by (g := 13) (bonds_ct _ _ _) ?_; rintro q outs ⟨rfl, rfl⟩)
        | (refine Met.by (g := 14) (next_ct _ _) ?_; rintro q outs ⟨x, d, hx, rfl, rfl⟩)
        | (refine Met.by (g := 15) (open_ct _ _ _) ?_; rintro q outs ⟨rfl, rfl⟩)
        | (refine Met.by (g := 16) (class_ct _ _) ?_; rintro q outs ⟨rfl, rfl⟩)
        | (refine Vc.mk ?_ (Step.out ?_))
      all_goals first | rfl | exact f1 | exact f2
    · intro i hi
      clear f1 f2
      generalize (bondsL t l []) = A at *
      generalize (bondsL ⟨t.lo, t.hi + x⟩ l []) = U at *
      generalize openL t l [] = O at *
      have hni : nones t (l.take i) ≤ i := Nat.le_trans (List.length_filter_le _ _) (by rw [List.length_take]; omega)
      repeat' first
        | (refine Step.mk ?_; conv => whnf)
        | (refine Vc.om ?_ ?_; first | omega | with_reducible rfl | with_reducible exact same_rfl | (simp only [bytes_2, bytes_3, bytes_4, bytes_5, bytes_9, bytes_12, bytes_21, bytes_22, bytes_25, bytes_27, bytes_28, bytes_30, bytes_32, bytes_33, bytes_36, bytes_37, bytes_38, bytes_39, bytes_41, bytes_42, bytes_43, bytes_44, bytes_45, bytes_46, bytes_52, bytes_56, bytes_58, bytes_60, bytes_67, bytes_68, bytes_69, bytes_70, bytes_71, bytes_72, bytes_73, bytes_74, bytes_75, bytes_76, bytes_77, bytes_81, bytes_84, bytes_85, bytes_87, bytes_95, bytes_96, bytes_111, bytes_115, true_and, and_true] <;> omega))
        | (refine NilB.mk fun b hb => Step.out ?_)
        | with_reducible trivial
        | exact noSh_bool _
        | exact noSh_lit _
        | exact noSh_int _ _
        | exact noSh_str _
        | with_reducible rfl
        | with_reducible exact same_rfl
        | (refine Wr.i64 ?_ ?_; omega)
        | (refine Wr.u8 ?_ ?_; omega)
        | (refine Wr.i32 ?_ ?_; omega)
        | (with_reducible refine Br.tt ?_)
        | (with_reducible refine Br.ff ?_)
        | (refine Br.dT ?_ ?_; omega)
        | (refine Br.dF ?_ ?_; omega)
        | (refine Br.d (fun h => ?_) (fun h => ?_))
        | (refine Br.swap ?_)
        | (refine Br.bnot ?_)
        | (refine Br.mk (fun h => Step.out ?_) (fun h => Step.out ?_))
        | (refine Two.mk (Step.out ?_) (Step.out ?_))
        | (refine Cp.mk fun q hq => Step.out ?_)
        | (refine Ovl.mk (by assumption) (Step.out ?_))
        | (refine CallOK.io1 (g := 11) (Step.out ?_))
        | (refine CallOK.io1 (g := 12) (Step.out ?_))
        | (refine CallOK.ctF (g := 13) (Step.out ?_))
        | (refine CallOK.io1 (g := 14) (Step.out ?_))
        | (refine CallOK.ctF (g := 15) (Step.out ?_))
        | (refine CallOK.of_ct (Step.out ?_))
        | (refine CallQ.of_ct (Step.out ?_))
        | (refine Met.by (g := 8) (awake_ct) ?_; rintro q outs ⟨rfl, rfl⟩)
        | (refine Met.by (g := 9) (few_ct _) ?_; rintro q outs ⟨rfl, rfl⟩)
        | (refine Met.by (g := 10) (new_ct _ (by assumption)) ?_; rintro q outs ⟨d, hd, rfl, rfl⟩)
        | (refine Met.by (g := 11) (thresholds_ct _) ?_; rintro q outs ⟨t, d, ht, rfl, rfl⟩)
        | (refine Met.by (g := 12) (candidates_ct _) ?_; rintro q outs ⟨l, d, hl, rfl, rfl⟩)
        | (refine Met.by (g := 13) (bonds_ct _ _ _) ?_; rintro q outs ⟨rfl, rfl⟩)
        | (refine Met.by (g := 14) (next_ct _ _) ?_; rintro q outs ⟨x, d, hx, rfl, rfl⟩)
        | (refine Met.by (g := 15) (open_ct _ _ _) ?_; rintro q outs ⟨rfl, rfl⟩)
        | (refine Met.by (g := 16) (class_ct _ _) ?_; rintro q outs ⟨rfl, rfl⟩)
        | (refine Vc.mk ?_ (Step.out ?_))
      · refine Again.by (i + 1) ⟨by omega, by omega⟩ ?_
        rw [nones_step t l i (by omega), if_pos (by simpa only [Int.toNat_natCast] using ‹cls t _ = 0›)]
        repeat' first
          | (refine Step.mk ?_; conv => whnf)
          | (refine Vc.om ?_ ?_; first | omega | with_reducible rfl | with_reducible exact same_rfl | (simp only [bytes_2, bytes_3, bytes_4, bytes_5, bytes_9, bytes_12, bytes_21, bytes_22, bytes_25, bytes_27, bytes_28, bytes_30, bytes_32, bytes_33, bytes_36, bytes_37, bytes_38, bytes_39, bytes_41, bytes_42, bytes_43, bytes_44, bytes_45, bytes_46, bytes_52, bytes_56, bytes_58, bytes_60, bytes_67, bytes_68, bytes_69, bytes_70, bytes_71, bytes_72, bytes_73, bytes_74, bytes_75, bytes_76, bytes_77, bytes_81, bytes_84, bytes_85, bytes_87, bytes_95, bytes_96, bytes_111, bytes_115, true_and, and_true] <;> omega))
          | (refine NilB.mk fun b hb => Step.out ?_)
          | with_reducible trivial
          | exact noSh_bool _
          | exact noSh_lit _
          | exact noSh_int _ _
          | exact noSh_str _
          | with_reducible rfl
          | with_reducible exact same_rfl
          | (refine Wr.i64 ?_ ?_; omega)
          | (refine Wr.u8 ?_ ?_; omega)
          | (refine Wr.i32 ?_ ?_; omega)
          | (with_reducible refine Br.tt ?_)
          | (with_reducible refine Br.ff ?_)
          | (refine Br.dT ?_ ?_; omega)
          | (refine Br.dF ?_ ?_; omega)
          | (refine Br.d (fun h => ?_) (fun h => ?_))
          | (refine Br.swap ?_)
          | (refine Br.bnot ?_)
          | (refine Br.mk (fun h => Step.out ?_) (fun h => Step.out ?_))
          | (refine Two.mk (Step.out ?_) (Step.out ?_))
          | (refine Cp.mk fun q hq => Step.out ?_)
          | (refine Ovl.mk (by assumption) (Step.out ?_))
          | (refine CallOK.io1 (g := 11) (Step.out ?_))
          | (refine CallOK.io1 (g := 12) (Step.out ?_))
          | (refine CallOK.ctF (g := 13) (Step.out ?_))
          | (refine CallOK.io1 (g := 14) (Step.out ?_))
          | (refine CallOK.ctF (g := 15) (Step.out ?_))
          | (refine CallOK.of_ct (Step.out ?_))
          | (refine CallQ.of_ct (Step.out ?_))
          | (refine Met.by (g := 8) (awake_ct) ?_; rintro q outs ⟨rfl, rfl⟩)
          | (refine Met.by (g := 9) (few_ct _) ?_; rintro q outs ⟨rfl, rfl⟩)
          | (refine Met.by (g := 10) (new_ct _ (by assumption)) ?_; rintro q outs ⟨d, hd, rfl, rfl⟩)
          | (refine Met.by (g := 11) (thresholds_ct _) ?_; rintro q outs ⟨t, d, ht, rfl, rfl⟩)
          | (refine Met.by (g := 12) (candidates_ct _) ?_; rintro q outs ⟨l, d, hl, rfl, rfl⟩)
          | (refine Met.by (g := 13) (bonds_ct _ _ _) ?_; rintro q outs ⟨rfl, rfl⟩)
          | (refine Met.by (g := 14) (next_ct _ _) ?_; rintro q outs ⟨x, d, hx, rfl, rfl⟩)
          | (refine Met.by (g := 15) (open_ct _ _ _) ?_; rintro q outs ⟨rfl, rfl⟩)
          | (refine Met.by (g := 16) (class_ct _ _) ?_; rintro q outs ⟨rfl, rfl⟩)
          | (refine Vc.mk ?_ (Step.out ?_))
      · refine Again.by (i + 1) ⟨by omega, by omega⟩ ?_
        rw [nones_step t l i (by omega), if_neg (by simpa only [Int.toNat_natCast] using ‹¬cls t _ = 0›)]
        repeat' first
          | (refine Step.mk ?_; conv => whnf)
          | (refine Vc.om ?_ ?_; first | omega | with_reducible rfl | with_reducible exact same_rfl | (simp only [bytes_2, bytes_3, bytes_4, bytes_5, bytes_9, bytes_12, bytes_21, bytes_22, bytes_25, bytes_27, bytes_28, bytes_30, bytes_32, bytes_33, bytes_36, bytes_37, bytes_38, bytes_39, bytes_41, bytes_42, bytes_43, bytes_44, bytes_45, bytes_46, bytes_52, bytes_56, bytes_58, bytes_60, bytes_67, bytes_68, bytes_69, bytes_70, bytes_71, bytes_72, bytes_73, bytes_74, bytes_75, bytes_76, bytes_77, bytes_81, bytes_84, bytes_85, bytes_87, bytes_95, bytes_96, bytes_111, bytes_115, true_and, and_true] <;> omega))
          | (refine NilB.mk fun b hb => Step.out ?_)
          | with_reducible trivial
          | exact noSh_bool _
          | exact noSh_lit _
          | exact noSh_int _ _
          | exact noSh_str _
          | with_reducible rfl
          | with_reducible exact same_rfl
          | (refine Wr.i64 ?_ ?_; omega)
          | (refine Wr.u8 ?_ ?_; omega)
          | (refine Wr.i32 ?_ ?_; omega)
          | (with_reducible refine Br.tt ?_)
          | (with_reducible refine Br.ff ?_)
          | (refine Br.dT ?_ ?_; omega)
          | (refine Br.dF ?_ ?_; omega)
          | (refine Br.d (fun h => ?_) (fun h => ?_))
          | (refine Br.swap ?_)
          | (refine Br.bnot ?_)
          | (refine Br.mk (fun h => Step.out ?_) (fun h => Step.out ?_))
          | (refine Two.mk (Step.out ?_) (Step.out ?_))
          | (refine Cp.mk fun q hq => Step.out ?_)
          | (refine Ovl.mk (by assumption) (Step.out ?_))
          | (refine CallOK.io1 (g := 11) (Step.out ?_))
          | (refine CallOK.io1 (g := 12) (Step.out ?_))
          | (refine CallOK.ctF (g := 13) (Step.out ?_))
          | (refine CallOK.io1 (g := 14) (Step.out ?_))
          | (refine CallOK.ctF (g := 15) (Step.out ?_))
          | (refine CallOK.of_ct (Step.out ?_))
          | (refine CallQ.of_ct (Step.out ?_))
          | (refine Met.by (g := 8) (awake_ct) ?_; rintro q outs ⟨rfl, rfl⟩)
          | (refine Met.by (g := 9) (few_ct _) ?_; rintro q outs ⟨rfl, rfl⟩)
          | (refine Met.by (g := 10) (new_ct _ (by assumption)) ?_; rintro q outs ⟨d, hd, rfl, rfl⟩)
          | (refine Met.by (g := 11) (thresholds_ct _) ?_; rintro q outs ⟨t, d, ht, rfl, rfl⟩)
          | (refine Met.by (g := 12) (candidates_ct _) ?_; rintro q outs ⟨l, d, hl, rfl, rfl⟩)
          | (refine Met.by (g := 13) (bonds_ct _ _ _) ?_; rintro q outs ⟨rfl, rfl⟩)
          | (refine Met.by (g := 14) (next_ct _ _) ?_; rintro q outs ⟨x, d, hx, rfl, rfl⟩)
          | (refine Met.by (g := 15) (open_ct _ _ _) ?_; rintro q outs ⟨rfl, rfl⟩)
          | (refine Met.by (g := 16) (class_ct _ _) ?_; rintro q outs ⟨rfl, rfl⟩)
          | (refine Vc.mk ?_ (Step.out ?_))
      · have hA := hl0
        refine CodeOK.loopW hΓ hm ord4 [] (by kernel_rfl) (α := Nat) (fun j => [(7, bds A), (97, bds U), (98, i64 U.length), (99, i64 j)]) (fun j => []) 0 (fun j => j ≤ U.length) (fun j => U.length - j) ?_ ?_
        · refine Again.by 0 (Nat.zero_le _) ?_
          repeat' first
            | (refine Step.mk ?_; conv => whnf)
            | (refine Vc.om ?_ ?_; first | omega | with_reducible rfl | with_reducible exact same_rfl | (simp only [bytes_2, bytes_3, bytes_4, bytes_5, bytes_9, bytes_12, bytes_21, bytes_22, bytes_25, bytes_27, bytes_28, bytes_30, bytes_32, bytes_33, bytes_36, bytes_37, bytes_38, bytes_39, bytes_41, bytes_42, bytes_43, bytes_44, bytes_45, bytes_46, bytes_52, bytes_56, bytes_58, bytes_60, bytes_67, bytes_68, bytes_69, bytes_70, bytes_71, bytes_72, bytes_73, bytes_74, bytes_75, bytes_76, bytes_77, bytes_81, bytes_84, bytes_85, bytes_87, bytes_95, bytes_96, bytes_111, bytes_115, true_and, and_true] <;> omega))
            | (refine NilB.mk fun b hb => Step.out ?_)
            | with_reducible trivial
            | exact noSh_bool _
            | exact noSh_lit _
            | exact noSh_int _ _
            | exact noSh_str _
            | with_reducible rfl
            | with_reducible exact same_rfl
            | (refine Wr.i64 ?_ ?_; omega)
            | (refine Wr.u8 ?_ ?_; omega)
            | (refine Wr.i32 ?_ ?_; omega)
            | (with_reducible refine Br.tt ?_)
            | (with_reducible refine Br.ff ?_)
            | (refine Br.dT ?_ ?_; omega)
            | (refine Br.dF ?_ ?_; omega)
            | (refine Br.d (fun h => ?_) (fun h => ?_))
            | (refine Br.swap ?_)
            | (refine Br.bnot ?_)
            | (refine Br.mk (fun h => Step.out ?_) (fun h => Step.out ?_))
            | (refine Two.mk (Step.out ?_) (Step.out ?_))
            | (refine Cp.mk fun q hq => Step.out ?_)
            | (refine Ovl.mk (by assumption) (Step.out ?_))
            | (refine CallOK.io1 (g := 11) (Step.out ?_))
            | (refine CallOK.io1 (g := 12) (Step.out ?_))
            | (refine CallOK.ctF (g := 13) (Step.out ?_))
            | (refine CallOK.io1 (g := 14) (Step.out ?_))
            | (refine CallOK.ctF (g := 15) (Step.out ?_))
            | (refine CallOK.of_ct (Step.out ?_))
            | (refine CallQ.of_ct (Step.out ?_))
            | (refine Met.by (g := 8) (awake_ct) ?_; rintro q outs ⟨rfl, rfl⟩)
            | (refine Met.by (g := 9) (few_ct _) ?_; rintro q outs ⟨rfl, rfl⟩)
            | (refine Met.by (g := 10) (new_ct _ (by assumption)) ?_; rintro q outs ⟨d, hd, rfl, rfl⟩)
            | (refine Met.by (g := 11) (thresholds_ct _) ?_; rintro q outs ⟨t, d, ht, rfl, rfl⟩)
            | (refine Met.by (g := 12) (candidates_ct _) ?_; rintro q outs ⟨l, d, hl, rfl, rfl⟩)
            | (refine Met.by (g := 13) (bonds_ct _ _ _) ?_; rintro q outs ⟨rfl, rfl⟩)
            | (refine Met.by (g := 14) (next_ct _ _) ?_; rintro q outs ⟨x, d, hx, rfl, rfl⟩)
            | (refine Met.by (g := 15) (open_ct _ _ _) ?_; rintro q outs ⟨rfl, rfl⟩)
            | (refine Met.by (g := 16) (class_ct _ _) ?_; rintro q outs ⟨rfl, rfl⟩)
            | (refine Vc.mk ?_ (Step.out ?_))
          all_goals exact ⟨rfl, fun _ _ => rfl⟩
        · intro j hj
          have hU := fun (h : j < U.length) => hhi (U.getD (j : Int).toNat Bd.z) (getD_in (by omega))
          repeat' first
            | (refine Step.mk ?_; conv => whnf)
            | (refine Vc.om ?_ ?_; first | omega | with_reducible rfl | with_reducible exact same_rfl | (simp only [bytes_2, bytes_3, bytes_4, bytes_5, bytes_9, bytes_12, bytes_21, bytes_22, bytes_25, bytes_27, bytes_28, bytes_30, bytes_32, bytes_33, bytes_36, bytes_37, bytes_38, bytes_39, bytes_41, bytes_42, bytes_43, bytes_44, bytes_45, bytes_46, bytes_52, bytes_56, bytes_58, bytes_60, bytes_67, bytes_68, bytes_69, bytes_70, bytes_71, bytes_72, bytes_73, bytes_74, bytes_75, bytes_76, bytes_77, bytes_81, bytes_84, bytes_85, bytes_87, bytes_95, bytes_96, bytes_111, bytes_115, true_and, and_true] <;> omega))
            | (refine NilB.mk fun b hb => Step.out ?_)
            | with_reducible trivial
            | exact noSh_bool _
            | exact noSh_lit _
            | exact noSh_int _ _
            | exact noSh_str _
            | with_reducible rfl
            | with_reducible exact same_rfl
            | (refine Wr.i64 ?_ ?_; omega)
            | (refine Wr.u8 ?_ ?_; omega)
            | (refine Wr.i32 ?_ ?_; omega)
            | (with_reducible refine Br.tt ?_)
            | (with_reducible refine Br.ff ?_)
            | (refine Br.dT ?_ ?_; omega)
            | (refine Br.dF ?_ ?_; omega)
            | (refine Br.d (fun h => ?_) (fun h => ?_))
            | (refine Br.swap ?_)
            | (refine Br.bnot ?_)
            | (refine Br.mk (fun h => Step.out ?_) (fun h => Step.out ?_))
            | (refine Two.mk (Step.out ?_) (Step.out ?_))
            | (refine Cp.mk fun q hq => Step.out ?_)
            | (refine Ovl.mk (by assumption) (Step.out ?_))
            | (refine CallOK.io1 (g := 11) (Step.out ?_))
            | (refine CallOK.io1 (g := 12) (Step.out ?_))
            | (refine CallOK.ctF (g := 13) (Step.out ?_))
            | (refine CallOK.io1 (g := 14) (Step.out ?_))
            | (refine CallOK.ctF (g := 15) (Step.out ?_))
            | (refine CallOK.of_ct (Step.out ?_))
            | (refine CallQ.of_ct (Step.out ?_))
            | (refine Met.by (g := 8) (awake_ct) ?_; rintro q outs ⟨rfl, rfl⟩)
            | (refine Met.by (g := 9) (few_ct _) ?_; rintro q outs ⟨rfl, rfl⟩)
            | (refine Met.by (g := 10) (new_ct _ (by assumption)) ?_; rintro q outs ⟨d, hd, rfl, rfl⟩)
            | (refine Met.by (g := 11) (thresholds_ct _) ?_; rintro q outs ⟨t, d, ht, rfl, rfl⟩)
            | (refine Met.by (g := 12) (candidates_ct _) ?_; rintro q outs ⟨l, d, hl, rfl, rfl⟩)
            | (refine Met.by (g := 13) (bonds_ct _ _ _) ?_; rintro q outs ⟨rfl, rfl⟩)
            | (refine Met.by (g := 14) (next_ct _ _) ?_; rintro q outs ⟨x, d, hx, rfl, rfl⟩)
            | (refine Met.by (g := 15) (open_ct _ _ _) ?_; rintro q outs ⟨rfl, rfl⟩)
            | (refine Met.by (g := 16) (class_ct _ _) ?_; rintro q outs ⟨rfl, rfl⟩)
            | (refine Vc.mk ?_ (Step.out ?_))
          · generalize U.getD (j : Int).toNat Bd.z = Y at *
            refine CodeOK.loopW hΓ hm ord4 [] (by kernel_rfl) (α := Nat) (fun k => [(7, bds A), (17, .loc 0 0), (18, .bool (isInR (A.take k) Y.a Y.b)), (97, bds U), (98, i64 U.length), (99, i64 j), (103, bds A), (104, i64 A.length), (105, i64 k)]) (fun k => [(0, .var (Bd.f Y))]) 1 (fun k => k ≤ A.length) (fun k => A.length - k) ?_ ?_
            · refine Again.by 0 (Nat.zero_le _) ?_
              repeat' first
                | (refine Step.mk ?_; conv => whnf)
                | (refine Vc.om ?_ ?_; first | omega | with_reducible rfl | with_reducible exact same_rfl | (simp only [bytes_2, bytes_3, bytes_4, bytes_5, bytes_9, bytes_12, bytes_21, bytes_22, bytes_25, bytes_27, bytes_28, bytes_30, bytes_32, bytes_33, bytes_36, bytes_37, bytes_38, bytes_39, bytes_41, bytes_42, bytes_43, bytes_44, bytes_45, bytes_46, bytes_52, bytes_56, bytes_58, bytes_60, bytes_67, bytes_68, bytes_69, bytes_70, bytes_71, bytes_72, bytes_73, bytes_74, bytes_75, bytes_76, bytes_77, bytes_81, bytes_84, bytes_85, bytes_87, bytes_95, bytes_96, bytes_111, bytes_115, true_and, and_true] <;> omega))
                | (refine NilB.mk fun b hb => Step.out ?_)
                | with_reducible trivial
                | exact noSh_bool _
                | exact noSh_lit _
                | exact noSh_int _ _
                | exact noSh_str _
                | with_reducible rfl
                | with_reducible exact same_rfl
                | (refine Wr.i64 ?_ ?_; omega)
                | (refine Wr.u8 ?_ ?_; omega)
                | (refine Wr.i32 ?_ ?_; omega)
                | (with_reducible refine Br.tt ?_)
                | (with_reducible refine Br.ff ?_)
                | (refine Br.dT ?_ ?_; omega)
                | (refine Br.dF ?_ ?_; omega)
                | (refine Br.d (fun h => ?_) (fun h => ?_))
                | (refine Br.swap ?_)
                | (refine Br.bnot ?_)
                | (refine Br.mk (fun h => Step.out ?_) (fun h => Step.out ?_))
                | (refine Two.mk (Step.out ?_) (Step.out ?_))
                | (refine Cp.mk fun q hq => Step.out ?_)
                | (refine Ovl.mk (by assumption) (Step.out ?_))
                | (refine CallOK.io1 (g := 11) (Step.out ?_))
                | (refine CallOK.io1 (g := 12) (Step.out ?_))
                | (refine CallOK.ctF (g := 13) (Step.out ?_))
                | (refine CallOK.io1 (g := 14) (Step.out ?_))
                | (refine CallOK.ctF (g := 15) (Step.out ?_))
                | (refine CallOK.of_ct (Step.out ?_))
                | (refine CallQ.of_ct (Step.out ?_))
                | (refine Met.by (g := 8) (awake_ct) ?_; rintro q outs ⟨rfl, rfl⟩)
                | (refine Met.by (g := 9) (few_ct _) ?_; rintro q outs ⟨rfl, rfl⟩)
                | (refine Met.by (g := 10) (new_ct _ (by assumption)) ?_; rintro q outs ⟨d, hd, rfl, rfl⟩)
                | (refine Met.by (g := 11) (thresholds_ct _) ?_; rintro q outs ⟨t, d, ht, rfl, rfl⟩)
                | (refine Met.by (g := 12) (candidates_ct _) ?_; rintro q outs ⟨l, d, hl, rfl, rfl⟩)
                | (refine Met.by (g := 13) (bonds_ct _ _ _) ?_; rintro q outs ⟨rfl, rfl⟩)
                | (refine Met.by (g := 14) (next_ct _ _) ?_; rintro q outs ⟨x, d, hx, rfl, rfl⟩)
                | (refine Met.by (g := 15) (open_ct _ _ _) ?_; rintro q outs ⟨rfl, rfl⟩)
                | (refine Met.by (g := 16) (class_ct _ _) ?_; rintro q outs ⟨rfl, rfl⟩)
                | (refine Vc.mk ?_ (Step.out ?_))
              all_goals first | rfl | exact ⟨rfl, fun _ _ => rfl⟩
            · intro k hk
              repeat' first
                | (refine Step.mk ?_; conv => whnf)
                | (refine Vc.om ?_ ?_; first | omega | with_reducible rfl | with_reducible exact same_rfl | (simp only [bytes_2, bytes_3, bytes_4, bytes_5, bytes_9, bytes_12, bytes_21, bytes_22, bytes_25, bytes_27, bytes_28, bytes_30, bytes_32, bytes_33, bytes_36, bytes_37, bytes_38, bytes_39, bytes_41, bytes_42, bytes_43, bytes_44, bytes_45, bytes_46, bytes_52, bytes_56, bytes_58, bytes_60, bytes_67, bytes_68, bytes_69, bytes_70, bytes_71, bytes_72, bytes_73, bytes_74, bytes_75, bytes_76, bytes_77, bytes_81, bytes_84, bytes_85, bytes_87, bytes_95, bytes_96, bytes_111, bytes_115, true_and, and_true] <;> omega))
                | (refine NilB.mk fun b hb => Step.out ?_)
                | with_reducible trivial
                | exact noSh_bool _
                | exact noSh_lit _
                | exact noSh_int _ _
                | exact noSh_str _
                | with_reducible rfl
                | with_reducible exact same_rfl
                | (refine Wr.i64 ?_ ?_; omega)
                | (refine Wr.u8 ?_ ?_; omega)
                | (refine Wr.i32 ?_ ?_; omega)
                | (with_reducible refine Br.tt ?_)
                | (with_reducible refine Br.ff ?_)
                | (refine Br.dT ?_ ?_; omega)
                | (refine Br.dF ?_ ?_; omega)
                | (refine Br.d (fun h => ?_) (fun h => ?_))
                | (refine Br.swap ?_)
                | (refine Br.bnot ?_)
                | (refine Br.mk (fun h => Step.out ?_) (fun h => Step.out ?_))
                | (refine Two.mk (Step.out ?_) (Step.out ?_))
                | (refine Cp.mk fun q hq => Step.out ?_)
                | (refine Ovl.mk (by assumption) (Step.out ?_))
                | (refine CallOK.io1 (g := 11) (Step.out ?_))
                | (refine CallOK.io1 (g := 12) (Step.out ?_))
                | (refine CallOK.ctF (g := 13) (Step.out ?_))
                | (refine CallOK.io1 (g := 14) (Step.out ?_))
                | (refine CallOK.ctF (g := 15) (Step.out ?_))
                | (refine CallOK.of_ct (Step.out ?_))
                | (refine CallQ.of_ct (Step.out ?_))
                | (refine Met.by (g := 8) (awake_ct) ?_; rintro q outs ⟨rfl, rfl⟩)
                | (refine Met.by (g := 9) (few_ct _) ?_; rintro q outs ⟨rfl, rfl⟩)
                | (refine Met.by (g := 10) (new_ct _ (by assumption)) ?_; rintro q outs ⟨d, hd, rfl, rfl⟩)
                | (refine Met.by (g := 11) (thresholds_ct _) ?_; rintro q outs ⟨t, d, ht, rfl, rfl⟩)
                | (refine Met.by (g := 12) (candidates_ct _) ?_; rintro q outs ⟨l, d, hl, rfl, rfl⟩)
                | (refine Met.by (g := 13) (bonds_ct _ _ _) ?_; rintro q outs ⟨rfl, rfl⟩)
                | (refine Met.by (g := 14) (next_ct _ _) ?_; rintro q outs ⟨x, d, hx, rfl, rfl⟩)
                | (refine Met.by (g := 15) (open_ct _ _ _) ?_; rintro q outs ⟨rfl, rfl⟩)
                | (refine Met.by (g := 16) (class_ct _ _) ?_; rintro q outs ⟨rfl, rfl⟩)
                | (refine Vc.mk ?_ (Step.out ?_))
              all_goals try
                refine Again.by (k + 1) ⟨by omega, by omega⟩ ?_
                rw [isInR_step A Y.a Y.b k (by omega)]
                repeat' first
                  | (refine Step.mk ?_; conv => whnf)
                  | (refine Vc.om ?_ ?_; first | omega | with_reducible rfl | with_reducible exact same_rfl | (simp only [bytes_2, bytes_3, bytes_4, bytes_5, bytes_9, bytes_12, bytes_21, bytes_22, bytes_25, bytes_27, bytes_28, bytes_30, bytes_32, bytes_33, bytes_36, bytes_37, bytes_38, bytes_39, bytes_41, bytes_42, bytes_43, bytes_44, bytes_45, bytes_46, bytes_52, bytes_56, bytes_58, bytes_60, bytes_67, bytes_68, bytes_69, bytes_70, bytes_71, bytes_72, bytes_73, bytes_74, bytes_75, bytes_76, bytes_77, bytes_81, bytes_84, bytes_85, bytes_87, bytes_95, bytes_96, bytes_111, bytes_115, true_and, and_true] <;> omega))
                  | (refine NilB.mk fun b hb => Step.out ?_)
                  | with_reducible trivial
                  | exact noSh_bool _
                  | exact noSh_lit _
                  | exact noSh_int _ _
                  | exact noSh_str _
                  | with_reducible rfl
                  | with_reducible exact same_rfl
                  | (refine Wr.i64 ?_ ?_; omega)
                  | (refine Wr.u8 ?_ ?_; omega)
                  | (refine Wr.i32 ?_ ?_; omega)
                  | (with_reducible refine Br.tt ?_)
                  | (with_reducible refine Br.ff ?_)
                  | (refine Br.dT ?_ ?_; omega)
                  | (refine Br.dF ?_ ?_; omega)
                  | (refine Br.d (fun h => ?_) (fun h => ?_))
                  | (refine Br.swap ?_)
                  | (refine Br.bnot ?_)
                  | (refine Br.mk (fun h => Step.out ?_) (fun h => Step.out ?_))
                  | (refine Two.mk (Step.out ?_) (Step.out ?_))
                  | (refine Cp.mk fun q hq => Step.out ?_)
                  | (refine Ovl.mk (by assumption) (Step.out ?_))
                  | (refine CallOK.io1 (g := 11) (Step.out ?_))
                  | (refine CallOK.io1 (g := 12) (Step.out ?_))
                  | (refine CallOK.ctF (g := 13) (Step.out ?_))
                  | (refine CallOK.io1 (g := 14) (Step.out ?_))
                  | (refine CallOK.ctF (g := 15) (Step.out ?_))
                  | (refine CallOK.of_ct (Step.out ?_))
                  | (refine CallQ.of_ct (Step.out ?_))
                  | (refine Met.by (g := 8) (awake_ct) ?_; rintro q outs ⟨rfl, rfl⟩)
                  | (refine Met.by (g := 9) (few_ct _) ?_; rintro q outs ⟨rfl, rfl⟩)
                  | (refine Met.by (g := 10) (new_ct _ (by assumption)) ?_; rintro q outs ⟨d, hd, rfl, rfl⟩)
                  | (refine Met.by (g := 11) (thresholds_ct _) ?_; rintro q outs ⟨t, d, ht, rfl, rfl⟩)
                  | (refine Met.by (g := 12) (candidates_ct _) ?_; rintro q outs ⟨l, d, hl, rfl, rfl⟩)
                  | (refine Met.by (g := 13) (bonds_ct _ _ _) ?_; rintro q outs ⟨rfl, rfl⟩)
                  | (refine Met.by (g := 14) (next_ct _ _) ?_; rintro q outs ⟨x, d, hx, rfl, rfl⟩)
                  | (refine Met.by (g := 15) (open_ct _ _ _) ?_; rintro q outs ⟨rfl, rfl⟩)
                  | (refine Met.by (g := 16) (class_ct _ _) ?_; rintro q outs ⟨rfl, rfl⟩)
                  | (refine Vc.mk ?_ (Step.out ?_))
                all_goals try simp only [Int.toNat_natCast] at *
                all_goals try simp only [rf_eq]
                all_goals simp [-List.getD_eq_getElem?_getD, *]
                done
              all_goals first
                | refine Again.by (j + 1) ⟨by omega, by omega⟩ ?_
                | (exfalso; rw [List.take_of_length_le (by omega), hU (by omega)] at h; cases h; done)
              all_goals
                repeat' first
                  | (refine Step.mk ?_; conv => whnf)
                  | (refine Vc.om ?_ ?_; first | omega | with_reducible rfl | with_reducible exact same_rfl | (simp only [bytes_2, bytes_3, bytes_4, bytes_5, bytes_9, bytes_12, bytes_21, bytes_22, bytes_25, bytes_27, bytes_28, bytes_30, bytes_32, bytes_33, bytes_36, bytes_37, bytes_38, bytes_39, bytes_41, bytes_42, bytes_43, bytes_44, bytes_45, bytes_46, bytes_52, bytes_56, bytes_58, bytes_60, bytes_67, bytes_68, bytes_69, bytes_70, bytes_71, bytes_72, bytes_73, bytes_74, bytes_75, bytes_76, bytes_77, bytes_81, bytes_84, bytes_85, bytes_87, bytes_95, bytes_96, bytes_111, bytes_115, true_and, and_true] <;> omega))
                  | (refine NilB.mk fun b hb => Step.out ?_)
                  | with_reducible trivial
                  | exact noSh_bool _
                  | exact noSh_lit _
                  | exact noSh_int _ _
                  | exact noSh_str _
                  | with_reducible rfl
                  | with_reducible exact same_rfl
                  | (refine Wr.i64 ?_ ?_; omega)
                  | (refine Wr.u8 ?_ ?_; omega)
                  | (refine Wr.i32 ?_ ?_; omega)
                  | (with_reducible refine Br.tt ?_)
                  | (with_reducible refine Br.ff ?_)
                  | (refine Br.dT ?_ ?_; omega)
                  | (refine Br.dF ?_ ?_; omega)
                  | (refine Br.d (fun h => ?_) (fun h => ?_))
                  | (refine Br.swap ?_)
                  | (refine Br.bnot ?_)
                  | (refine Br.mk (fun h => Step.out ?_) (fun h => Step.out ?_))
                  | (refine Two.mk (Step.out ?_) (Step.out ?_))
                  | (refine Cp.mk fun q hq => Step.out ?_)
                  | (refine Ovl.mk (by assumption) (Step.out ?_))
                  | (refine CallOK.io1 (g := 11) (Step.out ?_))
                  | (refine CallOK.io1 (g := 12) (Step.out ?_))
                  | (refine CallOK.ctF (g := 13) (Step.out ?_))
                  | (refine CallOK.io1 (g := 14) (Step.out ?_))
                  | (refine CallOK.ctF (g := 15) (Step.out ?_))
                  | (refine CallOK.of_ct (Step.out ?_))
                  | (refine CallQ.of_ct (Step.out ?_))
                  | (refine Met.by (g := 8) (awake_ct) ?_; rintro q outs ⟨rfl, rfl⟩)
                  | (refine Met.by (g := 9) (few_ct _) ?_; rintro q outs ⟨rfl, rfl⟩)
                  | (refine Met.by (g := 10) (new_ct _ (by assumption)) ?_; rintro q outs ⟨d, hd, rfl, rfl⟩)
                  | (refine Met.by (g := 11) (thresholds_ct _) ?_; rintro q outs ⟨t, d, ht, rfl, rfl⟩)
                  | (refine Met.by (g := 12) (candidates_ct _) ?_; rintro q outs ⟨l, d, hl, rfl, rfl⟩)
                  | (refine Met.by (g := 13) (bonds_ct _ _ _) ?_; rintro q outs ⟨rfl, rfl⟩)
                  | (refine Met.by (g := 14) (next_ct _ _) ?_; rintro q outs ⟨x, d, hx, rfl, rfl⟩)
                  | (refine Met.by (g := 15) (open_ct _ _ _) ?_; rintro q outs ⟨rfl, rfl⟩)
                  | (refine Met.by (g := 16) (class_ct _ _) ?_; rintro q outs ⟨rfl, rfl⟩)
                  | (refine Vc.mk ?_ (Step.out ?_))
      · exfalso
        rw [List.take_of_length_le (by omega)] at h
        omega
end Kx
