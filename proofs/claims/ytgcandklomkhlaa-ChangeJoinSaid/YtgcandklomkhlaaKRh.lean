/-
  slices.Insert of one row; add.
  No condition beyond those written in each theorem.
-/
import Derived.Test.YtgcandklomkhlaaKRg
open Go Sx Go.Proofs
set_option linter.unusedSimpArgs false
set_option linter.unusedVariables false
namespace Kx
theorem ovl_ext : ExtOvl Try.prog 55 :=
  ⟨Try.f55, 29, 4, 60, _, Try.func55, by kernel_rfl, by kernel_rfl, by kernel_rfl, by kernel_rfl, slice_of hΓ rfl, (elem_of hΓ (e := 60) (sz := 6) (by kernel_rfl)).choose_spec.choose_spec.1⟩
theorem ite_row (c : Prop) [Decidable c] (a b : Rw) : iteL c a.f b.f = Rw.f (if c then a else b) := by
  by_cases h : c
  · rw [ite_T h (shp_f b), if_pos h]
  · rw [ite_F h, if_neg h]
theorem ins_get {α : Type} (l : List α) (x z : α) (i q : Nat) (hi : i ≤ l.length) : (l.take i ++ x :: l.drop i).getD q z = if q < i then l.getD q z else if q = i then x else l.getD (q - 1) z := by
  simp only [List.getD_eq_getElem?_getD, List.getElem?_append, List.length_take, List.getElem?_take, Nat.min_eq_left hi]
  split
  · rfl
  · rcases Nat.eq_or_lt_of_le (show i ≤ q by omega) with h | h
    · subst h; simp
    · rw [if_neg (by omega), show q - i = (q - i - 1) + 1 by omega, List.getElem?_cons_succ, List.getElem?_drop, show i + (q - i - 1) = q - 1 by omega]
theorem insr_ct (l : List Rw) (i : Nat) (x : Rw) (hi : i ≤ l.length) (hl : l.length ≤ 1000000) : Ct Try.prog 46 [rwsO 60 l, i64 i, .ftab 60 6 1 fun i => selC [x.f] i] fun r outs => r = rwsO 60 (l.take i ++ x :: l.drop i) ∧ outs = [] := by
  have hov := ovl_ext
  refine .det (.of_Wo (fn := Try.f46) hΓ hm Try.func46 ord46 [] (by kernel_rfl) (Step.out ?_))
  repeat' first
    | (refine Step.mk ?_; conv => whnf)
    | (refine Vc.om ?_ ?_; first | omega | with_reducible rfl | with_reducible exact same_rfl | (simp only [bytes_2, bytes_3, bytes_4, bytes_5, bytes_9, bytes_12, bytes_21, bytes_22, bytes_25, bytes_27, bytes_29, bytes_32, bytes_33, bytes_34, bytes_38, bytes_40, bytes_44, bytes_45, bytes_52, bytes_53, bytes_54, bytes_58, bytes_59, bytes_60, bytes_93, bytes_97, bytes_100, true_and, and_true] <;> omega))
    | (refine NilB.mk fun b hb => Step.out ?_)
    | with_reducible trivial
    | exact noSh_bool _
    | exact noSh_lit _
    | exact noSh_int _ _
    | exact noSh_str _
    | with_reducible rfl
    | with_reducible exact same_rfl
    | (refine Wr.i64 ?_ ?_; omega)
    | (refine Wr.u8 ?_ ?_; omega)
    | (refine Wr.i32 ?_ ?_; omega)
    | (with_reducible refine Br.tt ?_)
    | (with_reducible refine Br.ff ?_)
    | (refine Br.dT ?_ ?_; omega)
    | (refine Br.dF ?_ ?_; omega)
    | (refine Br.d (fun h => ?_) (fun h => ?_))
    | (refine Br.swap ?_)
    | (refine Br.bnot ?_)
    | (refine Br.mk (fun h => Step.out ?_) (fun h => Step.out ?_))
    | (refine Two.mk (Step.out ?_) (Step.out ?_))
    | (refine Cp.mk fun q hq => Step.out ?_)
    | (refine Ovl.mk (by assumption) (Step.out ?_))
    | (refine CallOK.of_ct (Step.out ?_))
    | (refine CallQ.of_ct (Step.out ?_))
    | (refine Vc.mk ?_ (Step.out ?_))
  all_goals try omega
  all_goals refine ⟨?_, fun q hq => ?_⟩
  all_goals try (simp; omega)
  all_goals dsimp only
  all_goals simp only [List.length_append, List.length_cons, List.length_take, List.length_drop] at hq
  all_goals
    rw [ins_get l x Rw.z i q hi]
    try simp only [selC]
  · rw [if_neg (by omega), if_pos (by omega)]
  · rw [ite_row]
    congr 1
    split
    · rw [if_pos (by omega)]
    · rw [if_neg (by omega), if_pos (by omega)]
  · rw [show [D.int .i64 0, .int .i64 0, .nil, .int .i64 0, .int .i64 0, .int .i64 0] = zRow from rfl]
    rcases Nat.lt_trichotomy q i with h1 | h1 | h1
    · rw [ite_T (c := q < (i : Int).toNat - Int.toNat 0) (by simp; omega) shp_z, ite_F (by omega), ite_F (by omega), if_pos h1]
    · rw [ite_T (r := x) (by omega) (shp_ite shp_z), ite_F (by omega), if_neg (by omega), if_pos h1]
    · rw [ite_T (by omega) (shp_ite (shp_ite shp_z)), if_neg (by omega), if_neg (by omega)]
      congr 2
      omega
  · rw [ite_row, ite_row]
    congr 1
    rcases Nat.lt_trichotomy q i with h1 | h1 | h1
    · rw [if_neg (by omega), if_neg (by omega), if_pos h1]
    · rw [if_pos (by omega), if_neg (by omega), if_pos h1]
    · rw [if_neg (by omega), if_pos (by omega), if_neg (by omega), if_neg (by omega)]
      congr 1
      omega
  · rw [ite_row]
    congr 1
    split
    · rw [if_pos (by omega)]
    · rw [if_neg (by omega), if_pos (by omega)]
def add (l : List Rw) (r : Rw) : List Rw := if foundR l r.id = true then l.set (posR l r.id) (both (l.getD (posR l r.id) Rw.z) r) else l.take (posR l r.id) ++ r :: l.drop (posR l r.id)
theorem RwsOK.at_ {l : List Rw} (hl : RwsOK l) {i : Nat} (h : i < l.length) : (l.getD i Rw.z).vals.length ≤ 100000 := hl.v _ (getD_in h)
theorem set_get (l : List Rw) (x : Rw) (k i : Nat) (h : i < l.length) : (l.set k x).getD i Rw.z = if i = k then x else l.getD i Rw.z := by
  simp only [List.getD_eq_getElem?_getD, List.getElem?_set]
  by_cases e : k = i
  · subst e; rw [if_pos rfl, if_pos h, if_pos rfl]; rfl
  · rw [if_neg e, if_neg (fun h => e h.symm)]
theorem add_ct (l : List Rw) (r : Rw) (hl : RwsOK l) (ha : AscR l) (hr : r.vals.length ≤ 100000) : Ct Try.prog 33 [rwsO 60 l, r.d] fun q outs => q = rwsO 60 (add l r) ∧ outs = [] := by
  have hn := hl.n
  unfold add
  split
  · rename_i hf
    have hp : posR l r.id < l.length := by
      simp only [foundR, Bool.and_eq_true, decide_eq_true_eq] at hf; exact hf.1
    have hv := hl.at_ hp
    refine .det (.of_W (fn := Try.f33) hΓ hm Try.func33 ord33 [] (by kernel_rfl) (Step.out ?_))
    repeat' first
      | (refine Step.mk ?_; conv => whnf)
      | (refine Vc.om ?_ ?_; first | omega | with_reducible rfl | with_reducible exact same_rfl | (simp only [bytes_2, bytes_3, bytes_4, bytes_5, bytes_9, bytes_12, bytes_21, bytes_22, bytes_25, bytes_27, bytes_29, bytes_32, bytes_33, bytes_34, bytes_38, bytes_40, bytes_44, bytes_45, bytes_52, bytes_53, bytes_54, bytes_58, bytes_59, bytes_60, bytes_93, bytes_97, bytes_100, true_and, and_true] <;> omega))
      | (refine NilB.mk fun b hb => Step.out ?_)
      | with_reducible trivial
      | exact noSh_bool _
      | exact noSh_lit _
      | exact noSh_int _ _
      | exact noSh_str _
      | with_reducible rfl
      | with_reducible exact same_rfl
      | (refine Wr.i64 ?_ ?_; omega)
      | (refine Wr.u8 ?_ ?_; omega)
      | (refine Wr.i32 ?_ ?_; omega)
      | (with_reducible refine Br.tt ?_)
      | (with_reducible refine Br.ff ?_)
      | (refine Br.dT ?_ ?_; omega)
      | (refine Br.dF ?_ ?_; omega)
      | (refine Met.by (both_ct (l.getD (((posR l r.id : Nat) : Int).toNat) Rw.z) r (by have := hl.at_ (i := ((posR l r.id : Nat) : Int).toNat) (by omega); omega) (by omega)) ?_; rintro q outs ⟨rfl, rfl⟩)
      | (exact ⟨trivial, trivial, trivial⟩)
      | (refine Br.d (fun h => ?_) (fun h => ?_))
      | (refine Br.swap ?_)
      | (refine Br.bnot ?_)
      | (refine Br.mk (fun h => Step.out ?_) (fun h => Step.out ?_))
      | (refine Two.mk (Step.out ?_) (Step.out ?_))
      | (refine Cp.mk fun q hq => Step.out ?_)
      | (refine Ovl.mk (by assumption) (Step.out ?_))
      | (refine CallOK.gv (g := 46) (Step.out ?_))
      | (refine CallOK.of_ct (Step.out ?_))
      | (refine CallQ.of_ct (Step.out ?_))
      | (refine Met.by (g := 39) (freshRow_ct _ (by omega)) ?_; rintro q outs ⟨rfl, rfl⟩)
      | (refine Met.by (g := 42) (bsearch_ct _ _ (by assumption) (by omega)) ?_; rintro q outs ⟨rfl, rfl⟩)
      | (refine Met.by (g := 45) (both_ct _ _ (by omega) (by omega)) ?_; rintro q outs ⟨rfl, rfl⟩)
      | (refine Met.by (g := 46) (insr_ct _ _ _ (posR_le _ _) (by omega)) ?_; rintro q outs ⟨rfl, rfl⟩)
      | (refine Vc.mk ?_ (Step.out ?_))
    · refine ⟨by simp, fun i hi => ?_⟩
      have hi : i < l.length := by simpa using hi
      show iteL (i = posR l r.id) (setL (Rw.f (l.getD (posR l r.id) Rw.z)) 0 (Rw.f (both (l.getD (posR l r.id) Rw.z) r))) (Rw.f (l.getD i Rw.z)) = Rw.f ((l.set (posR l r.id) (both (l.getD (posR l r.id) Rw.z) r)).getD i Rw.z)
      rw [set_row (shp_f _), ite_row, set_get _ _ _ _ hi]
    · simp_all
  · rename_i hf
    have hf : foundR l r.id = false := by simpa using hf
    refine .det (.of_W (fn := Try.f33) hΓ hm Try.func33 ord33 [] (by kernel_rfl) (Step.out ?_))
    repeat' first
      | (refine Step.mk ?_; conv => whnf)
      | (refine Vc.om ?_ ?_; first | omega | with_reducible rfl | with_reducible exact same_rfl | (simp only [bytes_2, bytes_3, bytes_4, bytes_5, bytes_9, bytes_12, bytes_21, bytes_22, bytes_25, bytes_27, bytes_29, bytes_32, bytes_33, bytes_34, bytes_38, bytes_40, bytes_44, bytes_45, bytes_52, bytes_53, bytes_54, bytes_58, bytes_59, bytes_60, bytes_93, bytes_97, bytes_100, true_and, and_true] <;> omega))
      | (refine NilB.mk fun b hb => Step.out ?_)
      | with_reducible trivial
      | exact noSh_bool _
      | exact noSh_lit _
      | exact noSh_int _ _
      | exact noSh_str _
      | with_reducible rfl
      | with_reducible exact same_rfl
      | (refine Wr.i64 ?_ ?_; omega)
      | (refine Wr.u8 ?_ ?_; omega)
      | (refine Wr.i32 ?_ ?_; omega)
      | (with_reducible refine Br.tt ?_)
      | (with_reducible refine Br.ff ?_)
      | (refine Br.dT ?_ ?_; omega)
      | (refine Br.dF ?_ ?_; omega)
      | (exact ⟨trivial, trivial, trivial⟩)
      | (refine Br.d (fun h => ?_) (fun h => ?_))
      | (refine Br.swap ?_)
      | (refine Br.bnot ?_)
      | (refine Br.mk (fun h => Step.out ?_) (fun h => Step.out ?_))
      | (refine Two.mk (Step.out ?_) (Step.out ?_))
      | (refine Cp.mk fun q hq => Step.out ?_)
      | (refine Ovl.mk (by assumption) (Step.out ?_))
      | (refine CallOK.gv (g := 46) (Step.out ?_))
      | (refine CallOK.of_ct (Step.out ?_))
      | (refine CallQ.of_ct (Step.out ?_))
      | (refine Met.by (g := 39) (freshRow_ct _ (by omega)) ?_; rintro q outs ⟨rfl, rfl⟩)
      | (refine Met.by (g := 42) (bsearch_ct _ _ (by assumption) (by omega)) ?_; rintro q outs ⟨rfl, rfl⟩)
      | (refine Met.by (g := 45) (both_ct _ _ (by omega) (by omega)) ?_; rintro q outs ⟨rfl, rfl⟩)
      | (refine Met.by (g := 46) (insr_ct _ _ _ (posR_le _ _) (by omega)) ?_; rintro q outs ⟨rfl, rfl⟩)
      | (refine Vc.mk ?_ (Step.out ?_))
    all_goals simp_all
end Kx
