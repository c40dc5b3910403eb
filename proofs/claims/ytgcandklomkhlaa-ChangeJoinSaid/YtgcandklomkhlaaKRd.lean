/-
  change: Valid, row, both; fresh.Row, fresh.Rows.
  No condition beyond those written in each theorem.
-/
import Derived.Test.YtgcandklomkhlaaKRc
open Go Sx Go.Proofs
set_option linter.unusedSimpArgs false
set_option linter.unusedVariables false
namespace Kx
structure RwsOK (l : List Rw) : Prop where
  n : l.length ≤ 100000
  v : ∀ r ∈ l, r.vals.length ≤ 100000
def vGo : Int → List Rw → Int
  | _, [] => 0
  | m, r :: l => if (idB r.id && verB r.ver && verB r.sv) = false then 2 else if r.stateB = false then 50 else if r.id ≤ m then 12 else vGo r.id l
def valid (l : List Rw) : Int := if 64 < l.length then 1 else vGo 0 l
def rAt (l : List Rw) (i : Nat) : Int := if i = 0 then 0 else (l.getD (i - 1) Rw.z).id
theorem vGo_step (l : List Rw) (m : Int) (i : Nat) (h : i < l.length) : vGo m (l.drop i) = if (idB (l.getD i Rw.z).id && verB (l.getD i Rw.z).ver && verB (l.getD i Rw.z).sv) = false then 2 else if (l.getD i Rw.z).stateB = false then 50 else if (l.getD i Rw.z).id ≤ m then 12 else vGo (l.getD i Rw.z).id (l.drop (i + 1)) := by
  rw [drop_step l Rw.z i h]; rfl
theorem valid_ct (l : List Rw) (hl : RwsOK l) : Ct Try.prog 16 [rws l] fun q outs => q = i64 (valid l) ∧ outs = [] := by
  have hn := hl.n
  refine .det (.of_W (fn := Try.f16) hΓ hm Try.func16 ord16 [] (by kernel_rfl) (Step.out ?_))
  repeat' first
    | (refine Step.mk ?_; conv => whnf)
    | (refine Vc.om ?_ ?_; first | omega | with_reducible rfl | with_reducible exact same_rfl | (simp only [bytes_2, bytes_3, bytes_4, bytes_5, bytes_9, bytes_12, bytes_21, bytes_22, bytes_25, bytes_27, bytes_29, bytes_32, bytes_33, bytes_34, bytes_38, bytes_40, bytes_44, bytes_45, bytes_52, bytes_53, bytes_54, bytes_58, bytes_59, bytes_60, bytes_93, bytes_97, bytes_100, true_and, and_true] <;> omega))
    | (refine NilB.mk fun b hb => Step.out ?_)
    | with_reducible trivial
    | exact noSh_bool _
    | exact noSh_lit _
    | exact noSh_int _ _
    | exact noSh_str _
    | with_reducible rfl
    | with_reducible exact same_rfl
    | (refine Wr.i64 ?_ ?_; omega)
    | (refine Wr.u8 ?_ ?_; omega)
    | (refine Wr.i32 ?_ ?_; omega)
    | (with_reducible refine Br.tt ?_)
    | (with_reducible refine Br.ff ?_)
    | (refine Br.dT ?_ ?_; omega)
    | (refine Br.dF ?_ ?_; omega)
    | (refine Br.d (fun h => ?_) (fun h => ?_))
    | (refine Br.swap ?_)
    | (refine Br.bnot ?_)
    | (refine Br.mk (fun h => Step.out ?_) (fun h => Step.out ?_))
    | (refine Two.mk (Step.out ?_) (Step.out ?_))
    | (refine Cp.mk fun q hq => Step.out ?_)
    | (refine Ovl.mk (by assumption) (Step.out ?_))
    | (refine CallOK.of_ct (Step.out ?_))
    | (refine CallQ.of_ct (Step.out ?_))
    | (refine Met.by (g := 27) (id_ct _) ?_; rintro q outs ⟨rfl, rfl⟩)
    | (refine Met.by (g := 28) (version_ct _) ?_; rintro q outs ⟨rfl, rfl⟩)
    | (refine Met.by (g := 29) (state_ct _ (by omega)) ?_; rintro q outs ⟨rfl, rfl⟩)
    | (refine Vc.mk ?_ (Step.out ?_))
  · rw [valid, if_pos (by omega)]
  · have hval : valid l = vGo 0 l := by rw [valid, if_neg (by omega)]
    refine CodeOK.loopW hΓ hm ord16 [] (by kernel_rfl) (α := Nat) (fun i => [(0, rws l), (8, rws l), (9, i64 l.length), (10, i64 i)]) (fun i => []) 0 (fun i => i ≤ l.length ∧ vGo 0 l = vGo (rAt l i) (l.drop i)) (fun i => l.length - i) ?_ ?_
    · refine Again.by 0 ⟨Nat.zero_le _, rfl⟩ ?_
      repeat' first
        | (refine Step.mk ?_; conv => whnf)
        | (refine Vc.om ?_ ?_; first | omega | with_reducible rfl | with_reducible exact same_rfl | (simp only [bytes_2, bytes_3, bytes_4, bytes_5, bytes_9, bytes_12, bytes_21, bytes_22, bytes_25, bytes_27, bytes_29, bytes_32, bytes_33, bytes_34, bytes_38, bytes_40, bytes_44, bytes_45, bytes_52, bytes_53, bytes_54, bytes_58, bytes_59, bytes_60, bytes_93, bytes_97, bytes_100, true_and, and_true] <;> omega))
        | (refine NilB.mk fun b hb => Step.out ?_)
        | with_reducible trivial
        | exact noSh_bool _
        | exact noSh_lit _
        | exact noSh_int _ _
        | exact noSh_str _
        | with_reducible rfl
        | with_reducible exact same_rfl
        | (refine Wr.i64 ?_ ?_; omega)
        | (refine Wr.u8 ?_ ?_; omega)
        | (refine Wr.i32 ?_ ?_; omega)
        | (with_reducible refine Br.tt ?_)
        | (with_reducible refine Br.ff ?_)
        | (refine Br.dT ?_ ?_; omega)
        | (refine Br.dF ?_ ?_; omega)
        | (refine Br.d (fun h => ?_) (fun h => ?_))
        | (refine Br.swap ?_)
        | (refine Br.bnot ?_)
        | (refine Br.mk (fun h => Step.out ?_) (fun h => Step.out ?_))
        | (refine Two.mk (Step.out ?_) (Step.out ?_))
        | (refine Cp.mk fun q hq => Step.out ?_)
        | (refine Ovl.mk (by assumption) (Step.out ?_))
        | (refine CallOK.of_ct (Step.out ?_))
        | (refine CallQ.of_ct (Step.out ?_))
        | (refine Met.by (g := 27) (id_ct _) ?_; rintro q outs ⟨rfl, rfl⟩)
        | (refine Met.by (g := 28) (version_ct _) ?_; rintro q outs ⟨rfl, rfl⟩)
        | (refine Met.by (g := 29) (state_ct _ (by omega)) ?_; rintro q outs ⟨rfl, rfl⟩)
        | (refine Vc.mk ?_ (Step.out ?_))
    · intro i ⟨hi, hv⟩
      have hvl := fun (h : i < l.length) => hl.v _ (getD_in (z := Rw.z) (i := (i : Int).toNat) h)
      repeat' first
        | (refine Step.mk ?_; conv => whnf)
        | (refine Vc.om ?_ ?_; first | omega | with_reducible rfl | with_reducible exact same_rfl | (simp only [bytes_2, bytes_3, bytes_4, bytes_5, bytes_9, bytes_12, bytes_21, bytes_22, bytes_25, bytes_27, bytes_29, bytes_32, bytes_33, bytes_34, bytes_38, bytes_40, bytes_44, bytes_45, bytes_52, bytes_53, bytes_54, bytes_58, bytes_59, bytes_60, bytes_93, bytes_97, bytes_100, true_and, and_true] <;> omega))
        | (refine NilB.mk fun b hb => Step.out ?_)
        | with_reducible trivial
        | exact noSh_bool _
        | exact noSh_lit _
        | exact noSh_int _ _
        | exact noSh_str _
        | with_reducible rfl
        | with_reducible exact same_rfl
        | (refine Wr.i64 ?_ ?_; omega)
        | (refine Wr.u8 ?_ ?_; omega)
        | (refine Wr.i32 ?_ ?_; omega)
        | (with_reducible refine Br.tt ?_)
        | (with_reducible refine Br.ff ?_)
        | (refine Br.dT ?_ ?_; omega)
        | (refine Br.dF ?_ ?_; omega)
        | (refine Met.by (state_ct (l.getD (i : Int).toNat Rw.z) (hvl (by omega))) ?_; rintro q outs ⟨rfl, rfl⟩)
        | (refine Br.d (fun h => ?_) (fun h => ?_))
        | (refine Br.swap ?_)
        | (refine Br.bnot ?_)
        | (refine Br.mk (fun h => Step.out ?_) (fun h => Step.out ?_))
        | (refine Two.mk (Step.out ?_) (Step.out ?_))
        | (refine Cp.mk fun q hq => Step.out ?_)
        | (refine Ovl.mk (by assumption) (Step.out ?_))
        | (refine CallOK.of_ct (Step.out ?_))
        | (refine CallQ.of_ct (Step.out ?_))
        | (refine Met.by (g := 27) (id_ct _) ?_; rintro q outs ⟨rfl, rfl⟩)
        | (refine Met.by (g := 28) (version_ct _) ?_; rintro q outs ⟨rfl, rfl⟩)
        | (refine Met.by (g := 29) (state_ct _ (by omega)) ?_; rintro q outs ⟨rfl, rfl⟩)
        | (refine Vc.mk ?_ (Step.out ?_))
      all_goals try simp only [Int.toNat_natCast] at *
      · rw [hval, hv, vGo_step l _ i (by omega), if_neg (by simp [-List.getD_eq_getElem?_getD, *]), if_neg (by simp [-List.getD_eq_getElem?_getD, *]), if_pos]
        rw [rAt, if_neg (by omega), show i - 1 = ((i : Int) - 1).toNat by omega]; assumption
      · refine Again.by (i + 1) ⟨⟨by omega, ?_⟩, by omega⟩ ?_
        · rw [hv, vGo_step l _ i (by omega), if_neg (by simp [-List.getD_eq_getElem?_getD, *]), if_neg (by simp [-List.getD_eq_getElem?_getD, *]), if_neg, rAt, if_neg (by omega), Nat.add_sub_cancel]
          rw [rAt, if_neg (by omega), show i - 1 = ((i : Int) - 1).toNat by omega]; assumption
        · repeat' first
            | (refine Step.mk ?_; conv => whnf)
            | (refine Vc.om ?_ ?_; first | omega | with_reducible rfl | with_reducible exact same_rfl | (simp only [bytes_2, bytes_3, bytes_4, bytes_5, bytes_9, bytes_12, bytes_21, bytes_22, bytes_25, bytes_27, bytes_29, bytes_32, bytes_33, bytes_34, bytes_38, bytes_40, bytes_44, bytes_45, bytes_52, bytes_53, bytes_54, bytes_58, bytes_59, bytes_60, bytes_93, bytes_97, bytes_100, true_and, and_true] <;> omega))
            | (refine NilB.mk fun b hb => Step.out ?_)
            | with_reducible trivial
            | exact noSh_bool _
            | exact noSh_lit _
            | exact noSh_int _ _
            | exact noSh_str _
            | with_reducible rfl
            | with_reducible exact same_rfl
            | (refine Wr.i64 ?_ ?_; omega)
            | (refine Wr.u8 ?_ ?_; omega)
            | (refine Wr.i32 ?_ ?_; omega)
            | (with_reducible refine Br.tt ?_)
            | (with_reducible refine Br.ff ?_)
            | (refine Br.dT ?_ ?_; omega)
            | (refine Br.dF ?_ ?_; omega)
            | (refine Br.d (fun h => ?_) (fun h => ?_))
            | (refine Br.swap ?_)
            | (refine Br.bnot ?_)
            | (refine Br.mk (fun h => Step.out ?_) (fun h => Step.out ?_))
            | (refine Two.mk (Step.out ?_) (Step.out ?_))
            | (refine Cp.mk fun q hq => Step.out ?_)
            | (refine Ovl.mk (by assumption) (Step.out ?_))
            | (refine CallOK.of_ct (Step.out ?_))
            | (refine CallQ.of_ct (Step.out ?_))
            | (refine Met.by (g := 27) (id_ct _) ?_; rintro q outs ⟨rfl, rfl⟩)
            | (refine Met.by (g := 28) (version_ct _) ?_; rintro q outs ⟨rfl, rfl⟩)
            | (refine Met.by (g := 29) (state_ct _ (by omega)) ?_; rintro q outs ⟨rfl, rfl⟩)
            | (refine Vc.mk ?_ (Step.out ?_))
      · refine Again.by (i + 1) ⟨⟨by omega, ?_⟩, by omega⟩ ?_
        · rw [hv, vGo_step l _ i (by omega), if_neg (by simp [-List.getD_eq_getElem?_getD, *]), if_neg (by simp [-List.getD_eq_getElem?_getD, *]), if_neg, rAt, if_neg (by omega), Nat.add_sub_cancel]
          have hid : idB (l.getD i Rw.z).id = true := ‹_›
          rw [rAt, if_pos (by omega)]
          simp only [idB, Bool.and_eq_true, decide_eq_true_eq] at hid
          omega
        · repeat' first
            | (refine Step.mk ?_; conv => whnf)
            | (refine Vc.om ?_ ?_; first | omega | with_reducible rfl | with_reducible exact same_rfl | (simp only [bytes_2, bytes_3, bytes_4, bytes_5, bytes_9, bytes_12, bytes_21, bytes_22, bytes_25, bytes_27, bytes_29, bytes_32, bytes_33, bytes_34, bytes_38, bytes_40, bytes_44, bytes_45, bytes_52, bytes_53, bytes_54, bytes_58, bytes_59, bytes_60, bytes_93, bytes_97, bytes_100, true_and, and_true] <;> omega))
            | (refine NilB.mk fun b hb => Step.out ?_)
            | with_reducible trivial
            | exact noSh_bool _
            | exact noSh_lit _
            | exact noSh_int _ _
            | exact noSh_str _
            | with_reducible rfl
            | with_reducible exact same_rfl
            | (refine Wr.i64 ?_ ?_; omega)
            | (refine Wr.u8 ?_ ?_; omega)
            | (refine Wr.i32 ?_ ?_; omega)
            | (with_reducible refine Br.tt ?_)
            | (with_reducible refine Br.ff ?_)
            | (refine Br.dT ?_ ?_; omega)
            | (refine Br.dF ?_ ?_; omega)
            | (refine Br.d (fun h => ?_) (fun h => ?_))
            | (refine Br.swap ?_)
            | (refine Br.bnot ?_)
            | (refine Br.mk (fun h => Step.out ?_) (fun h => Step.out ?_))
            | (refine Two.mk (Step.out ?_) (Step.out ?_))
            | (refine Cp.mk fun q hq => Step.out ?_)
            | (refine Ovl.mk (by assumption) (Step.out ?_))
            | (refine CallOK.of_ct (Step.out ?_))
            | (refine CallQ.of_ct (Step.out ?_))
            | (refine Met.by (g := 27) (id_ct _) ?_; rintro q outs ⟨rfl, rfl⟩)
            | (refine Met.by (g := 28) (version_ct _) ?_; rintro q outs ⟨rfl, rfl⟩)
            | (refine Met.by (g := 29) (state_ct _ (by omega)) ?_; rintro q outs ⟨rfl, rfl⟩)
            | (refine Vc.mk ?_ (Step.out ?_))
      all_goals try
        rw [hval, hv, vGo_step l _ i (by omega), if_neg (by simp [-List.getD_eq_getElem?_getD, *]), if_pos (by simp [-List.getD_eq_getElem?_getD, *])]
        done
      all_goals try
        rw [hval, hv, vGo_step l _ i (by omega), if_pos (by simp [-List.getD_eq_getElem?_getD, *])]
        done
      all_goals try
        rw [hval, hv, List.drop_of_length_le (by omega)]
        rfl
end Kx
