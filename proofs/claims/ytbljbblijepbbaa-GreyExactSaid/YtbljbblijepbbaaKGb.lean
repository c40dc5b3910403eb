/-
  grey: lists of candidates and of decisions, checked.
  No condition beyond those written in each theorem.
-/
import Derived.Test.YtbljbblijepbbaaKGa
open Go Sx Go.Proofs
set_option linter.unusedSimpArgs false
set_option linter.unusedVariables false
namespace Kx
/-- A candidate. -/
structure Cd where
  a : Rf
  b : Rf
  p : Int
  w : Int
deriving DecidableEq
def Cd.f (c : Cd) : List D := [i64 c.a.g, i64 c.a.i, i64 c.b.g, i64 c.b.i, i64 c.p, i64 c.w]
def Cd.z : Cd := ⟨⟨0, 0⟩, ⟨0, 0⟩, 0, 0⟩
def cds (l : List Cd) : D := .tab 6 l.length fun i => Cd.f (l.getD i Cd.z)
/-- A decision. -/
structure De where
  a : Rf
  b : Rf
  va : Int
  vb : Int
  s : Bool
deriving DecidableEq
def De.f (c : De) : List D := [i64 c.a.g, i64 c.a.i, i64 c.b.g, i64 c.b.i, i64 c.va, i64 c.vb, .bool c.s]
def De.d (c : De) : D := .agg c.f
def De.z : De := ⟨⟨0, 0⟩, ⟨0, 0⟩, 0, 0, false⟩
def des (l : List De) : D := .tab 7 l.length fun i => De.f (l.getD i De.z)
def cmpD (x y : De) : Int := if cmpC x.a x.b y.a y.b ≠ 0 then cmpC x.a x.b y.a y.b else if cmpI x.va y.va ≠ 0 then cmpI x.va y.va else cmpI x.vb y.vb
theorem decisions_ct (x y : De) : Ct Try.prog 52 [x.d, y.d] fun q outs => q = i64 (cmpD x y) ∧ outs = [] := by
  refine .det (.of_W (fn := Try.f52) hΓ hm Try.func52 ord52 [] (by kernel_rfl) (Step.out ?_))
  repeat' first
    | (refine Step.mk ?_; conv => whnf)
    | (refine Vc.om ?_ ?_; first | omega | with_reducible rfl | with_reducible exact same_rfl | (simp only [bytes_2, bytes_3, bytes_4, bytes_5, bytes_9, bytes_12, bytes_21, bytes_22, bytes_25, bytes_27, bytes_28, bytes_30, bytes_32, bytes_33, bytes_36, bytes_37, bytes_38, bytes_39, bytes_41, bytes_42, bytes_43, bytes_44, bytes_45, bytes_46, bytes_52, bytes_56, bytes_58, bytes_60, bytes_67, bytes_68, bytes_69, bytes_70, bytes_71, bytes_72, bytes_73, bytes_74, bytes_75, bytes_76, bytes_77, bytes_81, bytes_84, bytes_85, bytes_87, bytes_95, bytes_96, bytes_111, bytes_115, true_and, and_true] <;> omega))
    | (refine NilB.mk fun b hb => Step.out ?_)
    | with_reducible trivial
    | exact noSh_bool _
    | exact noSh_lit _
    | exact noSh_int _ _
    | exact noSh_str _
    | with_reducible rfl
    | with_reducible exact same_rfl
    | (refine Wr.i64 ?_ ?_; omega)
    | (refine Wr.u8 ?_ ?_; omega)
    | (refine Wr.i32 ?_ ?_; omega)
    | (with_reducible refine Br.tt ?_)
    | (with_reducible refine Br.ff ?_)
    | (refine Br.dT ?_ ?_; omega)
    | (refine Br.dF ?_ ?_; omega)
    | (refine Met.by (couples_ct x.a x.b y.a y.b) ?_; rintro q outs ⟨rfl, rfl⟩)
    | (refine Met.by (orL_ct [cmpC x.a x.b y.a y.b, cmpI x.va y.va, cmpI x.vb y.vb] (by simp)) ?_; rintro q outs ⟨rfl, rfl⟩)
    | (refine Br.d (fun h => ?_) (fun h => ?_))
    | (refine Br.swap ?_)
    | (refine Br.bnot ?_)
    | (refine Br.mk (fun h => Step.out ?_) (fun h => Step.out ?_))
    | (refine Two.mk (Step.out ?_) (Step.out ?_))
    | (refine Cp.mk fun q hq => Step.out ?_)
    | (refine Ovl.mk (by assumption) (Step.out ?_))
    | (refine CallOK.of_ct (Step.out ?_))
    | (refine CallQ.of_ct (Step.out ?_))
    | (refine Met.by (g := 48) (couples_ct _ _ _ _) ?_; rintro q outs ⟨rfl, rfl⟩)
    | (refine Met.by (g := 61) (compare_ct _ _) ?_; rintro q outs ⟨rfl, rfl⟩)
    | (refine Vc.mk ?_ (Step.out ?_))
  all_goals exact or3 _ _ _
theorem before_ct (x y : De) : Ct Try.prog 54 [x.d, y.d] fun q outs => q = i64 (cmpD x y) ∧ outs = [] := by
  refine .det (.of_W (fn := Try.f54) hΓ hm Try.func54 [] [] (by kernel_rfl) (Step.out ?_))
  repeat' first
    | (refine Step.mk ?_; conv => whnf)
    | (refine Vc.om ?_ ?_; first | omega | with_reducible rfl | with_reducible exact same_rfl | (simp only [bytes_2, bytes_3, bytes_4, bytes_5, bytes_9, bytes_12, bytes_21, bytes_22, bytes_25, bytes_27, bytes_28, bytes_30, bytes_32, bytes_33, bytes_36, bytes_37, bytes_38, bytes_39, bytes_41, bytes_42, bytes_43, bytes_44, bytes_45, bytes_46, bytes_52, bytes_56, bytes_58, bytes_60, bytes_67, bytes_68, bytes_69, bytes_70, bytes_71, bytes_72, bytes_73, bytes_74, bytes_75, bytes_76, bytes_77, bytes_81, bytes_84, bytes_85, bytes_87, bytes_95, bytes_96, bytes_111, bytes_115, true_and, and_true] <;> omega))
    | (refine NilB.mk fun b hb => Step.out ?_)
    | with_reducible trivial
    | exact noSh_bool _
    | exact noSh_lit _
    | exact noSh_int _ _
    | exact noSh_str _
    | with_reducible rfl
    | with_reducible exact same_rfl
    | (refine Wr.i64 ?_ ?_; omega)
    | (refine Wr.u8 ?_ ?_; omega)
    | (refine Wr.i32 ?_ ?_; omega)
    | (with_reducible refine Br.tt ?_)
    | (with_reducible refine Br.ff ?_)
    | (refine Br.dT ?_ ?_; omega)
    | (refine Br.dF ?_ ?_; omega)
    | (refine Met.by (order_ct x.a x.b y.a y.b) ?_; rintro q outs ⟨rfl, rfl⟩)
    | (refine Br.d (fun h => ?_) (fun h => ?_))
    | (refine Br.swap ?_)
    | (refine Br.bnot ?_)
    | (refine Br.mk (fun h => Step.out ?_) (fun h => Step.out ?_))
    | (refine Two.mk (Step.out ?_) (Step.out ?_))
    | (refine Cp.mk fun q hq => Step.out ?_)
    | (refine Ovl.mk (by assumption) (Step.out ?_))
    | (refine CallOK.of_ct (Step.out ?_))
    | (refine CallQ.of_ct (Step.out ?_))
    | (refine Met.by (g := 50) (order_ct _ _ _ _) ?_; rintro q outs ⟨rfl, rfl⟩)
    | (refine Vc.mk ?_ (Step.out ?_))
  all_goals simp only [cmpD, cmpI]
  all_goals (repeat' split) <;> first | rfl | omega
/-- The first error of candidates, the one before given. -/
def cdGo : Option Cd → List Cd → Int
  | _, [] => 0
  | o, c :: l => if cplB c.a c.b = false then 41 else if c.w < -1048576 ∨ 1048576 < c.w then 40 else if (match o with | none => false | some x => decide (0 ≤ cmpC x.a x.b c.a c.b)) = true then 12 else cdGo (some c) l
def cands (l : List Cd) : Int := if 4096 < l.length then 1 else cdGo none l
def prev {α : Type} (z : α) (l : List α) (i : Nat) : Option α := match i with | 0 => none | i + 1 => some (l.getD i z)
theorem cdGo_step (o : Option Cd) (l : List Cd) (i : Nat) (h : i < l.length) : cdGo o (l.drop i) = if cplB (l.getD i Cd.z).a (l.getD i Cd.z).b = false then 41 else if (l.getD i Cd.z).w < -1048576 ∨ 1048576 < (l.getD i Cd.z).w then 40 else if (match o with | none => false | some x => decide (0 ≤ cmpC x.a x.b (l.getD i Cd.z).a (l.getD i Cd.z).b)) = true then 12 else cdGo (some (l.getD i Cd.z)) (l.drop (i + 1)) := by
  rw [drop_step l Cd.z i h]; rfl
theorem prev_pos {α : Type} {z : α} {l : List α} {i : Nat} (h : 0 < i) : prev z l i = some (l.getD (i - 1) z) := by
  cases i with
  | zero => omega
  | succ i => rfl
theorem pred_nat (i : Nat) (h : 0 < i) : ((i : Int) - 1).toNat = i - 1 := by omega
section
variable {l : List Cd} {i : Nat} (h : (i : Int) < l.length)
include h
theorem cd41 (h1 : cplB (l.getD i Cd.z).a (l.getD i Cd.z).b = false) (o : Option Cd) : 41 = cdGo o (l.drop i) := by rw [cdGo_step o l i (by omega), if_pos h1]
theorem cd40 (h1 : cplB (l.getD i Cd.z).a (l.getD i Cd.z).b = true) (h2 : (l.getD i Cd.z).w < -1048576 ∨ 1048576 < (l.getD i Cd.z).w) (o : Option Cd) : 40 = cdGo o (l.drop i) := by rw [cdGo_step o l i (by omega), if_neg (by rw [h1]; simp), if_pos h2]
theorem cd12 (h1 : cplB (l.getD i Cd.z).a (l.getD i Cd.z).b = true) (h2 : ¬(l.getD i Cd.z).w < -1048576) (h3 : ¬1048576 < (l.getD i Cd.z).w) (h4 : 0 < (i : Int))
    (h5 : 0 ≤ cmpC (l.getD ((i : Int) - 1).toNat Cd.z).a (l.getD ((i : Int) - 1).toNat Cd.z).b (l.getD i Cd.z).a (l.getD i Cd.z).b) : 12 = cdGo (prev Cd.z l i) (l.drop i) := by
  rw [cdGo_step _ l i (by omega), if_neg (by rw [h1]; simp), if_neg (by omega), prev_pos (by omega), if_pos]
  rw [pred_nat i (by omega)] at h5
  simpa using h5
theorem cdN (h1 : cplB (l.getD i Cd.z).a (l.getD i Cd.z).b = true) (h2 : ¬(l.getD i Cd.z).w < -1048576) (h3 : ¬1048576 < (l.getD i Cd.z).w)
    (h5 : 0 < (i : Int) → ¬0 ≤ cmpC (l.getD ((i : Int) - 1).toNat Cd.z).a (l.getD ((i : Int) - 1).toNat Cd.z).b (l.getD i Cd.z).a (l.getD i Cd.z).b) : cdGo (prev Cd.z l i) (l.drop i) = cdGo (prev Cd.z l (i + 1)) (l.drop (i + 1)) := by
  rw [cdGo_step _ l i (by omega), if_neg (by rw [h1]; simp), if_neg (by omega), if_neg]
  · rfl
  · cases i with
    | zero => simp [prev]
    | succ j =>
      have := h5 (by omega)
      rw [pred_nat (j + 1) (by omega)] at this
      simpa [prev] using this
end
theorem cands_ct (l : List Cd) : Ct Try.prog 31 [cds l] fun q outs => q = i64 (cands l) ∧ outs = [] := by
  refine .det (.of_W (fn := Try.f31) hΓ hm Try.func31 ord31 [] (by kernel_rfl) (Step.out ?_))
  repeat' first
    | (refine Step.mk ?_; conv => whnf)
    | (refine Vc.om ?_ ?_; first | omega | with_reducible rfl | with_reducible exact same_rfl | (simp only [bytes_2, bytes_3, bytes_4, bytes_5, bytes_9, bytes_12, bytes_21, bytes_22, bytes_25, bytes_27, bytes_28, bytes_30, bytes_32, bytes_33, bytes_36, bytes_37, bytes_38, bytes_39, bytes_41, bytes_42, bytes_43, bytes_44, bytes_45, bytes_46, bytes_52, bytes_56, bytes_58, bytes_60, bytes_67, bytes_68, bytes_69, bytes_70, bytes_71, bytes_72, bytes_73, bytes_74, bytes_75, bytes_76, bytes_77, bytes_81, bytes_84, bytes_85, bytes_87, bytes_95, bytes_96, bytes_111, bytes_115, true_and, and_true] <;> omega))
    | (refine NilB.mk fun b hb => Step.out ?_)
    | with_reducible trivial
    | exact noSh_bool _
    | exact noSh_lit _
    | exact noSh_int _ _
    | exact noSh_str _
    | with_reducible rfl
    | with_reducible exact same_rfl
    | (refine Wr.i64 ?_ ?_; omega)
    | (refine Wr.u8 ?_ ?_; omega)
    | (refine Wr.i32 ?_ ?_; omega)
    | (with_reducible refine Br.tt ?_)
    | (with_reducible refine Br.ff ?_)
    | (refine Br.dT ?_ ?_; omega)
    | (refine Br.dF ?_ ?_; omega)
    | (refine Br.d (fun h => ?_) (fun h => ?_))
    | (refine Br.swap ?_)
    | (refine Br.bnot ?_)
    | (refine Br.mk (fun h => Step.out ?_) (fun h => Step.out ?_))
    | (refine Two.mk (Step.out ?_) (Step.out ?_))
    | (refine Cp.mk fun q hq => Step.out ?_)
    | (refine Ovl.mk (by assumption) (Step.out ?_))
    | (refine CallOK.of_ct (Step.out ?_))
    | (refine CallQ.of_ct (Step.out ?_))
    | (refine Met.by (g := 47) (couple_ct _ _) ?_; rintro q outs ⟨rfl, rfl⟩)
    | (refine Met.by (g := 48) (couples_ct _ _ _ _) ?_; rintro q outs ⟨rfl, rfl⟩)
    | (refine Vc.mk ?_ (Step.out ?_))
  · rw [cands, if_pos (by omega)]
  · have hval : cands l = cdGo none l := by rw [cands, if_neg (by omega)]
    refine CodeOK.loopW hΓ hm ord31 [] (by kernel_rfl) (α := Nat) (fun i => [(0, cds l), (8, cds l), (9, i64 l.length), (10, i64 i)]) (fun i => []) 0 (fun i => i ≤ l.length ∧ cdGo none l = cdGo (prev Cd.z l i) (l.drop i)) (fun i => l.length - i) ?_ ?_
    · refine Again.by 0 ⟨Nat.zero_le _, rfl⟩ ?_
      repeat' first
        | (refine Step.mk ?_; conv => whnf)
        | (refine Vc.om ?_ ?_; first | omega | with_reducible rfl | with_reducible exact same_rfl | (simp only [bytes_2, bytes_3, bytes_4, bytes_5, bytes_9, bytes_12, bytes_21, bytes_22, bytes_25, bytes_27, bytes_28, bytes_30, bytes_32, bytes_33, bytes_36, bytes_37, bytes_38, bytes_39, bytes_41, bytes_42, bytes_43, bytes_44, bytes_45, bytes_46, bytes_52, bytes_56, bytes_58, bytes_60, bytes_67, bytes_68, bytes_69, bytes_70, bytes_71, bytes_72, bytes_73, bytes_74, bytes_75, bytes_76, bytes_77, bytes_81, bytes_84, bytes_85, bytes_87, bytes_95, bytes_96, bytes_111, bytes_115, true_and, and_true] <;> omega))
        | (refine NilB.mk fun b hb => Step.out ?_)
        | with_reducible trivial
        | exact noSh_bool _
        | exact noSh_lit _
        | exact noSh_int _ _
        | exact noSh_str _
        | with_reducible rfl
        | with_reducible exact same_rfl
        | (refine Wr.i64 ?_ ?_; omega)
        | (refine Wr.u8 ?_ ?_; omega)
        | (refine Wr.i32 ?_ ?_; omega)
        | (with_reducible refine Br.tt ?_)
        | (with_reducible refine Br.ff ?_)
        | (refine Br.dT ?_ ?_; omega)
        | (refine Br.dF ?_ ?_; omega)
        | (refine Br.d (fun h => ?_) (fun h => ?_))
        | (refine Br.swap ?_)
        | (refine Br.bnot ?_)
        | (refine Br.mk (fun h => Step.out ?_) (fun h => Step.out ?_))
        | (refine Two.mk (Step.out ?_) (Step.out ?_))
        | (refine Cp.mk fun q hq => Step.out ?_)
        | (refine Ovl.mk (by assumption) (Step.out ?_))
        | (refine CallOK.of_ct (Step.out ?_))
        | (refine CallQ.of_ct (Step.out ?_))
        | (refine Met.by (g := 47) (couple_ct _ _) ?_; rintro q outs ⟨rfl, rfl⟩)
        | (refine Met.by (g := 48) (couples_ct _ _ _ _) ?_; rintro q outs ⟨rfl, rfl⟩)
        | (refine Vc.mk ?_ (Step.out ?_))
    · intro i ⟨hi, hv⟩
      repeat' first
        | (refine Step.mk ?_; conv => whnf)
        | (refine Vc.om ?_ ?_; first | omega | with_reducible rfl | with_reducible exact same_rfl | (simp only [bytes_2, bytes_3, bytes_4, bytes_5, bytes_9, bytes_12, bytes_21, bytes_22, bytes_25, bytes_27, bytes_28, bytes_30, bytes_32, bytes_33, bytes_36, bytes_37, bytes_38, bytes_39, bytes_41, bytes_42, bytes_43, bytes_44, bytes_45, bytes_46, bytes_52, bytes_56, bytes_58, bytes_60, bytes_67, bytes_68, bytes_69, bytes_70, bytes_71, bytes_72, bytes_73, bytes_74, bytes_75, bytes_76, bytes_77, bytes_81, bytes_84, bytes_85, bytes_87, bytes_95, bytes_96, bytes_111, bytes_115, true_and, and_true] <;> omega))
        | (refine NilB.mk fun b hb => Step.out ?_)
        | with_reducible trivial
        | exact noSh_bool _
        | exact noSh_lit _
        | exact noSh_int _ _
        | exact noSh_str _
        | with_reducible rfl
        | with_reducible exact same_rfl
        | (refine Wr.i64 ?_ ?_; omega)
        | (refine Wr.u8 ?_ ?_; omega)
        | (refine Wr.i32 ?_ ?_; omega)
        | (with_reducible refine Br.tt ?_)
        | (with_reducible refine Br.ff ?_)
        | (refine Br.dT ?_ ?_; omega)
        | (refine Br.dF ?_ ?_; omega)
        | (refine Met.by (couple_ct (l.getD (i : Int).toNat Cd.z).a (l.getD (i : Int).toNat Cd.z).b) ?_; rintro q outs ⟨rfl, rfl⟩)
        | (refine Met.by (couples_ct (l.getD ((i : Int) - 1).toNat Cd.z).a (l.getD ((i : Int) - 1).toNat Cd.z).b (l.getD (i : Int).toNat Cd.z).a (l.getD (i : Int).toNat Cd.z).b) ?_; rintro q outs ⟨rfl, rfl⟩)
        | (refine Br.d (fun h => ?_) (fun h => ?_))
        | (refine Br.swap ?_)
        | (refine Br.bnot ?_)
        | (refine Br.mk (fun h => Step.out ?_) (fun h => Step.out ?_))
        | (refine Two.mk (Step.out ?_) (Step.out ?_))
        | (refine Cp.mk fun q hq => Step.out ?_)
        | (refine Ovl.mk (by assumption) (Step.out ?_))
        | (refine CallOK.of_ct (Step.out ?_))
        | (refine CallQ.of_ct (Step.out ?_))
        | (refine Met.by (g := 47) (couple_ct _ _) ?_; rintro q outs ⟨rfl, rfl⟩)
        | (refine Met.by (g := 48) (couples_ct _ _ _ _) ?_; rintro q outs ⟨rfl, rfl⟩)
        | (refine Vc.mk ?_ (Step.out ?_))
      all_goals try simp only [Int.toNat_natCast] at *
      all_goals first
        | (rw [hval, hv]; first | exact cd41 ‹_› ‹_› _ | exact cd40 ‹_› ‹_› (.inl ‹_›) _ | exact cd40 ‹_› ‹_› (.inr ‹_›) _ | exact cd12 ‹_› ‹_› ‹_› ‹_› ‹_› ‹_›)
        | (rw [hval, hv, List.drop_of_length_le (by omega)]; rfl)
        | refine Again.by (i + 1) ⟨⟨by omega, by rw [hv]; exact cdN ‹_› ‹_› ‹_› ‹_› (fun hp => by first | exact absurd hp ‹_› | assumption)⟩, by omega⟩ ?_
      all_goals
        repeat' first
          | (refine Step.mk ?_; conv => whnf)
          | (refine Vc.om ?_ ?_; first | omega | with_reducible rfl | with_reducible exact same_rfl | (simp only [bytes_2, bytes_3, bytes_4, bytes_5, bytes_9, bytes_12, bytes_21, bytes_22, bytes_25, bytes_27, bytes_28, bytes_30, bytes_32, bytes_33, bytes_36, bytes_37, bytes_38, bytes_39, bytes_41, bytes_42, bytes_43, bytes_44, bytes_45, bytes_46, bytes_52, bytes_56, bytes_58, bytes_60, bytes_67, bytes_68, bytes_69, bytes_70, bytes_71, bytes_72, bytes_73, bytes_74, bytes_75, bytes_76, bytes_77, bytes_81, bytes_84, bytes_85, bytes_87, bytes_95, bytes_96, bytes_111, bytes_115, true_and, and_true] <;> omega))
          | (refine NilB.mk fun b hb => Step.out ?_)
          | with_reducible trivial
          | exact noSh_bool _
          | exact noSh_lit _
          | exact noSh_int _ _
          | exact noSh_str _
          | with_reducible rfl
          | with_reducible exact same_rfl
          | (refine Wr.i64 ?_ ?_; omega)
          | (refine Wr.u8 ?_ ?_; omega)
          | (refine Wr.i32 ?_ ?_; omega)
          | (with_reducible refine Br.tt ?_)
          | (with_reducible refine Br.ff ?_)
          | (refine Br.dT ?_ ?_; omega)
          | (refine Br.dF ?_ ?_; omega)
          | (refine Br.d (fun h => ?_) (fun h => ?_))
          | (refine Br.swap ?_)
          | (refine Br.bnot ?_)
          | (refine Br.mk (fun h => Step.out ?_) (fun h => Step.out ?_))
          | (refine Two.mk (Step.out ?_) (Step.out ?_))
          | (refine Cp.mk fun q hq => Step.out ?_)
          | (refine Ovl.mk (by assumption) (Step.out ?_))
          | (refine CallOK.of_ct (Step.out ?_))
          | (refine CallQ.of_ct (Step.out ?_))
          | (refine Met.by (g := 47) (couple_ct _ _) ?_; rintro q outs ⟨rfl, rfl⟩)
          | (refine Met.by (g := 48) (couples_ct _ _ _ _) ?_; rintro q outs ⟨rfl, rfl⟩)
          | (refine Vc.mk ?_ (Step.out ?_))
theorem rcands_ct (l : List Cd) : Ct Try.prog 32 [cds l] fun q outs => q = i64 (cands l) ∧ outs = [] := by
  refine .det (.of_W (fn := Try.f32) hΓ hm Try.func32 ord32 [] (by kernel_rfl) (Step.out ?_))
  repeat' first
    | (refine Step.mk ?_; conv => whnf)
    | (refine Vc.om ?_ ?_; first | omega | with_reducible rfl | with_reducible exact same_rfl | (simp only [bytes_2, bytes_3, bytes_4, bytes_5, bytes_9, bytes_12, bytes_21, bytes_22, bytes_25, bytes_27, bytes_28, bytes_30, bytes_32, bytes_33, bytes_36, bytes_37, bytes_38, bytes_39, bytes_41, bytes_42, bytes_43, bytes_44, bytes_45, bytes_46, bytes_52, bytes_56, bytes_58, bytes_60, bytes_67, bytes_68, bytes_69, bytes_70, bytes_71, bytes_72, bytes_73, bytes_74, bytes_75, bytes_76, bytes_77, bytes_81, bytes_84, bytes_85, bytes_87, bytes_95, bytes_96, bytes_111, bytes_115, true_and, and_true] <;> omega))
    | (refine NilB.mk fun b hb => Step.out ?_)
    | with_reducible trivial
    | exact noSh_bool _
    | exact noSh_lit _
    | exact noSh_int _ _
    | exact noSh_str _
    | with_reducible rfl
    | with_reducible exact same_rfl
    | (refine Wr.i64 ?_ ?_; omega)
    | (refine Wr.u8 ?_ ?_; omega)
    | (refine Wr.i32 ?_ ?_; omega)
    | (with_reducible refine Br.tt ?_)
    | (with_reducible refine Br.ff ?_)
    | (refine Br.dT ?_ ?_; omega)
    | (refine Br.dF ?_ ?_; omega)
    | (refine Br.d (fun h => ?_) (fun h => ?_))
    | (refine Br.swap ?_)
    | (refine Br.bnot ?_)
    | (refine Br.mk (fun h => Step.out ?_) (fun h => Step.out ?_))
    | (refine Two.mk (Step.out ?_) (Step.out ?_))
    | (refine Cp.mk fun q hq => Step.out ?_)
    | (refine Ovl.mk (by assumption) (Step.out ?_))
    | (refine CallOK.of_ct (Step.out ?_))
    | (refine CallQ.of_ct (Step.out ?_))
    | (refine Met.by (g := 49) (two_ct _ _) ?_; rintro q outs ⟨rfl, rfl⟩)
    | (refine Met.by (g := 50) (order_ct _ _ _ _) ?_; rintro q outs ⟨rfl, rfl⟩)
    | (refine Vc.mk ?_ (Step.out ?_))
  · rw [cands, if_pos (by omega)]
  · have hval : cands l = cdGo none l := by rw [cands, if_neg (by omega)]
    refine CodeOK.loopW hΓ hm ord32 [] (by kernel_rfl) (α := Nat) (fun i => [(0, cds l), (3, i64 i)]) (fun i => []) 0 (fun i => i ≤ l.length ∧ cdGo none l = cdGo (prev Cd.z l i) (l.drop i)) (fun i => l.length - i) ?_ ?_
    · refine Again.by 0 ⟨Nat.zero_le _, rfl⟩ ?_
      repeat' first
        | (refine Step.mk ?_; conv => whnf)
        | (refine Vc.om ?_ ?_; first | omega | with_reducible rfl | with_reducible exact same_rfl | (simp only [bytes_2, bytes_3, bytes_4, bytes_5, bytes_9, bytes_12, bytes_21, bytes_22, bytes_25, bytes_27, bytes_28, bytes_30, bytes_32, bytes_33, bytes_36, bytes_37, bytes_38, bytes_39, bytes_41, bytes_42, bytes_43, bytes_44, bytes_45, bytes_46, bytes_52, bytes_56, bytes_58, bytes_60, bytes_67, bytes_68, bytes_69, bytes_70, bytes_71, bytes_72, bytes_73, bytes_74, bytes_75, bytes_76, bytes_77, bytes_81, bytes_84, bytes_85, bytes_87, bytes_95, bytes_96, bytes_111, bytes_115, true_and, and_true] <;> omega))
        | (refine NilB.mk fun b hb => Step.out ?_)
        | with_reducible trivial
        | exact noSh_bool _
        | exact noSh_lit _
        | exact noSh_int _ _
        | exact noSh_str _
        | with_reducible rfl
        | with_reducible exact same_rfl
        | (refine Wr.i64 ?_ ?_; omega)
        | (refine Wr.u8 ?_ ?_; omega)
        | (refine Wr.i32 ?_ ?_; omega)
        | (with_reducible refine Br.tt ?_)
        | (with_reducible refine Br.ff ?_)
        | (refine Br.dT ?_ ?_; omega)
        | (refine Br.dF ?_ ?_; omega)
        | (refine Br.d (fun h => ?_) (fun h => ?_))
        | (refine Br.swap ?_)
        | (refine Br.bnot ?_)
        | (refine Br.mk (fun h => Step.out ?_) (fun h => Step.out ?_))
        | (refine Two.mk (Step.out ?_) (Step.out ?_))
        | (refine Cp.mk fun q hq => Step.out ?_)
        | (refine Ovl.mk (by assumption) (Step.out ?_))
        | (refine CallOK.of_ct (Step.out ?_))
        | (refine CallQ.of_ct (Step.out ?_))
        | (refine Met.by (g := 49) (two_ct _ _) ?_; rintro q outs ⟨rfl, rfl⟩)
        | (refine Met.by (g := 50) (order_ct _ _ _ _) ?_; rintro q outs ⟨rfl, rfl⟩)
        | (refine Vc.mk ?_ (Step.out ?_))
    · intro i ⟨hi, hv⟩
      repeat' first
        | (refine Step.mk ?_; conv => whnf)
        | (refine Vc.om ?_ ?_; first | omega | with_reducible rfl | with_reducible exact same_rfl | (simp only [bytes_2, bytes_3, bytes_4, bytes_5, bytes_9, bytes_12, bytes_21, bytes_22, bytes_25, bytes_27, bytes_28, bytes_30, bytes_32, bytes_33, bytes_36, bytes_37, bytes_38, bytes_39, bytes_41, bytes_42, bytes_43, bytes_44, bytes_45, bytes_46, bytes_52, bytes_56, bytes_58, bytes_60, bytes_67, bytes_68, bytes_69, bytes_70, bytes_71, bytes_72, bytes_73, bytes_74, bytes_75, bytes_76, bytes_77, bytes_81, bytes_84, bytes_85, bytes_87, bytes_95, bytes_96, bytes_111, bytes_115, true_and, and_true] <;> omega))
        | (refine NilB.mk fun b hb => Step.out ?_)
        | with_reducible trivial
        | exact noSh_bool _
        | exact noSh_lit _
        | exact noSh_int _ _
        | exact noSh_str _
        | with_reducible rfl
        | with_reducible exact same_rfl
        | (refine Wr.i64 ?_ ?_; omega)
        | (refine Wr.u8 ?_ ?_; omega)
        | (refine Wr.i32 ?_ ?_; omega)
        | (with_reducible refine Br.tt ?_)
        | (with_reducible refine Br.ff ?_)
        | (refine Br.dT ?_ ?_; omega)
        | (refine Br.dF ?_ ?_; omega)
        | (refine Met.by (two_ct (l.getD (i : Int).toNat Cd.z).a (l.getD (i : Int).toNat Cd.z).b) ?_; rintro q outs ⟨rfl, rfl⟩)
        | (refine Met.by (order_ct (l.getD ((i : Int) - 1).toNat Cd.z).a (l.getD ((i : Int) - 1).toNat Cd.z).b (l.getD (i : Int).toNat Cd.z).a (l.getD (i : Int).toNat Cd.z).b) ?_; rintro q outs ⟨rfl, rfl⟩)
        | (refine Br.d (fun h => ?_) (fun h => ?_))
        | (refine Br.swap ?_)
        | (refine Br.bnot ?_)
        | (refine Br.mk (fun h => Step.out ?_) (fun h => Step.out ?_))
        | (refine Two.mk (Step.out ?_) (Step.out ?_))
        | (refine Cp.mk fun q hq => Step.out ?_)
        | (refine Ovl.mk (by assumption) (Step.out ?_))
        | (refine CallOK.of_ct (Step.out ?_))
        | (refine CallQ.of_ct (Step.out ?_))
        | (refine Met.by (g := 49) (two_ct _ _) ?_; rintro q outs ⟨rfl, rfl⟩)
        | (refine Met.by (g := 50) (order_ct _ _ _ _) ?_; rintro q outs ⟨rfl, rfl⟩)
        | (refine Vc.mk ?_ (Step.out ?_))
      all_goals try simp only [Int.toNat_natCast] at *
      all_goals first
        | (rw [hval, hv]; first | exact cd41 ‹_› ‹_› _ | exact cd40 ‹_› ‹_› (.inl ‹_›) _ | exact cd40 ‹_› ‹_› (.inr ‹_›) _ | exact cd12 ‹_› ‹_› ‹_› ‹_› ‹_› ‹_›)
        | (rw [hval, hv, List.drop_of_length_le (by omega)]; rfl)
        | refine Again.by (i + 1) ⟨⟨by omega, by rw [hv]; exact cdN ‹_› ‹_› ‹_› ‹_› (fun hp => by first | exact absurd hp ‹_› | assumption)⟩, by omega⟩ ?_
      all_goals
        repeat' first
          | (refine Step.mk ?_; conv => whnf)
          | (refine Vc.om ?_ ?_; first | omega | with_reducible rfl | with_reducible exact same_rfl | (simp only [bytes_2, bytes_3, bytes_4, bytes_5, bytes_9, bytes_12, bytes_21, bytes_22, bytes_25, bytes_27, bytes_28, bytes_30, bytes_32, bytes_33, bytes_36, bytes_37, bytes_38, bytes_39, bytes_41, bytes_42, bytes_43, bytes_44, bytes_45, bytes_46, bytes_52, bytes_56, bytes_58, bytes_60, bytes_67, bytes_68, bytes_69, bytes_70, bytes_71, bytes_72, bytes_73, bytes_74, bytes_75, bytes_76, bytes_77, bytes_81, bytes_84, bytes_85, bytes_87, bytes_95, bytes_96, bytes_111, bytes_115, true_and, and_true] <;> omega))
          | (refine NilB.mk fun b hb => Step.out ?_)
          | with_reducible trivial
          | exact noSh_bool _
          | exact noSh_lit _
          | exact noSh_int _ _
          | exact noSh_str _
          | with_reducible rfl
          | with_reducible exact same_rfl
          | (refine Wr.i64 ?_ ?_; omega)
          | (refine Wr.u8 ?_ ?_; omega)
          | (refine Wr.i32 ?_ ?_; omega)
          | (with_reducible refine Br.tt ?_)
          | (with_reducible refine Br.ff ?_)
          | (refine Br.dT ?_ ?_; omega)
          | (refine Br.dF ?_ ?_; omega)
          | (refine Br.d (fun h => ?_) (fun h => ?_))
          | (refine Br.swap ?_)
          | (refine Br.bnot ?_)
          | (refine Br.mk (fun h => Step.out ?_) (fun h => Step.out ?_))
          | (refine Two.mk (Step.out ?_) (Step.out ?_))
          | (refine Cp.mk fun q hq => Step.out ?_)
          | (refine Ovl.mk (by assumption) (Step.out ?_))
          | (refine CallOK.of_ct (Step.out ?_))
          | (refine CallQ.of_ct (Step.out ?_))
          | (refine Met.by (g := 49) (two_ct _ _) ?_; rintro q outs ⟨rfl, rfl⟩)
          | (refine Met.by (g := 50) (order_ct _ _ _ _) ?_; rintro q outs ⟨rfl, rfl⟩)
          | (refine Vc.mk ?_ (Step.out ?_))
/-- The first error of decisions, the one before given. -/
def deGo : Option De → List De → Int
  | _, [] => 0
  | o, c :: l => if cplB c.a c.b = false then 41 else if (verB c.va && verB c.vb) = false then 42 else if (match o with | none => false | some x => decide (0 ≤ cmpD x c)) = true then 12 else deGo (some c) l
def decided (l : List De) : Int := if 4096 < l.length then 1 else deGo none l
theorem deGo_step (o : Option De) (l : List De) (i : Nat) (h : i < l.length) : deGo o (l.drop i) = if cplB (l.getD i De.z).a (l.getD i De.z).b = false then 41 else if (verB (l.getD i De.z).va && verB (l.getD i De.z).vb) = false then 42 else if (match o with | none => false | some x => decide (0 ≤ cmpD x (l.getD i De.z))) = true then 12 else deGo (some (l.getD i De.z)) (l.drop (i + 1)) := by
  rw [drop_step l De.z i h]; rfl
section
variable {l : List De} {i : Nat} (h : (i : Int) < l.length)
include h
theorem de41 (h1 : cplB (l.getD i De.z).a (l.getD i De.z).b = false) (o : Option De) : 41 = deGo o (l.drop i) := by rw [deGo_step o l i (by omega), if_pos h1]
theorem de42a (h1 : cplB (l.getD i De.z).a (l.getD i De.z).b = true) (h2 : verB (l.getD i De.z).va = false) (o : Option De) : 42 = deGo o (l.drop i) := by rw [deGo_step o l i (by omega), if_neg (by rw [h1]; simp), if_pos (by rw [h2]; rfl)]
theorem de42b (h1 : cplB (l.getD i De.z).a (l.getD i De.z).b = true) (h2 : verB (l.getD i De.z).vb = false) (o : Option De) : 42 = deGo o (l.drop i) := by rw [deGo_step o l i (by omega), if_neg (by rw [h1]; simp), if_pos (by rw [h2, Bool.and_false])]
theorem de12 (h1 : cplB (l.getD i De.z).a (l.getD i De.z).b = true) (h2 : verB (l.getD i De.z).va = true) (h3 : verB (l.getD i De.z).vb = true) (h4 : 0 < (i : Int))
    (h5 : 0 ≤ cmpD (l.getD ((i : Int) - 1).toNat De.z) (l.getD i De.z)) : 12 = deGo (prev De.z l i) (l.drop i) := by
  rw [deGo_step _ l i (by omega), if_neg (by rw [h1]; simp), if_neg (by rw [h2, h3]; simp), prev_pos (by omega), if_pos]
  rw [pred_nat i (by omega)] at h5
  simpa using h5
theorem deN (h1 : cplB (l.getD i De.z).a (l.getD i De.z).b = true) (h2 : verB (l.getD i De.z).va = true) (h3 : verB (l.getD i De.z).vb = true)
    (h5 : 0 < (i : Int) → ¬0 ≤ cmpD (l.getD ((i : Int) - 1).toNat De.z) (l.getD i De.z)) : deGo (prev De.z l i) (l.drop i) = deGo (prev De.z l (i + 1)) (l.drop (i + 1)) := by
  rw [deGo_step _ l i (by omega), if_neg (by rw [h1]; simp), if_neg (by rw [h2, h3]; simp), if_neg]
  · rfl
  · cases i with
    | zero => simp [prev]
    | succ j =>
      have := h5 (by omega)
      rw [pred_nat (j + 1) (by omega)] at this
      simpa [prev] using this
end
theorem decided_ct (l : List De) : Ct Try.prog 33 [des l] fun q outs => q = i64 (decided l) ∧ outs = [] := by
  refine .det (.of_W (fn := Try.f33) hΓ hm Try.func33 ord33 [] (by kernel_rfl) (Step.out ?_))
  repeat' first
    | (refine Step.mk ?_; conv => whnf)
    | (refine Vc.om ?_ ?_; first | omega | with_reducible rfl | with_reducible exact same_rfl | (simp only [bytes_2, bytes_3, bytes_4, bytes_5, bytes_9, bytes_12, bytes_21, bytes_22, bytes_25, bytes_27, bytes_28, bytes_30, bytes_32, bytes_33, bytes_36, bytes_37, bytes_38, bytes_39, bytes_41, bytes_42, bytes_43, bytes_44, bytes_45, bytes_46, bytes_52, bytes_56, bytes_58, bytes_60, bytes_67, bytes_68, bytes_69, bytes_70, bytes_71, bytes_72, bytes_73, bytes_74, bytes_75, bytes_76, bytes_77, bytes_81, bytes_84, bytes_85, bytes_87, bytes_95, bytes_96, bytes_111, bytes_115, true_and, and_true] <;> omega))
    | (refine NilB.mk fun b hb => Step.out ?_)
    | with_reducible trivial
    | exact noSh_bool _
    | exact noSh_lit _
    | exact noSh_int _ _
    | exact noSh_str _
    | with_reducible rfl
    | with_reducible exact same_rfl
    | (refine Wr.i64 ?_ ?_; omega)
    | (refine Wr.u8 ?_ ?_; omega)
    | (refine Wr.i32 ?_ ?_; omega)
    | (with_reducible refine Br.tt ?_)
    | (with_reducible refine Br.ff ?_)
    | (refine Br.dT ?_ ?_; omega)
    | (refine Br.dF ?_ ?_; omega)
    | (refine Br.d (fun h => ?_) (fun h => ?_))
    | (refine Br.swap ?_)
    | (refine Br.bnot ?_)
    | (refine Br.mk (fun h => Step.out ?_) (fun h => Step.out ?_))
    | (refine Two.mk (Step.out ?_) (Step.out ?_))
    | (refine Cp.mk fun q hq => Step.out ?_)
    | (refine Ovl.mk (by assumption) (Step.out ?_))
    | (refine CallOK.of_ct (Step.out ?_))
    | (refine CallQ.of_ct (Step.out ?_))
    | (refine Met.by (g := 47) (couple_ct _ _) ?_; rintro q outs ⟨rfl, rfl⟩)
    | (refine Met.by (g := 51) (version_ct _) ?_; rintro q outs ⟨rfl, rfl⟩)
    | (refine Met.by (g := 52) (decisions_ct _ _) ?_; rintro q outs ⟨rfl, rfl⟩)
    | (refine Vc.mk ?_ (Step.out ?_))
  · rw [decided, if_pos (by omega)]
  · have hval : decided l = deGo none l := by rw [decided, if_neg (by omega)]
    refine CodeOK.loopW hΓ hm ord33 [] (by kernel_rfl) (α := Nat) (fun i => [(0, des l), (8, des l), (9, i64 l.length), (10, i64 i)]) (fun i => []) 0 (fun i => i ≤ l.length ∧ deGo none l = deGo (prev De.z l i) (l.drop i)) (fun i => l.length - i) ?_ ?_
    · refine Again.by 0 ⟨Nat.zero_le _, rfl⟩ ?_
      repeat' first
        | (refine Step.mk ?_; conv => whnf)
        | (refine Vc.om ?_ ?_; first | omega | with_reducible rfl | with_reducible exact same_rfl | (simp only [bytes_2, bytes_3, bytes_4, bytes_5, bytes_9, bytes_12, bytes_21, bytes_22, bytes_25, bytes_27, bytes_28, bytes_30, bytes_32, bytes_33, bytes_36, bytes_37, bytes_38, bytes_39, bytes_41, bytes_42, bytes_43, bytes_44, bytes_45, bytes_46, bytes_52, bytes_56, bytes_58, bytes_60, bytes_67, bytes_68, bytes_69, bytes_70, bytes_71, bytes_72, bytes_73, bytes_74, bytes_75, bytes_76, bytes_77, bytes_81, bytes_84, bytes_85, bytes_87, bytes_95, bytes_96, bytes_111, bytes_115, true_and, and_true] <;> omega))
        | (refine NilB.mk fun b hb => Step.out ?_)
        | with_reducible trivial
        | exact noSh_bool _
        | exact noSh_lit _
        | exact noSh_int _ _
        | exact noSh_str _
        | with_reducible rfl
        | with_reducible exact same_rfl
        | (refine Wr.i64 ?_ ?_; omega)
        | (refine Wr.u8 ?_ ?_; omega)
        | (refine Wr.i32 ?_ ?_; omega)
        | (with_reducible refine Br.tt ?_)
        | (with_reducible refine Br.ff ?_)
        | (refine Br.dT ?_ ?_; omega)
        | (refine Br.dF ?_ ?_; omega)
        | (refine Br.d (fun h => ?_) (fun h => ?_))
        | (refine Br.swap ?_)
        | (refine Br.bnot ?_)
        | (refine Br.mk (fun h => Step.out ?_) (fun h => Step.out ?_))
        | (refine Two.mk (Step.out ?_) (Step.out ?_))
        | (refine Cp.mk fun q hq => Step.out ?_)
        | (refine Ovl.mk (by assumption) (Step.out ?_))
        | (refine CallOK.of_ct (Step.out ?_))
        | (refine CallQ.of_ct (Step.out ?_))
        | (refine Met.by (g := 47) (couple_ct _ _) ?_; rintro q outs ⟨rfl, rfl⟩)
        | (refine Met.by (g := 51) (version_ct _) ?_; rintro q outs ⟨rfl, rfl⟩)
        | (refine Met.by (g := 52) (decisions_ct _ _) ?_; rintro q outs ⟨rfl, rfl⟩)
        | (refine Vc.mk ?_ (Step.out ?_))
    · intro i ⟨hi, hv⟩
      repeat' first
        | (refine Step.mk ?_; conv => whnf)
        | (refine Vc.om ?_ ?_; first | omega | with_reducible rfl | with_reducible exact same_rfl | (simp only [bytes_2, bytes_3, bytes_4, bytes_5, bytes_9, bytes_12, bytes_21, bytes_22, bytes_25, bytes_27, bytes_28, bytes_30, bytes_32, bytes_33, bytes_36, bytes_37, bytes_38, bytes_39, bytes_41, bytes_42, bytes_43, bytes_44, bytes_45, bytes_46, bytes_52, bytes_56, bytes_58, bytes_60, bytes_67, bytes_68, bytes_69, bytes_70, bytes_71, bytes_72, bytes_73, bytes_74, bytes_75, bytes_76, bytes_77, bytes_81, bytes_84, bytes_85, bytes_87, bytes_95, bytes_96, bytes_111, bytes_115, true_and, and_true] <;> omega))
        | (refine NilB.mk fun b hb => Step.out ?_)
        | with_reducible trivial
        | exact noSh_bool _
        | exact noSh_lit _
        | exact noSh_int _ _
        | exact noSh_str _
        | with_reducible rfl
        | with_reducible exact same_rfl
        | (refine Wr.i64 ?_ ?_; omega)
        | (refine Wr.u8 ?_ ?_; omega)
        | (refine Wr.i32 ?_ ?_; omega)
        | (with_reducible refine Br.tt ?_)
        | (with_reducible refine Br.ff ?_)
        | (refine Br.dT ?_ ?_; omega)
        | (refine Br.dF ?_ ?_; omega)
        | (refine Met.by (couple_ct (l.getD (i : Int).toNat De.z).a (l.getD (i : Int).toNat De.z).b) ?_; rintro q outs ⟨rfl, rfl⟩)
        | (refine Met.by (decisions_ct (l.getD ((i : Int) - 1).toNat De.z) (l.getD (i : Int).toNat De.z)) ?_; rintro q outs ⟨rfl, rfl⟩)
        | (refine Br.d (fun h => ?_) (fun h => ?_))
        | (refine Br.swap ?_)
        | (refine Br.bnot ?_)
        | (refine Br.mk (fun h => Step.out ?_) (fun h => Step.out ?_))
        | (refine Two.mk (Step.out ?_) (Step.out ?_))
        | (refine Cp.mk fun q hq => Step.out ?_)
        | (refine Ovl.mk (by assumption) (Step.out ?_))
        | (refine CallOK.of_ct (Step.out ?_))
        | (refine CallQ.of_ct (Step.out ?_))
        | (refine Met.by (g := 47) (couple_ct _ _) ?_; rintro q outs ⟨rfl, rfl⟩)
        | (refine Met.by (g := 51) (version_ct _) ?_; rintro q outs ⟨rfl, rfl⟩)
        | (refine Met.by (g := 52) (decisions_ct _ _) ?_; rintro q outs ⟨rfl, rfl⟩)
        | (refine Vc.mk ?_ (Step.out ?_))
      all_goals try simp only [Int.toNat_natCast] at *
      all_goals first
        | (rw [hval, hv]; first | exact de41 ‹_› ‹_› _ | exact de42a ‹_› ‹_› ‹_› _ | exact de42b ‹_› ‹_› ‹_› _ | exact de12 ‹_› ‹_› ‹_› ‹_› ‹_› ‹_›)
        | (rw [hval, hv, List.drop_of_length_le (by omega)]; rfl)
        | refine Again.by (i + 1) ⟨⟨by omega, by rw [hv]; exact deN ‹_› ‹_› ‹_› ‹_› (fun hp => by first | exact absurd hp ‹_› | assumption)⟩, by omega⟩ ?_
      all_goals
        repeat' first
          | (refine Step.mk ?_; conv => whnf)
          | (refine Vc.om ?_ ?_; first | omega | with_reducible rfl | with_reducible exact same_rfl | (simp only [bytes_2, bytes_3, bytes_4, bytes_5, bytes_9, bytes_12, bytes_21, bytes_22, bytes_25, bytes_27, bytes_28, bytes_30, bytes_32, bytes_33, bytes_36, bytes_37, bytes_38, bytes_39, bytes_41, bytes_42, bytes_43, bytes_44, bytes_45, bytes_46, bytes_52, bytes_56, bytes_58, bytes_60, bytes_67, bytes_68, bytes_69, bytes_70, bytes_71, bytes_72, bytes_73, bytes_74, bytes_75, bytes_76, bytes_77, bytes_81, bytes_84, bytes_85, bytes_87, bytes_95, bytes_96, bytes_111, bytes_115, true_and, and_true] <;> omega))
          | (refine NilB.mk fun b hb => Step.out ?_)
          | with_reducible trivial
          | exact noSh_bool _
          | exact noSh_lit _
          | exact noSh_int _ _
          | exact noSh_str _
          | with_reducible rfl
          | with_reducible exact same_rfl
          | (refine Wr.i64 ?_ ?_; omega)
          | (refine Wr.u8 ?_ ?_; omega)
          | (refine Wr.i32 ?_ ?_; omega)
          | (with_reducible refine Br.tt ?_)
          | (with_reducible refine Br.ff ?_)
          | (refine Br.dT ?_ ?_; omega)
          | (refine Br.dF ?_ ?_; omega)
          | (refine Br.d (fun h => ?_) (fun h => ?_))
          | (refine Br.swap ?_)
          | (refine Br.bnot ?_)
          | (refine Br.mk (fun h => Step.out ?_) (fun h => Step.out ?_))
          | (refine Two.mk (Step.out ?_) (Step.out ?_))
          | (refine Cp.mk fun q hq => Step.out ?_)
          | (refine Ovl.mk (by assumption) (Step.out ?_))
          | (refine CallOK.of_ct (Step.out ?_))
          | (refine CallQ.of_ct (Step.out ?_))
          | (refine Met.by (g := 47) (couple_ct _ _) ?_; rintro q outs ⟨rfl, rfl⟩)
          | (refine Met.by (g := 51) (version_ct _) ?_; rintro q outs ⟨rfl, rfl⟩)
          | (refine Met.by (g := 52) (decisions_ct _ _) ?_; rintro q outs ⟨rfl, rfl⟩)
          | (refine Vc.mk ?_ (Step.out ?_))
theorem rdecided_ct (l : List De) : Ct Try.prog 34 [des l] fun q outs => q = i64 (decided l) ∧ outs = [] := by
  refine .det (.of_W (fn := Try.f34) hΓ hm Try.func34 ord34 [] (by kernel_rfl) (Step.out ?_))
  repeat' first
    | (refine Step.mk ?_; conv => whnf)
    | (refine Vc.om ?_ ?_; first | omega | with_reducible rfl | with_reducible exact same_rfl | (simp only [bytes_2, bytes_3, bytes_4, bytes_5, bytes_9, bytes_12, bytes_21, bytes_22, bytes_25, bytes_27, bytes_28, bytes_30, bytes_32, bytes_33, bytes_36, bytes_37, bytes_38, bytes_39, bytes_41, bytes_42, bytes_43, bytes_44, bytes_45, bytes_46, bytes_52, bytes_56, bytes_58, bytes_60, bytes_67, bytes_68, bytes_69, bytes_70, bytes_71, bytes_72, bytes_73, bytes_74, bytes_75, bytes_76, bytes_77, bytes_81, bytes_84, bytes_85, bytes_87, bytes_95, bytes_96, bytes_111, bytes_115, true_and, and_true] <;> omega))
    | (refine NilB.mk fun b hb => Step.out ?_)
    | with_reducible trivial
    | exact noSh_bool _
    | exact noSh_lit _
    | exact noSh_int _ _
    | exact noSh_str _
    | with_reducible rfl
    | with_reducible exact same_rfl
    | (refine Wr.i64 ?_ ?_; omega)
    | (refine Wr.u8 ?_ ?_; omega)
    | (refine Wr.i32 ?_ ?_; omega)
    | (with_reducible refine Br.tt ?_)
    | (with_reducible refine Br.ff ?_)
    | (refine Br.dT ?_ ?_; omega)
    | (refine Br.dF ?_ ?_; omega)
    | (refine Br.d (fun h => ?_) (fun h => ?_))
    | (refine Br.swap ?_)
    | (refine Br.bnot ?_)
    | (refine Br.mk (fun h => Step.out ?_) (fun h => Step.out ?_))
    | (refine Two.mk (Step.out ?_) (Step.out ?_))
    | (refine Cp.mk fun q hq => Step.out ?_)
    | (refine Ovl.mk (by assumption) (Step.out ?_))
    | (refine CallOK.of_ct (Step.out ?_))
    | (refine CallQ.of_ct (Step.out ?_))
    | (refine Met.by (g := 49) (two_ct _ _) ?_; rintro q outs ⟨rfl, rfl⟩)
    | (refine Met.by (g := 53) (rversion_ct _) ?_; rintro q outs ⟨rfl, rfl⟩)
    | (refine Met.by (g := 54) (before_ct _ _) ?_; rintro q outs ⟨rfl, rfl⟩)
    | (refine Vc.mk ?_ (Step.out ?_))
  · rw [decided, if_pos (by omega)]
  · have hval : decided l = deGo none l := by rw [decided, if_neg (by omega)]
    refine CodeOK.loopW hΓ hm ord34 [] (by kernel_rfl) (α := Nat) (fun i => [(0, des l), (3, i64 i)]) (fun i => []) 0 (fun i => i ≤ l.length ∧ deGo none l = deGo (prev De.z l i) (l.drop i)) (fun i => l.length - i) ?_ ?_
    · refine Again.by 0 ⟨Nat.zero_le _, rfl⟩ ?_
      repeat' first
        | (refine Step.mk ?_; conv => whnf)
        | (refine Vc.om ?_ ?_; first | omega | with_reducible rfl | with_reducible exact same_rfl | (simp only [bytes_2, bytes_3, bytes_4, bytes_5, bytes_9, bytes_12, bytes_21, bytes_22, bytes_25, bytes_27, bytes_28, bytes_30, bytes_32, bytes_33, bytes_36, bytes_37, bytes_38, bytes_39, bytes_41, bytes_42, bytes_43, bytes_44, bytes_45, bytes_46, bytes_52, bytes_56, bytes_58, bytes_60, bytes_67, bytes_68, bytes_69, bytes_70, bytes_71, bytes_72, bytes_73, bytes_74, bytes_75, bytes_76, bytes_77, bytes_81, bytes_84, bytes_85, bytes_87, bytes_95, bytes_96, bytes_111, bytes_115, true_and, and_true] <;> omega))
        | (refine NilB.mk fun b hb => Step.out ?_)
        | with_reducible trivial
        | exact noSh_bool _
        | exact noSh_lit _
        | exact noSh_int _ _
        | exact noSh_str _
        | with_reducible rfl
        | with_reducible exact same_rfl
        | (refine Wr.i64 ?_ ?_; omega)
        | (refine Wr.u8 ?_ ?_; omega)
        | (refine Wr.i32 ?_ ?_; omega)
        | (with_reducible refine Br.tt ?_)
        | (with_reducible refine Br.ff ?_)
        | (refine Br.dT ?_ ?_; omega)
        | (refine Br.dF ?_ ?_; omega)
        | (refine Br.d (fun h => ?_) (fun h => ?_))
        | (refine Br.swap ?_)
        | (refine Br.bnot ?_)
        | (refine Br.mk (fun h => Step.out ?_) (fun h => Step.out ?_))
        | (refine Two.mk (Step.out ?_) (Step.out ?_))
        | (refine Cp.mk fun q hq => Step.out ?_)
        | (refine Ovl.mk (by assumption) (Step.out ?_))
        | (refine CallOK.of_ct (Step.out ?_))
        | (refine CallQ.of_ct (Step.out ?_))
        | (refine Met.by (g := 49) (two_ct _ _) ?_; rintro q outs ⟨rfl, rfl⟩)
        | (refine Met.by (g := 53) (rversion_ct _) ?_; rintro q outs ⟨rfl, rfl⟩)
        | (refine Met.by (g := 54) (before_ct _ _) ?_; rintro q outs ⟨rfl, rfl⟩)
        | (refine Vc.mk ?_ (Step.out ?_))
    · intro i ⟨hi, hv⟩
      repeat' first
        | (refine Step.mk ?_; conv => whnf)
        | (refine Vc.om ?_ ?_; first | omega | with_reducible rfl | with_reducible exact same_rfl | (simp only [bytes_2, bytes_3, bytes_4, bytes_5, bytes_9, bytes_12, bytes_21, bytes_22, bytes_25, bytes_27, bytes_28, bytes_30, bytes_32, bytes_33, bytes_36, bytes_37, bytes_38, bytes_39, bytes_41, bytes_42, bytes_43, bytes_44, bytes_45, bytes_46, bytes_52, bytes_56, bytes_58, bytes_60, bytes_67, bytes_68, bytes_69, bytes_70, bytes_71, bytes_72, bytes_73, bytes_74, bytes_75, bytes_76, bytes_77, bytes_81, bytes_84, bytes_85, bytes_87, bytes_95, bytes_96, bytes_111, bytes_115, true_and, and_true] <;> omega))
        | (refine NilB.mk fun b hb => Step.out ?_)
        | with_reducible trivial
        | exact noSh_bool _
        | exact noSh_lit _
        | exact noSh_int _ _
        | exact noSh_str _
        | with_reducible rfl
        | with_reducible exact same_rfl
        | (refine Wr.i64 ?_ ?_; omega)
        | (refine Wr.u8 ?_ ?_; omega)
        | (refine Wr.i32 ?_ ?_; omega)
        | (with_reducible refine Br.tt ?_)
        | (with_reducible refine Br.ff ?_)
        | (refine Br.dT ?_ ?_; omega)
        | (refine Br.dF ?_ ?_; omega)
        | (refine Met.by (two_ct (l.getD (i : Int).toNat De.z).a (l.getD (i : Int).toNat De.z).b) ?_; rintro q outs ⟨rfl, rfl⟩)
        | (refine Met.by (before_ct (l.getD ((i : Int) - 1).toNat De.z) (l.getD (i : Int).toNat De.z)) ?_; rintro q outs ⟨rfl, rfl⟩)
        | (refine Br.d (fun h => ?_) (fun h => ?_))
        | (refine Br.swap ?_)
        | (refine Br.bnot ?_)
        | (refine Br.mk (fun h => Step.out ?_) (fun h => Step.out ?_))
        | (refine Two.mk (Step.out ?_) (Step.out ?_))
        | (refine Cp.mk fun q hq => Step.out ?_)
        | (refine Ovl.mk (by assumption) (Step.out ?_))
        | (refine CallOK.of_ct (Step.out ?_))
        | (refine CallQ.of_ct (Step.out ?_))
        | (refine Met.by (g := 49) (two_ct _ _) ?_; rintro q outs ⟨rfl, rfl⟩)
        | (refine Met.by (g := 53) (rversion_ct _) ?_; rintro q outs ⟨rfl, rfl⟩)
        | (refine Met.by (g := 54) (before_ct _ _) ?_; rintro q outs ⟨rfl, rfl⟩)
        | (refine Vc.mk ?_ (Step.out ?_))
      all_goals try simp only [Int.toNat_natCast] at *
      all_goals first
        | (rw [hval, hv]; first | exact de41 ‹_› ‹_› _ | exact de42a ‹_› ‹_› ‹_› _ | exact de42b ‹_› ‹_› ‹_› _ | exact de12 ‹_› ‹_› ‹_› ‹_› ‹_› ‹_›)
        | (rw [hval, hv, List.drop_of_length_le (by omega)]; rfl)
        | refine Again.by (i + 1) ⟨⟨by omega, by rw [hv]; exact deN ‹_› ‹_› ‹_› ‹_› (fun hp => by first | exact absurd hp ‹_› | assumption)⟩, by omega⟩ ?_
      all_goals
        repeat' first
          | (refine Step.mk ?_; conv => whnf)
          | (refine Vc.om ?_ ?_; first | omega | with_reducible rfl | with_reducible exact same_rfl | (simp only [bytes_2, bytes_3, bytes_4, bytes_5, bytes_9, bytes_12, bytes_21, bytes_22, bytes_25, bytes_27, bytes_28, bytes_30, bytes_32, bytes_33, bytes_36, bytes_37, bytes_38, bytes_39, bytes_41, bytes_42, bytes_43, bytes_44, bytes_45, bytes_46, bytes_52, bytes_56, bytes_58, bytes_60, bytes_67, bytes_68, bytes_69, bytes_70, bytes_71, bytes_72, bytes_73, bytes_74, bytes_75, bytes_76, bytes_77, bytes_81, bytes_84, bytes_85, bytes_87, bytes_95, bytes_96, bytes_111, bytes_115, true_and, and_true] <;> omega))
          | (refine NilB.mk fun b hb => Step.out ?_)
          | with_reducible trivial
          | exact noSh_bool _
          | exact noSh_lit _
          | exact noSh_int _ _
          | exact noSh_str _
          | with_reducible rfl
          | with_reducible exact same_rfl
          | (refine Wr.i64 ?_ ?_; omega)
          | (refine Wr.u8 ?_ ?_; omega)
          | (refine Wr.i32 ?_ ?_; omega)
          | (with_reducible refine Br.tt ?_)
          | (with_reducible refine Br.ff ?_)
          | (refine Br.dT ?_ ?_; omega)
          | (refine Br.dF ?_ ?_; omega)
          | (refine Br.d (fun h => ?_) (fun h => ?_))
          | (refine Br.swap ?_)
          | (refine Br.bnot ?_)
          | (refine Br.mk (fun h => Step.out ?_) (fun h => Step.out ?_))
          | (refine Two.mk (Step.out ?_) (Step.out ?_))
          | (refine Cp.mk fun q hq => Step.out ?_)
          | (refine Ovl.mk (by assumption) (Step.out ?_))
          | (refine CallOK.of_ct (Step.out ?_))
          | (refine CallQ.of_ct (Step.out ?_))
          | (refine Met.by (g := 49) (two_ct _ _) ?_; rintro q outs ⟨rfl, rfl⟩)
          | (refine Met.by (g := 53) (rversion_ct _) ?_; rintro q outs ⟨rfl, rfl⟩)
          | (refine Met.by (g := 54) (before_ct _ _) ?_; rintro q outs ⟨rfl, rfl⟩)
          | (refine Vc.mk ?_ (Step.out ?_))
def fault (t : Th) (l : List Cd) (s : List De) : Int := if chkT t ≠ 0 then chkT t else if cands l ≠ 0 then cands l else decided s
theorem gcheck_ct (t : Th) (l : List Cd) (s : List De) : Ct Try.prog 40 [t.d, cds l, des s] fun q outs => q = i64 (fault t l s) ∧ outs = [] := by
  refine .det (.of_W (fn := Try.f40) hΓ hm Try.func40 [] [] (by kernel_rfl) (Step.out ?_))
  repeat' first
    | (refine Step.mk ?_; conv => whnf)
    | (refine Vc.om ?_ ?_; first | omega | with_reducible rfl | with_reducible exact same_rfl | (simp only [bytes_2, bytes_3, bytes_4, bytes_5, bytes_9, bytes_12, bytes_21, bytes_22, bytes_25, bytes_27, bytes_28, bytes_30, bytes_32, bytes_33, bytes_36, bytes_37, bytes_38, bytes_39, bytes_41, bytes_42, bytes_43, bytes_44, bytes_45, bytes_46, bytes_52, bytes_56, bytes_58, bytes_60, bytes_67, bytes_68, bytes_69, bytes_70, bytes_71, bytes_72, bytes_73, bytes_74, bytes_75, bytes_76, bytes_77, bytes_81, bytes_84, bytes_85, bytes_87, bytes_95, bytes_96, bytes_111, bytes_115, true_and, and_true] <;> omega))
    | (refine NilB.mk fun b hb => Step.out ?_)
    | with_reducible trivial
    | exact noSh_bool _
    | exact noSh_lit _
    | exact noSh_int _ _
    | exact noSh_str _
    | with_reducible rfl
    | with_reducible exact same_rfl
    | (refine Wr.i64 ?_ ?_; omega)
    | (refine Wr.u8 ?_ ?_; omega)
    | (refine Wr.i32 ?_ ?_; omega)
    | (with_reducible refine Br.tt ?_)
    | (with_reducible refine Br.ff ?_)
    | (refine Br.dT ?_ ?_; omega)
    | (refine Br.dF ?_ ?_; omega)
    | (refine Br.d (fun h => ?_) (fun h => ?_))
    | (refine Br.swap ?_)
    | (refine Br.bnot ?_)
    | (refine Br.mk (fun h => Step.out ?_) (fun h => Step.out ?_))
    | (refine Two.mk (Step.out ?_) (Step.out ?_))
    | (refine Cp.mk fun q hq => Step.out ?_)
    | (refine Ovl.mk (by assumption) (Step.out ?_))
    | (refine CallOK.of_ct (Step.out ?_))
    | (refine CallQ.of_ct (Step.out ?_))
    | (refine Met.by (g := 24) (check_ct _) ?_; rintro q outs ⟨rfl, rfl⟩)
    | (refine Met.by (g := 31) (cands_ct _) ?_; rintro q outs ⟨rfl, rfl⟩)
    | (refine Met.by (g := 33) (decided_ct _) ?_; rintro q outs ⟨rfl, rfl⟩)
    | (refine Vc.mk ?_ (Step.out ?_))
  all_goals simp_all [fault]
theorem rfault_ct (t : Th) (l : List Cd) (s : List De) : Ct Try.prog 45 [t.d, cds l, des s] fun q outs => q = i64 (fault t l s) ∧ outs = [] := by
  refine .det (.of_W (fn := Try.f45) hΓ hm Try.func45 [] [] (by kernel_rfl) (Step.out ?_))
  repeat' first
    | (refine Step.mk ?_; conv => whnf)
    | (refine Vc.om ?_ ?_; first | omega | with_reducible rfl | with_reducible exact same_rfl | (simp only [bytes_2, bytes_3, bytes_4, bytes_5, bytes_9, bytes_12, bytes_21, bytes_22, bytes_25, bytes_27, bytes_28, bytes_30, bytes_32, bytes_33, bytes_36, bytes_37, bytes_38, bytes_39, bytes_41, bytes_42, bytes_43, bytes_44, bytes_45, bytes_46, bytes_52, bytes_56, bytes_58, bytes_60, bytes_67, bytes_68, bytes_69, bytes_70, bytes_71, bytes_72, bytes_73, bytes_74, bytes_75, bytes_76, bytes_77, bytes_81, bytes_84, bytes_85, bytes_87, bytes_95, bytes_96, bytes_111, bytes_115, true_and, and_true] <;> omega))
    | (refine NilB.mk fun b hb => Step.out ?_)
    | with_reducible trivial
    | exact noSh_bool _
    | exact noSh_lit _
    | exact noSh_int _ _
    | exact noSh_str _
    | with_reducible rfl
    | with_reducible exact same_rfl
    | (refine Wr.i64 ?_ ?_; omega)
    | (refine Wr.u8 ?_ ?_; omega)
    | (refine Wr.i32 ?_ ?_; omega)
    | (with_reducible refine Br.tt ?_)
    | (with_reducible refine Br.ff ?_)
    | (refine Br.dT ?_ ?_; omega)
    | (refine Br.dF ?_ ?_; omega)
    | (refine Br.d (fun h => ?_) (fun h => ?_))
    | (refine Br.swap ?_)
    | (refine Br.bnot ?_)
    | (refine Br.mk (fun h => Step.out ?_) (fun h => Step.out ?_))
    | (refine Two.mk (Step.out ?_) (Step.out ?_))
    | (refine Cp.mk fun q hq => Step.out ?_)
    | (refine Ovl.mk (by assumption) (Step.out ?_))
    | (refine CallOK.of_ct (Step.out ?_))
    | (refine CallQ.of_ct (Step.out ?_))
    | (refine Met.by (g := 25) (rcheck_ct _) ?_; rintro q outs ⟨rfl, rfl⟩)
    | (refine Met.by (g := 32) (rcands_ct _) ?_; rintro q outs ⟨rfl, rfl⟩)
    | (refine Met.by (g := 34) (rdecided_ct _) ?_; rintro q outs ⟨rfl, rfl⟩)
    | (refine Vc.mk ?_ (Step.out ?_))
  all_goals simp_all [fault]
end Kx
