/-
  The reference's bonds and what is open; lists compared.
  No condition beyond those written in each theorem.
-/
import Derived.Test.YtbljbblijepbbaaKGc
open Go Sx Go.Proofs
set_option linter.unusedSimpArgs false
set_option linter.unusedVariables false
namespace Kx
theorem tell_step (l : List De) (k : List Int) (i : Nat) (h : i < l.length) : tell (l.drop i) k = if deK (l.getD i De.z) = k then some (l.getD i De.z).s else tell (l.drop (i + 1)) k := by
  rw [drop_step l De.z i h]; rfl
/-- Where the first decision of a couple stands. -/
def isDec (s : List De) (k : List Int) (x : Int) : Prop := (x = -1 ∧ tell s k = none) ∨ (0 ≤ x ∧ x < s.length ∧ tell s k = some (s.getD x.toNat De.z).s)
theorem deK_eq (d : De) (a b : Rf) : deK d = [a.g, a.i, b.g, b.i] ↔ (d.a.g = a.g ∧ d.a.i = a.i) ∧ (d.b.g = b.g ∧ d.b.i = b.i) := by
  simp [deK, and_assoc]
theorem decision_ct (s : List De) (a b : Rf) (hs : s.length ≤ 4096) : Ct Try.prog 46 [des s, a.d, b.d] fun q outs => ∃ x, isDec s [a.g, a.i, b.g, b.i] x ∧ q = i64 x ∧ outs = [] := by
  refine .some (.of_W (fn := Try.f46) hΓ hm Try.func46 ord46 [] (by kernel_rfl) (Step.out ?_))
  repeat' first
    | (refine Step.mk ?_; conv => whnf)
    | (refine Vc.om ?_ ?_; first | omega | with_reducible rfl | with_reducible exact same_rfl | (simp only [bytes_2, bytes_3, bytes_4, bytes_5, bytes_9, bytes_12, bytes_21, bytes_22, bytes_25, bytes_27, bytes_28, bytes_30, bytes_32, bytes_33, bytes_36, bytes_37, bytes_38, bytes_39, bytes_41, bytes_42, bytes_43, bytes_44, bytes_45, bytes_46, bytes_52, bytes_56, bytes_58, bytes_60, bytes_67, bytes_68, bytes_69, bytes_70, bytes_71, bytes_72, bytes_73, bytes_74, bytes_75, bytes_76, bytes_77, bytes_81, bytes_84, bytes_85, bytes_87, bytes_95, bytes_96, bytes_111, bytes_115, true_and, and_true] <;> omega))
    | (refine NilB.mk fun b hb => Step.out ?_)
    | with_reducible trivial
    | exact noSh_bool _
    | exact noSh_lit _
    | exact noSh_int _ _
    | exact noSh_str _
    | with_reducible rfl
    | with_reducible exact same_rfl
    | (refine Wr.i64 ?_ ?_; omega)
    | (refine Wr.u8 ?_ ?_; omega)
    | (refine Wr.i32 ?_ ?_; omega)
    | (with_reducible refine Br.tt ?_)
    | (with_reducible refine Br.ff ?_)
    | (refine Br.dT ?_ ?_; omega)
    | (refine Br.dF ?_ ?_; omega)
    | (refine Br.d (fun h => ?_) (fun h => ?_))
    | (refine Br.swap ?_)
    | (refine Br.bnot ?_)
    | (refine Br.mk (fun h => Step.out ?_) (fun h => Step.out ?_))
    | (refine Two.mk (Step.out ?_) (Step.out ?_))
    | (refine Cp.mk fun q hq => Step.out ?_)
    | (refine Ovl.mk (by assumption) (Step.out ?_))
    | (refine CallOK.of_ct (Step.out ?_))
    | (refine CallQ.of_ct (Step.out ?_))
    | (refine Vc.mk ?_ (Step.out ?_))
  refine CodeOK.loopW hΓ hm ord46 [] (by kernel_rfl) (α := Nat) (fun i => [(0, des s), (4, .loc 0 0), (5, .loc 1 0), (7, i64 i)]) (fun i => [(0, .var [i64 a.g, i64 a.i]), (1, .var [i64 b.g, i64 b.i])]) 2 (fun i => i ≤ s.length ∧ tell s [a.g, a.i, b.g, b.i] = tell (s.drop i) [a.g, a.i, b.g, b.i]) (fun i => s.length - i) ?_ ?_
  · refine Again.by 0 ⟨Nat.zero_le _, rfl⟩ ?_
    repeat' first
      | (refine Step.mk ?_; conv => whnf)
      | (refine Vc.om ?_ ?_; first | omega | with_reducible rfl | with_reducible exact same_rfl | (simp only [bytes_2, bytes_3, bytes_4, bytes_5, bytes_9, bytes_12, bytes_21, bytes_22, bytes_25, bytes_27, bytes_28, bytes_30, bytes_32, bytes_33, bytes_36, bytes_37, bytes_38, bytes_39, bytes_41, bytes_42, bytes_43, bytes_44, bytes_45, bytes_46, bytes_52, bytes_56, bytes_58, bytes_60, bytes_67, bytes_68, bytes_69, bytes_70, bytes_71, bytes_72, bytes_73, bytes_74, bytes_75, bytes_76, bytes_77, bytes_81, bytes_84, bytes_85, bytes_87, bytes_95, bytes_96, bytes_111, bytes_115, true_and, and_true] <;> omega))
      | (refine NilB.mk fun b hb => Step.out ?_)
      | with_reducible trivial
      | exact noSh_bool _
      | exact noSh_lit _
      | exact noSh_int _ _
      | exact noSh_str _
      | with_reducible rfl
      | with_reducible exact same_rfl
      | (refine Wr.i64 ?_ ?_; omega)
      | (refine Wr.u8 ?_ ?_; omega)
      | (refine Wr.i32 ?_ ?_; omega)
      | (with_reducible refine Br.tt ?_)
      | (with_reducible refine Br.ff ?_)
      | (refine Br.dT ?_ ?_; omega)
      | (refine Br.dF ?_ ?_; omega)
      | (refine Br.d (fun h => ?_) (fun h => ?_))
      | (refine Br.swap ?_)
      | (refine Br.bnot ?_)
      | (refine Br.mk (fun h => Step.out ?_) (fun h => Step.out ?_))
      | (refine Two.mk (Step.out ?_) (Step.out ?_))
      | (refine Cp.mk fun q hq => Step.out ?_)
      | (refine Ovl.mk (by assumption) (Step.out ?_))
      | (refine CallOK.of_ct (Step.out ?_))
      | (refine CallQ.of_ct (Step.out ?_))
      | (refine Vc.mk ?_ (Step.out ?_))
  · intro i ⟨h1, h2⟩
    repeat' first
      | (refine Step.mk ?_; conv => whnf)
      | (refine Vc.om ?_ ?_; first | omega | with_reducible rfl | with_reducible exact same_rfl | (simp only [bytes_2, bytes_3, bytes_4, bytes_5, bytes_9, bytes_12, bytes_21, bytes_22, bytes_25, bytes_27, bytes_28, bytes_30, bytes_32, bytes_33, bytes_36, bytes_37, bytes_38, bytes_39, bytes_41, bytes_42, bytes_43, bytes_44, bytes_45, bytes_46, bytes_52, bytes_56, bytes_58, bytes_60, bytes_67, bytes_68, bytes_69, bytes_70, bytes_71, bytes_72, bytes_73, bytes_74, bytes_75, bytes_76, bytes_77, bytes_81, bytes_84, bytes_85, bytes_87, bytes_95, bytes_96, bytes_111, bytes_115, true_and, and_true] <;> omega))
      | (refine NilB.mk fun b hb => Step.out ?_)
      | with_reducible trivial
      | exact noSh_bool _
      | exact noSh_lit _
      | exact noSh_int _ _
      | exact noSh_str _
      | with_reducible rfl
      | with_reducible exact same_rfl
      | (refine Wr.i64 ?_ ?_; omega)
      | (refine Wr.u8 ?_ ?_; omega)
      | (refine Wr.i32 ?_ ?_; omega)
      | (with_reducible refine Br.tt ?_)
      | (with_reducible refine Br.ff ?_)
      | (refine Br.dT ?_ ?_; omega)
      | (refine Br.dF ?_ ?_; omega)
      | (refine Br.d (fun h => ?_) (fun h => ?_))
      | (refine Br.swap ?_)
      | (refine Br.bnot ?_)
      | (refine Br.mk (fun h => Step.out ?_) (fun h => Step.out ?_))
      | (refine Two.mk (Step.out ?_) (Step.out ?_))
      | (refine Cp.mk fun q hq => Step.out ?_)
      | (refine Ovl.mk (by assumption) (Step.out ?_))
      | (refine CallOK.of_ct (Step.out ?_))
      | (refine CallQ.of_ct (Step.out ?_))
      | (refine Vc.mk ?_ (Step.out ?_))
    all_goals try simp only [Int.toNat_natCast] at *
    · refine Lf.by (i : Int) (.inr ⟨by omega, by omega, ?_⟩) ?_
      · rw [h2, tell_step s _ i (by omega), if_pos ((deK_eq _ _ _).2 ⟨‹_›, ‹_›⟩), Int.toNat_natCast]
      · repeat' first
          | (refine Step.mk ?_; conv => whnf)
          | (refine Vc.om ?_ ?_; first | omega | with_reducible rfl | with_reducible exact same_rfl | (simp only [bytes_2, bytes_3, bytes_4, bytes_5, bytes_9, bytes_12, bytes_21, bytes_22, bytes_25, bytes_27, bytes_28, bytes_30, bytes_32, bytes_33, bytes_36, bytes_37, bytes_38, bytes_39, bytes_41, bytes_42, bytes_43, bytes_44, bytes_45, bytes_46, bytes_52, bytes_56, bytes_58, bytes_60, bytes_67, bytes_68, bytes_69, bytes_70, bytes_71, bytes_72, bytes_73, bytes_74, bytes_75, bytes_76, bytes_77, bytes_81, bytes_84, bytes_85, bytes_87, bytes_95, bytes_96, bytes_111, bytes_115, true_and, and_true] <;> omega))
          | (refine NilB.mk fun b hb => Step.out ?_)
          | with_reducible trivial
          | exact noSh_bool _
          | exact noSh_lit _
          | exact noSh_int _ _
          | exact noSh_str _
          | with_reducible rfl
          | with_reducible exact same_rfl
          | (refine Wr.i64 ?_ ?_; omega)
          | (refine Wr.u8 ?_ ?_; omega)
          | (refine Wr.i32 ?_ ?_; omega)
          | (with_reducible refine Br.tt ?_)
          | (with_reducible refine Br.ff ?_)
          | (refine Br.dT ?_ ?_; omega)
          | (refine Br.dF ?_ ?_; omega)
          | (refine Br.d (fun h => ?_) (fun h => ?_))
          | (refine Br.swap ?_)
          | (refine Br.bnot ?_)
          | (refine Br.mk (fun h => Step.out ?_) (fun h => Step.out ?_))
          | (refine Two.mk (Step.out ?_) (Step.out ?_))
          | (refine Cp.mk fun q hq => Step.out ?_)
          | (refine Ovl.mk (by assumption) (Step.out ?_))
          | (refine CallOK.of_ct (Step.out ?_))
          | (refine CallQ.of_ct (Step.out ?_))
          | (refine Vc.mk ?_ (Step.out ?_))
    · refine Again.by (i + 1) ⟨⟨by omega, ?_⟩, by omega⟩ ?_
      · rw [h2, tell_step s _ i (by omega), if_neg (fun e => ?_)]
        have := (deK_eq _ _ _).1 e
        simp_all
      · repeat' first
          | (refine Step.mk ?_; conv => whnf)
          | (refine Vc.om ?_ ?_; first | omega | with_reducible rfl | with_reducible exact same_rfl | (simp only [bytes_2, bytes_3, bytes_4, bytes_5, bytes_9, bytes_12, bytes_21, bytes_22, bytes_25, bytes_27, bytes_28, bytes_30, bytes_32, bytes_33, bytes_36, bytes_37, bytes_38, bytes_39, bytes_41, bytes_42, bytes_43, bytes_44, bytes_45, bytes_46, bytes_52, bytes_56, bytes_58, bytes_60, bytes_67, bytes_68, bytes_69, bytes_70, bytes_71, bytes_72, bytes_73, bytes_74, bytes_75, bytes_76, bytes_77, bytes_81, bytes_84, bytes_85, bytes_87, bytes_95, bytes_96, bytes_111, bytes_115, true_and, and_true] <;> omega))
          | (refine NilB.mk fun b hb => Step.out ?_)
          | with_reducible trivial
          | exact noSh_bool _
          | exact noSh_lit _
          | exact noSh_int _ _
          | exact noSh_str _
          | with_reducible rfl
          | with_reducible exact same_rfl
          | (refine Wr.i64 ?_ ?_; omega)
          | (refine Wr.u8 ?_ ?_; omega)
          | (refine Wr.i32 ?_ ?_; omega)
          | (with_reducible refine Br.tt ?_)
          | (with_reducible refine Br.ff ?_)
          | (refine Br.dT ?_ ?_; omega)
          | (refine Br.dF ?_ ?_; omega)
          | (refine Br.d (fun h => ?_) (fun h => ?_))
          | (refine Br.swap ?_)
          | (refine Br.bnot ?_)
          | (refine Br.mk (fun h => Step.out ?_) (fun h => Step.out ?_))
          | (refine Two.mk (Step.out ?_) (Step.out ?_))
          | (refine Cp.mk fun q hq => Step.out ?_)
          | (refine Ovl.mk (by assumption) (Step.out ?_))
          | (refine CallOK.of_ct (Step.out ?_))
          | (refine CallQ.of_ct (Step.out ?_))
          | (refine Vc.mk ?_ (Step.out ?_))
    · refine Again.by (i + 1) ⟨⟨by omega, ?_⟩, by omega⟩ ?_
      · rw [h2, tell_step s _ i (by omega), if_neg (fun e => ?_)]
        have := (deK_eq _ _ _).1 e
        simp_all
      · repeat' first
          | (refine Step.mk ?_; conv => whnf)
          | (refine Vc.om ?_ ?_; first | omega | with_reducible rfl | with_reducible exact same_rfl | (simp only [bytes_2, bytes_3, bytes_4, bytes_5, bytes_9, bytes_12, bytes_21, bytes_22, bytes_25, bytes_27, bytes_28, bytes_30, bytes_32, bytes_33, bytes_36, bytes_37, bytes_38, bytes_39, bytes_41, bytes_42, bytes_43, bytes_44, bytes_45, bytes_46, bytes_52, bytes_56, bytes_58, bytes_60, bytes_67, bytes_68, bytes_69, bytes_70, bytes_71, bytes_72, bytes_73, bytes_74, bytes_75, bytes_76, bytes_77, bytes_81, bytes_84, bytes_85, bytes_87, bytes_95, bytes_96, bytes_111, bytes_115, true_and, and_true] <;> omega))
          | (refine NilB.mk fun b hb => Step.out ?_)
          | with_reducible trivial
          | exact noSh_bool _
          | exact noSh_lit _
          | exact noSh_int _ _
          | exact noSh_str _
          | with_reducible rfl
          | with_reducible exact same_rfl
          | (refine Wr.i64 ?_ ?_; omega)
          | (refine Wr.u8 ?_ ?_; omega)
          | (refine Wr.i32 ?_ ?_; omega)
          | (with_reducible refine Br.tt ?_)
          | (with_reducible refine Br.ff ?_)
          | (refine Br.dT ?_ ?_; omega)
          | (refine Br.dF ?_ ?_; omega)
          | (refine Br.d (fun h => ?_) (fun h => ?_))
          | (refine Br.swap ?_)
          | (refine Br.bnot ?_)
          | (refine Br.mk (fun h => Step.out ?_) (fun h => Step.out ?_))
          | (refine Two.mk (Step.out ?_) (Step.out ?_))
          | (refine Cp.mk fun q hq => Step.out ?_)
          | (refine Ovl.mk (by assumption) (Step.out ?_))
          | (refine CallOK.of_ct (Step.out ?_))
          | (refine CallQ.of_ct (Step.out ?_))
          | (refine Vc.mk ?_ (Step.out ?_))
    · refine Lf.by (-1) (.inl ⟨rfl, ?_⟩) ?_
      · rw [h2, List.drop_of_length_le (by omega)]; rfl
      · repeat' first
          | (refine Step.mk ?_; conv => whnf)
          | (refine Vc.om ?_ ?_; first | omega | with_reducible rfl | with_reducible exact same_rfl | (simp only [bytes_2, bytes_3, bytes_4, bytes_5, bytes_9, bytes_12, bytes_21, bytes_22, bytes_25, bytes_27, bytes_28, bytes_30, bytes_32, bytes_33, bytes_36, bytes_37, bytes_38, bytes_39, bytes_41, bytes_42, bytes_43, bytes_44, bytes_45, bytes_46, bytes_52, bytes_56, bytes_58, bytes_60, bytes_67, bytes_68, bytes_69, bytes_70, bytes_71, bytes_72, bytes_73, bytes_74, bytes_75, bytes_76, bytes_77, bytes_81, bytes_84, bytes_85, bytes_87, bytes_95, bytes_96, bytes_111, bytes_115, true_and, and_true] <;> omega))
          | (refine NilB.mk fun b hb => Step.out ?_)
          | with_reducible trivial
          | exact noSh_bool _
          | exact noSh_lit _
          | exact noSh_int _ _
          | exact noSh_str _
          | with_reducible rfl
          | with_reducible exact same_rfl
          | (refine Wr.i64 ?_ ?_; omega)
          | (refine Wr.u8 ?_ ?_; omega)
          | (refine Wr.i32 ?_ ?_; omega)
          | (with_reducible refine Br.tt ?_)
          | (with_reducible refine Br.ff ?_)
          | (refine Br.dT ?_ ?_; omega)
          | (refine Br.dF ?_ ?_; omega)
          | (refine Br.d (fun h => ?_) (fun h => ?_))
          | (refine Br.swap ?_)
          | (refine Br.bnot ?_)
          | (refine Br.mk (fun h => Step.out ?_) (fun h => Step.out ?_))
          | (refine Two.mk (Step.out ?_) (Step.out ?_))
          | (refine Cp.mk fun q hq => Step.out ?_)
          | (refine Ovl.mk (by assumption) (Step.out ?_))
          | (refine CallOK.of_ct (Step.out ?_))
          | (refine CallQ.of_ct (Step.out ?_))
          | (refine Vc.mk ?_ (Step.out ?_))
theorem cls_tri (t : Th) (w : Int) : cls t w = 0 ∨ cls t w = 1 ∨ cls t w = 2 := by unfold cls; (repeat' split) <;> simp
theorem cnt_yes {t : Th} {s : List De} {c : Cd} {x : Int} (hx : isDec s (cdK c) x) (h0 : 0 ≤ x) : counts t s c = ((s.getD x.toNat De.z).s && !decide (cls t c.w = 0)) := by
  rcases hx with ⟨rfl, _⟩ | ⟨_, _, h⟩
  · omega
  · rw [counts, h]
    rcases cls_tri t c.w with h | h | h <;> rw [h] <;> cases (s.getD x.toNat De.z).s <;> rfl
theorem cnt_no {t : Th} {s : List De} {c : Cd} {x : Int} (hx : isDec s (cdK c) x) (h0 : ¬0 ≤ x) : counts t s c = decide (cls t c.w = 2) := by
  rcases hx with ⟨rfl, h⟩ | ⟨h1, _, h⟩
  · rw [counts, h]
    rcases cls_tri t c.w with h | h | h <;> rw [h] <;> rfl
  · omega
theorem open_yes {t : Th} {s : List De} {c : Cd} {x : Int} (hx : isDec s (cdK c) x) (h0 : ¬x < 0) : isOpen t s c = false := by
  rcases hx with ⟨rfl, _⟩ | ⟨_, _, h⟩
  · omega
  · rw [isOpen, h]; rfl
theorem open_no' {t : Th} {s : List De} {c : Cd} {x : Int} (hx : isDec s (cdK c) x) (h0 : x < 0) : isOpen t s c = decide (cls t c.w = 1) := by
  rcases hx with ⟨rfl, h⟩ | ⟨h1, _, h⟩
  · rw [isOpen, h]; rfl
  · omega
theorem rbonds_no (t : Th) (l : List Cd) (s : List De) (hf : fault t l s ≠ 0) : Ct Try.prog 28 [t.d, cds l, des s] fun q outs => q = .tup [bds [], i64 (fault t l s)] ∧ outs = [] := by
  refine .det (.of_W (fn := Try.f28) hΓ hm Try.func28 ord28 [] (by kernel_rfl) (Step.out ?_))
  repeat' first
    | (refine Step.mk ?_; conv => whnf)
    | (refine Vc.om ?_ ?_; first | omega | with_reducible rfl | with_reducible exact same_rfl | (simp only [bytes_2, bytes_3, bytes_4, bytes_5, bytes_9, bytes_12, bytes_21, bytes_22, bytes_25, bytes_27, bytes_28, bytes_30, bytes_32, bytes_33, bytes_36, bytes_37, bytes_38, bytes_39, bytes_41, bytes_42, bytes_43, bytes_44, bytes_45, bytes_46, bytes_52, bytes_56, bytes_58, bytes_60, bytes_67, bytes_68, bytes_69, bytes_70, bytes_71, bytes_72, bytes_73, bytes_74, bytes_75, bytes_76, bytes_77, bytes_81, bytes_84, bytes_85, bytes_87, bytes_95, bytes_96, bytes_111, bytes_115, true_and, and_true] <;> omega))
    | (refine NilB.mk fun b hb => Step.out ?_)
    | with_reducible trivial
    | exact noSh_bool _
    | exact noSh_lit _
    | exact noSh_int _ _
    | exact noSh_str _
    | with_reducible rfl
    | with_reducible exact same_rfl
    | (refine Wr.i64 ?_ ?_; omega)
    | (refine Wr.u8 ?_ ?_; omega)
    | (refine Wr.i32 ?_ ?_; omega)
    | (with_reducible refine Br.tt ?_)
    | (with_reducible refine Br.ff ?_)
    | (refine Br.dT ?_ ?_; omega)
    | (refine Br.dF ?_ ?_; omega)
    | (refine Br.d (fun h => ?_) (fun h => ?_))
    | (refine Br.swap ?_)
    | (refine Br.bnot ?_)
    | (refine Br.mk (fun h => Step.out ?_) (fun h => Step.out ?_))
    | (refine Two.mk (Step.out ?_) (Step.out ?_))
    | (refine Cp.mk fun q hq => Step.out ?_)
    | (refine Ovl.mk (by assumption) (Step.out ?_))
    | (refine CallOK.of_ct (Step.out ?_))
    | (refine CallQ.of_ct (Step.out ?_))
    | (refine Met.by (g := 26) (rclass_ct _ _) ?_; rintro q outs ⟨rfl, rfl⟩)
    | (refine Met.by (g := 45) (rfault_ct _ _ _) ?_; rintro q outs ⟨rfl, rfl⟩)
    | (refine Met.by (g := 46) (decision_ct _ _ _ (by assumption)) ?_; rintro q outs ⟨x, hx, rfl, rfl⟩)
    | (refine Vc.mk ?_ (Step.out ?_))
theorem rbonds_ok (t : Th) (l : List Cd) (s : List De) (hf : fault t l s = 0) : Ct Try.prog 28 [t.d, cds l, des s] fun q outs => q = .tup [bds (bnd t s l), i64 0] ∧ outs = [] := by
  obtain ⟨hl, hs, _⟩ := fault_le hf
  refine .det (.of_W (fn := Try.f28) hΓ hm Try.func28 ord28 [] (by kernel_rfl) (Step.out ?_))
  repeat' first
    | (refine Step.mk ?_; conv => whnf)
    | (refine Vc.om ?_ ?_; first | omega | with_reducible rfl | with_reducible exact same_rfl | (simp only [bytes_2, bytes_3, bytes_4, bytes_5, bytes_9, bytes_12, bytes_21, bytes_22, bytes_25, bytes_27, bytes_28, bytes_30, bytes_32, bytes_33, bytes_36, bytes_37, bytes_38, bytes_39, bytes_41, bytes_42, bytes_43, bytes_44, bytes_45, bytes_46, bytes_52, bytes_56, bytes_58, bytes_60, bytes_67, bytes_68, bytes_69, bytes_70, bytes_71, bytes_72, bytes_73, bytes_74, bytes_75, bytes_76, bytes_77, bytes_81, bytes_84, bytes_85, bytes_87, bytes_95, bytes_96, bytes_111, bytes_115, true_and, and_true] <;> omega))
    | (refine NilB.mk fun b hb => Step.out ?_)
    | with_reducible trivial
    | exact noSh_bool _
    | exact noSh_lit _
    | exact noSh_int _ _
    | exact noSh_str _
    | with_reducible rfl
    | with_reducible exact same_rfl
    | (refine Wr.i64 ?_ ?_; omega)
    | (refine Wr.u8 ?_ ?_; omega)
    | (refine Wr.i32 ?_ ?_; omega)
    | (with_reducible refine Br.tt ?_)
    | (with_reducible refine Br.ff ?_)
    | (refine Br.dT ?_ ?_; omega)
    | (refine Br.dF ?_ ?_; omega)
    | (refine Br.d (fun h => ?_) (fun h => ?_))
    | (refine Br.swap ?_)
    | (refine Br.bnot ?_)
    | (refine Br.mk (fun h => Step.out ?_) (fun h => Step.out ?_))
    | (refine Two.mk (Step.out ?_) (Step.out ?_))
    | (refine Cp.mk fun q hq => Step.out ?_)
    | (refine Ovl.mk (by assumption) (Step.out ?_))
    | (refine CallOK.of_ct (Step.out ?_))
    | (refine CallQ.of_ct (Step.out ?_))
    | (refine Met.by (g := 26) (rclass_ct _ _) ?_; rintro q outs ⟨rfl, rfl⟩)
    | (refine Met.by (g := 45) (rfault_ct _ _ _) ?_; rintro q outs ⟨rfl, rfl⟩)
    | (refine Met.by (g := 46) (decision_ct _ _ _ (by assumption)) ?_; rintro q outs ⟨x, hx, rfl, rfl⟩)
    | (refine Vc.mk ?_ (Step.out ?_))
  refine CodeOK.loopW hΓ hm ord28 [] (by kernel_rfl) (α := Nat × List Bd) (fun z => [(1, cds l), (2, des s), (3, .loc 0 0), (9, .own 1), (10, i64 z.1)]) (fun z => [(0, .var [i64 t.lo, i64 t.hi]), (1, .arr 46 5 z.2.length fun j => Bd.f (z.2.getD j Bd.z))]) 2 (fun z => z.1 ≤ l.length ∧ z.2 ++ bnd t s (l.drop z.1) = bnd t s l ∧ z.2.length ≤ z.1) (fun z => l.length - z.1) ?_ ?_
  · refine Again.by (0, []) ⟨Nat.zero_le _, rfl, Nat.le_refl _⟩ ?_
    repeat' first
      | (refine Step.mk ?_; conv => whnf)
      | (refine Vc.om ?_ ?_; first | omega | with_reducible rfl | with_reducible exact same_rfl | (simp only [bytes_2, bytes_3, bytes_4, bytes_5, bytes_9, bytes_12, bytes_21, bytes_22, bytes_25, bytes_27, bytes_28, bytes_30, bytes_32, bytes_33, bytes_36, bytes_37, bytes_38, bytes_39, bytes_41, bytes_42, bytes_43, bytes_44, bytes_45, bytes_46, bytes_52, bytes_56, bytes_58, bytes_60, bytes_67, bytes_68, bytes_69, bytes_70, bytes_71, bytes_72, bytes_73, bytes_74, bytes_75, bytes_76, bytes_77, bytes_81, bytes_84, bytes_85, bytes_87, bytes_95, bytes_96, bytes_111, bytes_115, true_and, and_true] <;> omega))
      | (refine NilB.mk fun b hb => Step.out ?_)
      | with_reducible trivial
      | exact noSh_bool _
      | exact noSh_lit _
      | exact noSh_int _ _
      | exact noSh_str _
      | with_reducible rfl
      | with_reducible exact same_rfl
      | (refine Wr.i64 ?_ ?_; omega)
      | (refine Wr.u8 ?_ ?_; omega)
      | (refine Wr.i32 ?_ ?_; omega)
      | (with_reducible refine Br.tt ?_)
      | (with_reducible refine Br.ff ?_)
      | (refine Br.dT ?_ ?_; omega)
      | (refine Br.dF ?_ ?_; omega)
      | (refine Br.d (fun h => ?_) (fun h => ?_))
      | (refine Br.swap ?_)
      | (refine Br.bnot ?_)
      | (refine Br.mk (fun h => Step.out ?_) (fun h => Step.out ?_))
      | (refine Two.mk (Step.out ?_) (Step.out ?_))
      | (refine Cp.mk fun q hq => Step.out ?_)
      | (refine Ovl.mk (by assumption) (Step.out ?_))
      | (refine CallOK.of_ct (Step.out ?_))
      | (refine CallQ.of_ct (Step.out ?_))
      | (refine Met.by (g := 26) (rclass_ct _ _) ?_; rintro q outs ⟨rfl, rfl⟩)
      | (refine Met.by (g := 45) (rfault_ct _ _ _) ?_; rintro q outs ⟨rfl, rfl⟩)
      | (refine Met.by (g := 46) (decision_ct _ _ _ (by assumption)) ?_; rintro q outs ⟨x, hx, rfl, rfl⟩)
      | (refine Vc.mk ?_ (Step.out ?_))
    all_goals rfl
  · intro ⟨i, e⟩ ⟨h1, h2, h3⟩
    dsimp only at h1 h2 h3 ⊢
    repeat' first
      | (refine Step.mk ?_; conv => whnf)
      | (refine Vc.om ?_ ?_; first | omega | with_reducible rfl | with_reducible exact same_rfl | (simp only [bytes_2, bytes_3, bytes_4, bytes_5, bytes_9, bytes_12, bytes_21, bytes_22, bytes_25, bytes_27, bytes_28, bytes_30, bytes_32, bytes_33, bytes_36, bytes_37, bytes_38, bytes_39, bytes_41, bytes_42, bytes_43, bytes_44, bytes_45, bytes_46, bytes_52, bytes_56, bytes_58, bytes_60, bytes_67, bytes_68, bytes_69, bytes_70, bytes_71, bytes_72, bytes_73, bytes_74, bytes_75, bytes_76, bytes_77, bytes_81, bytes_84, bytes_85, bytes_87, bytes_95, bytes_96, bytes_111, bytes_115, true_and, and_true] <;> omega))
      | (refine NilB.mk fun b hb => Step.out ?_)
      | with_reducible trivial
      | exact noSh_bool _
      | exact noSh_lit _
      | exact noSh_int _ _
      | exact noSh_str _
      | with_reducible rfl
      | with_reducible exact same_rfl
      | (refine Wr.i64 ?_ ?_; omega)
      | (refine Wr.u8 ?_ ?_; omega)
      | (refine Wr.i32 ?_ ?_; omega)
      | (with_reducible refine Br.tt ?_)
      | (with_reducible refine Br.ff ?_)
      | (refine Br.dT ?_ ?_; omega)
      | (refine Br.dF ?_ ?_; omega)
      | (refine Met.by (decision_ct s (l.getD (i : Int).toNat Cd.z).a (l.getD (i : Int).toNat Cd.z).b (by omega)) ?_; rintro q outs ⟨x, hx, rfl, rfl⟩)
      | (refine Vc.om ?_ ?_; focus ((rcases hx with ⟨hx, _⟩ | ⟨_, hx, _⟩ <;> omega); done))
      | (refine Wr.i64 ?_ ?_; focus ((rcases hx with ⟨hx, _⟩ | ⟨_, hx, _⟩ <;> omega); done))
      | (refine Wr.u8 ?_ ?_; focus ((rcases hx with ⟨hx, _⟩ | ⟨_, hx, _⟩ <;> omega); done))
      | (refine Br.dT ?_ ?_; focus ((rcases hx with ⟨hx, _⟩ | ⟨_, hx, _⟩ <;> omega); done))
      | (refine Br.dF ?_ ?_; focus ((rcases hx with ⟨hx, _⟩ | ⟨_, hx, _⟩ <;> omega); done))
      | (refine Br.d (fun h => ?_) (fun h => ?_))
      | (refine Br.swap ?_)
      | (refine Br.bnot ?_)
      | (refine Br.mk (fun h => Step.out ?_) (fun h => Step.out ?_))
      | (refine Two.mk (Step.out ?_) (Step.out ?_))
      | (refine Cp.mk fun q hq => Step.out ?_)
      | (refine Ovl.mk (by assumption) (Step.out ?_))
      | (refine CallOK.of_ct (Step.out ?_))
      | (refine CallQ.of_ct (Step.out ?_))
      | (refine Met.by (g := 26) (rclass_ct _ _) ?_; rintro q outs ⟨rfl, rfl⟩)
      | (refine Met.by (g := 45) (rfault_ct _ _ _) ?_; rintro q outs ⟨rfl, rfl⟩)
      | (refine Met.by (g := 46) (decision_ct _ _ _ (by assumption)) ?_; rintro q outs ⟨x, hx, rfl, rfl⟩)
      | (refine Vc.mk ?_ (Step.out ?_))
    all_goals try simp only [Int.toNat_natCast, Bool.not_true] at *
    all_goals try
      have hc : counts t s (l.getD i Cd.z) = true := by first | (rw [cnt_yes hx ‹_›]; simp only [‹De.s _ = _›, ‹¬cls _ _ = 0›]; rfl) | (rw [cnt_no hx ‹_›]; simp only [‹cls _ _ = 2›]; rfl)
      refine Again.by (i + 1, e ++ [bndOf t (l.getD i Cd.z)]) ⟨⟨by dsimp only; omega, ?_, by simp; omega⟩, by dsimp only; omega⟩ ?_
      · rw [← h2, bnd_step t s l i (by omega), if_pos hc, List.append_assoc]; rfl
      · repeat' first
          | (refine Step.mk ?_; conv => whnf)
          | (refine Vc.om ?_ ?_; first | omega | with_reducible rfl | with_reducible exact same_rfl | (simp only [bytes_2, bytes_3, bytes_4, bytes_5, bytes_9, bytes_12, bytes_21, bytes_22, bytes_25, bytes_27, bytes_28, bytes_30, bytes_32, bytes_33, bytes_36, bytes_37, bytes_38, bytes_39, bytes_41, bytes_42, bytes_43, bytes_44, bytes_45, bytes_46, bytes_52, bytes_56, bytes_58, bytes_60, bytes_67, bytes_68, bytes_69, bytes_70, bytes_71, bytes_72, bytes_73, bytes_74, bytes_75, bytes_76, bytes_77, bytes_81, bytes_84, bytes_85, bytes_87, bytes_95, bytes_96, bytes_111, bytes_115, true_and, and_true] <;> omega))
          | (refine NilB.mk fun b hb => Step.out ?_)
          | with_reducible trivial
          | exact noSh_bool _
          | exact noSh_lit _
          | exact noSh_int _ _
          | exact noSh_str _
          | with_reducible rfl
          | with_reducible exact same_rfl
          | (refine Wr.i64 ?_ ?_; omega)
          | (refine Wr.u8 ?_ ?_; omega)
          | (refine Wr.i32 ?_ ?_; omega)
          | (with_reducible refine Br.tt ?_)
          | (with_reducible refine Br.ff ?_)
          | (refine Br.dT ?_ ?_; omega)
          | (refine Br.dF ?_ ?_; omega)
          | (refine Br.d (fun h => ?_) (fun h => ?_))
          | (refine Br.swap ?_)
          | (refine Br.bnot ?_)
          | (refine Br.mk (fun h => Step.out ?_) (fun h => Step.out ?_))
          | (refine Two.mk (Step.out ?_) (Step.out ?_))
          | (refine Cp.mk fun q hq => Step.out ?_)
          | (refine Ovl.mk (by assumption) (Step.out ?_))
          | (refine CallOK.of_ct (Step.out ?_))
          | (refine CallQ.of_ct (Step.out ?_))
          | (refine Met.by (g := 26) (rclass_ct _ _) ?_; rintro q outs ⟨rfl, rfl⟩)
          | (refine Met.by (g := 45) (rfault_ct _ _ _) ?_; rintro q outs ⟨rfl, rfl⟩)
          | (refine Met.by (g := 46) (decision_ct _ _ _ (by assumption)) ?_; rintro q outs ⟨x, hx, rfl, rfl⟩)
          | (refine Vc.mk ?_ (Step.out ?_))
        exact app1 Bd.f Bd.z ite_bd e (bndOf t (l.getD i Cd.z))
    all_goals try
      have hc : counts t s (l.getD i Cd.z) = false := by first | (rw [cnt_yes hx ‹_›]; simp only [‹De.s _ = _›, ‹cls _ _ = 0›]; rfl) | (rw [cnt_yes hx ‹_›]; simp only [‹De.s _ = _›]; rfl) | (rw [cnt_no hx ‹_›]; simp only [‹¬cls _ _ = 2›]; rfl)
      refine Again.by (i + 1, e) ⟨⟨by dsimp only; omega, ?_, by dsimp only; omega⟩, by dsimp only; omega⟩ ?_
      · rw [← h2, bnd_step t s l i (by omega), if_neg (by rw [hc]; simp)]
      · repeat' first
          | (refine Step.mk ?_; conv => whnf)
          | (refine Vc.om ?_ ?_; first | omega | with_reducible rfl | with_reducible exact same_rfl | (simp only [bytes_2, bytes_3, bytes_4, bytes_5, bytes_9, bytes_12, bytes_21, bytes_22, bytes_25, bytes_27, bytes_28, bytes_30, bytes_32, bytes_33, bytes_36, bytes_37, bytes_38, bytes_39, bytes_41, bytes_42, bytes_43, bytes_44, bytes_45, bytes_46, bytes_52, bytes_56, bytes_58, bytes_60, bytes_67, bytes_68, bytes_69, bytes_70, bytes_71, bytes_72, bytes_73, bytes_74, bytes_75, bytes_76, bytes_77, bytes_81, bytes_84, bytes_85, bytes_87, bytes_95, bytes_96, bytes_111, bytes_115, true_and, and_true] <;> omega))
          | (refine NilB.mk fun b hb => Step.out ?_)
          | with_reducible trivial
          | exact noSh_bool _
          | exact noSh_lit _
          | exact noSh_int _ _
          | exact noSh_str _
          | with_reducible rfl
          | with_reducible exact same_rfl
          | (refine Wr.i64 ?_ ?_; omega)
          | (refine Wr.u8 ?_ ?_; omega)
          | (refine Wr.i32 ?_ ?_; omega)
          | (with_reducible refine Br.tt ?_)
          | (with_reducible refine Br.ff ?_)
          | (refine Br.dT ?_ ?_; omega)
          | (refine Br.dF ?_ ?_; omega)
          | (refine Br.d (fun h => ?_) (fun h => ?_))
          | (refine Br.swap ?_)
          | (refine Br.bnot ?_)
          | (refine Br.mk (fun h => Step.out ?_) (fun h => Step.out ?_))
          | (refine Two.mk (Step.out ?_) (Step.out ?_))
          | (refine Cp.mk fun q hq => Step.out ?_)
          | (refine Ovl.mk (by assumption) (Step.out ?_))
          | (refine CallOK.of_ct (Step.out ?_))
          | (refine CallQ.of_ct (Step.out ?_))
          | (refine Met.by (g := 26) (rclass_ct _ _) ?_; rintro q outs ⟨rfl, rfl⟩)
          | (refine Met.by (g := 45) (rfault_ct _ _ _) ?_; rintro q outs ⟨rfl, rfl⟩)
          | (refine Met.by (g := 46) (decision_ct _ _ _ (by assumption)) ?_; rintro q outs ⟨x, hx, rfl, rfl⟩)
          | (refine Vc.mk ?_ (Step.out ?_))
    · have he : e = bnd t s l := by rw [← h2, List.drop_of_length_le (by omega), bnd, List.append_nil]
      rw [he]; exact ⟨rfl, fun _ _ => rfl⟩
theorem rbonds_ct (t : Th) (l : List Cd) (s : List De) : Ct Try.prog 28 [t.d, cds l, des s] fun q outs => q = .tup [bds (bondsL t l s), i64 (fault t l s)] ∧ outs = [] := by
  by_cases hf : fault t l s = 0
  · have := rbonds_ok t l s hf
    rw [bondsL, if_pos hf, hf]; exact this
  · have := rbonds_no t l s hf
    rw [bondsL, if_neg hf]; exact this
theorem ropen_no (t : Th) (l : List Cd) (s : List De) (hf : fault t l s ≠ 0) : Ct Try.prog 29 [t.d, cds l, des s] fun q outs => q = .tup [cds [], i64 (fault t l s)] ∧ outs = [] := by
  refine .det (.of_W (fn := Try.f29) hΓ hm Try.func29 ord29 [] (by kernel_rfl) (Step.out ?_))
  repeat' first
    | (refine Step.mk ?_; conv => whnf)
    | (refine Vc.om ?_ ?_; first | omega | with_reducible rfl | with_reducible exact same_rfl | (simp only [bytes_2, bytes_3, bytes_4, bytes_5, bytes_9, bytes_12, bytes_21, bytes_22, bytes_25, bytes_27, bytes_28, bytes_30, bytes_32, bytes_33, bytes_36, bytes_37, bytes_38, bytes_39, bytes_41, bytes_42, bytes_43, bytes_44, bytes_45, bytes_46, bytes_52, bytes_56, bytes_58, bytes_60, bytes_67, bytes_68, bytes_69, bytes_70, bytes_71, bytes_72, bytes_73, bytes_74, bytes_75, bytes_76, bytes_77, bytes_81, bytes_84, bytes_85, bytes_87, bytes_95, bytes_96, bytes_111, bytes_115, true_and, and_true] <;> omega))
    | (refine NilB.mk fun b hb => Step.out ?_)
    | with_reducible trivial
    | exact noSh_bool _
    | exact noSh_lit _
    | exact noSh_int _ _
    | exact noSh_str _
    | with_reducible rfl
    | with_reducible exact same_rfl
    | (refine Wr.i64 ?_ ?_; omega)
    | (refine Wr.u8 ?_ ?_; omega)
    | (refine Wr.i32 ?_ ?_; omega)
    | (with_reducible refine Br.tt ?_)
    | (with_reducible refine Br.ff ?_)
    | (refine Br.dT ?_ ?_; omega)
    | (refine Br.dF ?_ ?_; omega)
    | (refine Br.d (fun h => ?_) (fun h => ?_))
    | (refine Br.swap ?_)
    | (refine Br.bnot ?_)
    | (refine Br.mk (fun h => Step.out ?_) (fun h => Step.out ?_))
    | (refine Two.mk (Step.out ?_) (Step.out ?_))
    | (refine Cp.mk fun q hq => Step.out ?_)
    | (refine Ovl.mk (by assumption) (Step.out ?_))
    | (refine CallOK.of_ct (Step.out ?_))
    | (refine CallQ.of_ct (Step.out ?_))
    | (refine Met.by (g := 26) (rclass_ct _ _) ?_; rintro q outs ⟨rfl, rfl⟩)
    | (refine Met.by (g := 45) (rfault_ct _ _ _) ?_; rintro q outs ⟨rfl, rfl⟩)
    | (refine Met.by (g := 46) (decision_ct _ _ _ (by assumption)) ?_; rintro q outs ⟨x, hx, rfl, rfl⟩)
    | (refine Vc.mk ?_ (Step.out ?_))
theorem ropen_ok (t : Th) (l : List Cd) (s : List De) (hf : fault t l s = 0) : Ct Try.prog 29 [t.d, cds l, des s] fun q outs => q = .tup [cds (opn t s l), i64 0] ∧ outs = [] := by
  obtain ⟨hl, hs, _⟩ := fault_le hf
  refine .det (.of_W (fn := Try.f29) hΓ hm Try.func29 ord29 [] (by kernel_rfl) (Step.out ?_))
  repeat' first
    | (refine Step.mk ?_; conv => whnf)
    | (refine Vc.om ?_ ?_; first | omega | with_reducible rfl | with_reducible exact same_rfl | (simp only [bytes_2, bytes_3, bytes_4, bytes_5, bytes_9, bytes_12, bytes_21, bytes_22, bytes_25, bytes_27, bytes_28, bytes_30, bytes_32, bytes_33, bytes_36, bytes_37, bytes_38, bytes_39, bytes_41, bytes_42, bytes_43, bytes_44, bytes_45, bytes_46, bytes_52, bytes_56, bytes_58, bytes_60, bytes_67, bytes_68, bytes_69, bytes_70, bytes_71, bytes_72, bytes_73, bytes_74, bytes_75, bytes_76, bytes_77, bytes_81, bytes_84, bytes_85, bytes_87, bytes_95, bytes_96, bytes_111, bytes_115, true_and, and_true] <;> omega))
    | (refine NilB.mk fun b hb => Step.out ?_)
    | with_reducible trivial
    | exact noSh_bool _
    | exact noSh_lit _
    | exact noSh_int _ _
    | exact noSh_str _
    | with_reducible rfl
    | with_reducible exact same_rfl
    | (refine Wr.i64 ?_ ?_; omega)
    | (refine Wr.u8 ?_ ?_; omega)
    | (refine Wr.i32 ?_ ?_; omega)
    | (with_reducible refine Br.tt ?_)
    | (with_reducible refine Br.ff ?_)
    | (refine Br.dT ?_ ?_; omega)
    | (refine Br.dF ?_ ?_; omega)
    | (refine Br.d (fun h => ?_) (fun h => ?_))
    | (refine Br.swap ?_)
    | (refine Br.bnot ?_)
    | (refine Br.mk (fun h => Step.out ?_) (fun h => Step.out ?_))
    | (refine Two.mk (Step.out ?_) (Step.out ?_))
    | (refine Cp.mk fun q hq => Step.out ?_)
    | (refine Ovl.mk (by assumption) (Step.out ?_))
    | (refine CallOK.of_ct (Step.out ?_))
    | (refine CallQ.of_ct (Step.out ?_))
    | (refine Met.by (g := 26) (rclass_ct _ _) ?_; rintro q outs ⟨rfl, rfl⟩)
    | (refine Met.by (g := 45) (rfault_ct _ _ _) ?_; rintro q outs ⟨rfl, rfl⟩)
    | (refine Met.by (g := 46) (decision_ct _ _ _ (by assumption)) ?_; rintro q outs ⟨x, hx, rfl, rfl⟩)
    | (refine Vc.mk ?_ (Step.out ?_))
  refine CodeOK.loopW hΓ hm ord29 [] (by kernel_rfl) (α := Nat × List Cd) (fun z => [(1, cds l), (2, des s), (3, .loc 0 0), (9, .own 1), (10, i64 z.1)]) (fun z => [(0, .var [i64 t.lo, i64 t.hi]), (1, .arr 39 6 z.2.length fun j => Cd.f (z.2.getD j Cd.z))]) 2 (fun z => z.1 ≤ l.length ∧ z.2 ++ opn t s (l.drop z.1) = opn t s l ∧ z.2.length ≤ z.1) (fun z => l.length - z.1) ?_ ?_
  · refine Again.by (0, []) ⟨Nat.zero_le _, rfl, Nat.le_refl _⟩ ?_
    repeat' first
      | (refine Step.mk ?_; conv => whnf)
      | (refine Vc.om ?_ ?_; first | omega | with_reducible rfl | with_reducible exact same_rfl | (simp only [bytes_2, bytes_3, bytes_4, bytes_5, bytes_9, bytes_12, bytes_21, bytes_22, bytes_25, bytes_27, bytes_28, bytes_30, bytes_32, bytes_33, bytes_36, bytes_37, bytes_38, bytes_39, bytes_41, bytes_42, bytes_43, bytes_44, bytes_45, bytes_46, bytes_52, bytes_56, bytes_58, bytes_60, bytes_67, bytes_68, bytes_69, bytes_70, bytes_71, bytes_72, bytes_73, bytes_74, bytes_75, bytes_76, bytes_77, bytes_81, bytes_84, bytes_85, bytes_87, bytes_95, bytes_96, bytes_111, bytes_115, true_and, and_true] <;> omega))
      | (refine NilB.mk fun b hb => Step.out ?_)
      | with_reducible trivial
      | exact noSh_bool _
      | exact noSh_lit _
      | exact noSh_int _ _
      | exact noSh_str _
      | with_reducible rfl
      | with_reducible exact same_rfl
      | (refine Wr.i64 ?_ ?_; omega)
      | (refine Wr.u8 ?_ ?_; omega)
      | (refine Wr.i32 ?_ ?_; omega)
      | (with_reducible refine Br.tt ?_)
      | (with_reducible refine Br.ff ?_)
      | (refine Br.dT ?_ ?_; omega)
      | (refine Br.dF ?_ ?_; omega)
      | (refine Br.d (fun h => ?_) (fun h => ?_))
      | (refine Br.swap ?_)
      | (refine Br.bnot ?_)
      | (refine Br.mk (fun h => Step.out ?_) (fun h => Step.out ?_))
      | (refine Two.mk (Step.out ?_) (Step.out ?_))
      | (refine Cp.mk fun q hq => Step.out ?_)
      | (refine Ovl.mk (by assumption) (Step.out ?_))
      | (refine CallOK.of_ct (Step.out ?_))
      | (refine CallQ.of_ct (Step.out ?_))
      | (refine Met.by (g := 26) (rclass_ct _ _) ?_; rintro q outs ⟨rfl, rfl⟩)
      | (refine Met.by (g := 45) (rfault_ct _ _ _) ?_; rintro q outs ⟨rfl, rfl⟩)
      | (refine Met.by (g := 46) (decision_ct _ _ _ (by assumption)) ?_; rintro q outs ⟨x, hx, rfl, rfl⟩)
      | (refine Vc.mk ?_ (Step.out ?_))
    all_goals rfl
  · intro ⟨i, e⟩ ⟨h1, h2, h3⟩
    dsimp only at h1 h2 h3 ⊢
    repeat' first
      | (refine Step.mk ?_; conv => whnf)
      | (refine Vc.om ?_ ?_; first | omega | with_reducible rfl | with_reducible exact same_rfl | (simp only [bytes_2, bytes_3, bytes_4, bytes_5, bytes_9, bytes_12, bytes_21, bytes_22, bytes_25, bytes_27, bytes_28, bytes_30, bytes_32, bytes_33, bytes_36, bytes_37, bytes_38, bytes_39, bytes_41, bytes_42, bytes_43, bytes_44, bytes_45, bytes_46, bytes_52, bytes_56, bytes_58, bytes_60, bytes_67, bytes_68, bytes_69, bytes_70, bytes_71, bytes_72, bytes_73, bytes_74, bytes_75, bytes_76, bytes_77, bytes_81, bytes_84, bytes_85, bytes_87, bytes_95, bytes_96, bytes_111, bytes_115, true_and, and_true] <;> omega))
      | (refine NilB.mk fun b hb => Step.out ?_)
      | with_reducible trivial
      | exact noSh_bool _
      | exact noSh_lit _
      | exact noSh_int _ _
      | exact noSh_str _
      | with_reducible rfl
      | with_reducible exact same_rfl
      | (refine Wr.i64 ?_ ?_; omega)
      | (refine Wr.u8 ?_ ?_; omega)
      | (refine Wr.i32 ?_ ?_; omega)
      | (with_reducible refine Br.tt ?_)
      | (with_reducible refine Br.ff ?_)
      | (refine Br.dT ?_ ?_; omega)
      | (refine Br.dF ?_ ?_; omega)
      | (refine Met.by (decision_ct s (l.getD (i : Int).toNat Cd.z).a (l.getD (i : Int).toNat Cd.z).b (by omega)) ?_; rintro q outs ⟨x, hx, rfl, rfl⟩)
      | (refine Br.d (fun h => ?_) (fun h => ?_))
      | (refine Br.swap ?_)
      | (refine Br.bnot ?_)
      | (refine Br.mk (fun h => Step.out ?_) (fun h => Step.out ?_))
      | (refine Two.mk (Step.out ?_) (Step.out ?_))
      | (refine Cp.mk fun q hq => Step.out ?_)
      | (refine Ovl.mk (by assumption) (Step.out ?_))
      | (refine CallOK.of_ct (Step.out ?_))
      | (refine CallQ.of_ct (Step.out ?_))
      | (refine Met.by (g := 26) (rclass_ct _ _) ?_; rintro q outs ⟨rfl, rfl⟩)
      | (refine Met.by (g := 45) (rfault_ct _ _ _) ?_; rintro q outs ⟨rfl, rfl⟩)
      | (refine Met.by (g := 46) (decision_ct _ _ _ (by assumption)) ?_; rintro q outs ⟨x, hx, rfl, rfl⟩)
      | (refine Vc.mk ?_ (Step.out ?_))
    all_goals try simp only [Int.toNat_natCast, Bool.not_true] at *
    all_goals try
      have hc : isOpen t s (l.getD i Cd.z) = true := by rw [open_no' hx ‹_›]; simp only [‹cls _ _ = 1›]; rfl
      refine Again.by (i + 1, e ++ [l.getD i Cd.z]) ⟨⟨by dsimp only; omega, ?_, by simp; omega⟩, by dsimp only; omega⟩ ?_
      · rw [← h2, opn_step t s l i (by omega), if_pos hc, List.append_assoc]; rfl
      · repeat' first
          | (refine Step.mk ?_; conv => whnf)
          | (refine Vc.om ?_ ?_; first | omega | with_reducible rfl | with_reducible exact same_rfl | (simp only [bytes_2, bytes_3, bytes_4, bytes_5, bytes_9, bytes_12, bytes_21, bytes_22, bytes_25, bytes_27, bytes_28, bytes_30, bytes_32, bytes_33, bytes_36, bytes_37, bytes_38, bytes_39, bytes_41, bytes_42, bytes_43, bytes_44, bytes_45, bytes_46, bytes_52, bytes_56, bytes_58, bytes_60, bytes_67, bytes_68, bytes_69, bytes_70, bytes_71, bytes_72, bytes_73, bytes_74, bytes_75, bytes_76, bytes_77, bytes_81, bytes_84, bytes_85, bytes_87, bytes_95, bytes_96, bytes_111, bytes_115, true_and, and_true] <;> omega))
          | (refine NilB.mk fun b hb => Step.out ?_)
          | with_reducible trivial
          | exact noSh_bool _
          | exact noSh_lit _
          | exact noSh_int _ _
          | exact noSh_str _
          | with_reducible rfl
          | with_reducible exact same_rfl
          | (refine Wr.i64 ?_ ?_; omega)
          | (refine Wr.u8 ?_ ?_; omega)
          | (refine Wr.i32 ?_ ?_; omega)
          | (with_reducible refine Br.tt ?_)
          | (with_reducible refine Br.ff ?_)
          | (refine Br.dT ?_ ?_; omega)
          | (refine Br.dF ?_ ?_; omega)
          | (refine Br.d (fun h => ?_) (fun h => ?_))
          | (refine Br.swap ?_)
          | (refine Br.bnot ?_)
          | (refine Br.mk (fun h => Step.out ?_) (fun h => Step.out ?_))
          | (refine Two.mk (Step.out ?_) (Step.out ?_))
          | (refine Cp.mk fun q hq => Step.out ?_)
          | (refine Ovl.mk (by assumption) (Step.out ?_))
          | (refine CallOK.of_ct (Step.out ?_))
          | (refine CallQ.of_ct (Step.out ?_))
          | (refine Met.by (g := 26) (rclass_ct _ _) ?_; rintro q outs ⟨rfl, rfl⟩)
          | (refine Met.by (g := 45) (rfault_ct _ _ _) ?_; rintro q outs ⟨rfl, rfl⟩)
          | (refine Met.by (g := 46) (decision_ct _ _ _ (by assumption)) ?_; rintro q outs ⟨x, hx, rfl, rfl⟩)
          | (refine Vc.mk ?_ (Step.out ?_))
        exact app1 Cd.f Cd.z ite_cd e (l.getD i Cd.z)
    all_goals try
      have hc : isOpen t s (l.getD i Cd.z) = false := by first | exact open_yes hx ‹_› | (rw [open_no' hx ‹_›]; simp only [‹¬cls _ _ = 1›]; rfl) | (unfold isOpen; simp only [‹¬cls _ _ = 1›, decide_false, Bool.and_false])
      refine Again.by (i + 1, e) ⟨⟨by dsimp only; omega, ?_, by dsimp only; omega⟩, by dsimp only; omega⟩ ?_
      · rw [← h2, opn_step t s l i (by omega), if_neg (by rw [hc]; simp)]
      · repeat' first
          | (refine Step.mk ?_; conv => whnf)
          | (refine Vc.om ?_ ?_; first | omega | with_reducible rfl | with_reducible exact same_rfl | (simp only [bytes_2, bytes_3, bytes_4, bytes_5, bytes_9, bytes_12, bytes_21, bytes_22, bytes_25, bytes_27, bytes_28, bytes_30, bytes_32, bytes_33, bytes_36, bytes_37, bytes_38, bytes_39, bytes_41, bytes_42, bytes_43, bytes_44, bytes_45, bytes_46, bytes_52, bytes_56, bytes_58, bytes_60, bytes_67, bytes_68, bytes_69, bytes_70, bytes_71, bytes_72, bytes_73, bytes_74, bytes_75, bytes_76, bytes_77, bytes_81, bytes_84, bytes_85, bytes_87, bytes_95, bytes_96, bytes_111, bytes_115, true_and, and_true] <;> omega))
          | (refine NilB.mk fun b hb => Step.out ?_)
          | with_reducible trivial
          | exact noSh_bool _
          | exact noSh_lit _
          | exact noSh_int _ _
          | exact noSh_str _
          | with_reducible rfl
          | with_reducible exact same_rfl
          | (refine Wr.i64 ?_ ?_; omega)
          | (refine Wr.u8 ?_ ?_; omega)
          | (refine Wr.i32 ?_ ?_; omega)
          | (with_reducible refine Br.tt ?_)
          | (with_reducible refine Br.ff ?_)
          | (refine Br.dT ?_ ?_; omega)
          | (refine Br.dF ?_ ?_; omega)
          | (refine Br.d (fun h => ?_) (fun h => ?_))
          | (refine Br.swap ?_)
          | (refine Br.bnot ?_)
          | (refine Br.mk (fun h => Step.out ?_) (fun h => Step.out ?_))
          | (refine Two.mk (Step.out ?_) (Step.out ?_))
          | (refine Cp.mk fun q hq => Step.out ?_)
          | (refine Ovl.mk (by assumption) (Step.out ?_))
          | (refine CallOK.of_ct (Step.out ?_))
          | (refine CallQ.of_ct (Step.out ?_))
          | (refine Met.by (g := 26) (rclass_ct _ _) ?_; rintro q outs ⟨rfl, rfl⟩)
          | (refine Met.by (g := 45) (rfault_ct _ _ _) ?_; rintro q outs ⟨rfl, rfl⟩)
          | (refine Met.by (g := 46) (decision_ct _ _ _ (by assumption)) ?_; rintro q outs ⟨x, hx, rfl, rfl⟩)
          | (refine Vc.mk ?_ (Step.out ?_))
    · have he : e = opn t s l := by rw [← h2, List.drop_of_length_le (by omega), opn, List.append_nil]
      rw [he]; exact ⟨rfl, fun _ _ => rfl⟩
theorem ropen_ct (t : Th) (l : List Cd) (s : List De) : Ct Try.prog 29 [t.d, cds l, des s] fun q outs => q = .tup [cds (openL t l s), i64 (fault t l s)] ∧ outs = [] := by
  by_cases hf : fault t l s = 0
  · have := ropen_ok t l s hf
    rw [openL, if_pos hf, hf]; exact this
  · have := ropen_no t l s hf
    rw [openL, if_neg hf]; exact this
theorem bd_ext {x y : Bd} (h : (((x.a.g = y.a.g ∧ x.a.i = y.a.i) ∧ x.b.g = y.b.g) ∧ x.b.i = y.b.i) ∧ x.w = y.w) : x = y := by
  obtain ⟨⟨_, _⟩, ⟨_, _⟩, _⟩ := x
  obtain ⟨⟨_, _⟩, ⟨_, _⟩, _⟩ := y
  simp_all
theorem cd_ext {x y : Cd} (h : ((((x.a.g = y.a.g ∧ x.a.i = y.a.i) ∧ x.b.g = y.b.g) ∧ x.b.i = y.b.i) ∧ x.p = y.p) ∧ x.w = y.w) : x = y := by
  obtain ⟨⟨_, _⟩, ⟨_, _⟩, _, _⟩ := x
  obtain ⟨⟨_, _⟩, ⟨_, _⟩, _, _⟩ := y
  simp_all
theorem de_ext {x y : De} (h : (((((x.a.g = y.a.g ∧ x.a.i = y.a.i) ∧ x.b.g = y.b.g) ∧ x.b.i = y.b.i) ∧ x.va = y.va) ∧ x.vb = y.vb) ∧ x.s = y.s) : x = y := by
  obtain ⟨⟨_, _⟩, ⟨_, _⟩, _, _, _⟩ := x
  obtain ⟨⟨_, _⟩, ⟨_, _⟩, _, _, _⟩ := y
  simp_all
theorem sameB_ct (a b : List Bd) (ha : a.length ≤ 1000000) : Ct Try.prog 18 [bds a, bds b] fun q outs => q = .bool (decide (a = b)) ∧ outs = [] := by
  refine .det (.of_W (fn := Try.f18) hΓ hm Try.func18 ord18 [] (by kernel_rfl) (Step.out ?_))
  repeat' first
    | (refine Step.mk ?_; conv => whnf)
    | (refine Vc.om ?_ ?_; first | omega | with_reducible rfl | with_reducible exact same_rfl | (simp only [bytes_2, bytes_3, bytes_4, bytes_5, bytes_9, bytes_12, bytes_21, bytes_22, bytes_25, bytes_27, bytes_28, bytes_30, bytes_32, bytes_33, bytes_36, bytes_37, bytes_38, bytes_39, bytes_41, bytes_42, bytes_43, bytes_44, bytes_45, bytes_46, bytes_52, bytes_56, bytes_58, bytes_60, bytes_67, bytes_68, bytes_69, bytes_70, bytes_71, bytes_72, bytes_73, bytes_74, bytes_75, bytes_76, bytes_77, bytes_81, bytes_84, bytes_85, bytes_87, bytes_95, bytes_96, bytes_111, bytes_115, true_and, and_true] <;> omega))
    | (refine NilB.mk fun b hb => Step.out ?_)
    | with_reducible trivial
    | exact noSh_bool _
    | exact noSh_lit _
    | exact noSh_int _ _
    | exact noSh_str _
    | with_reducible rfl
    | with_reducible exact same_rfl
    | (refine Wr.i64 ?_ ?_; omega)
    | (refine Wr.u8 ?_ ?_; omega)
    | (refine Wr.i32 ?_ ?_; omega)
    | (with_reducible refine Br.tt ?_)
    | (with_reducible refine Br.ff ?_)
    | (refine Br.dT ?_ ?_; omega)
    | (refine Br.dF ?_ ?_; omega)
    | (refine Br.d (fun h => ?_) (fun h => ?_))
    | (refine Br.swap ?_)
    | (refine Br.bnot ?_)
    | (refine Br.mk (fun h => Step.out ?_) (fun h => Step.out ?_))
    | (refine Two.mk (Step.out ?_) (Step.out ?_))
    | (refine Cp.mk fun q hq => Step.out ?_)
    | (refine Ovl.mk (by assumption) (Step.out ?_))
    | (refine CallOK.of_ct (Step.out ?_))
    | (refine CallQ.of_ct (Step.out ?_))
    | (refine Vc.mk ?_ (Step.out ?_))
  · refine CodeOK.loopW hΓ hm ord18 [] (by kernel_rfl) (α := Nat) (fun i => [(0, bds a), (1, bds b), (5, i64 i)]) (fun i => []) 0 (fun i => i ≤ a.length ∧ a.take i = b.take i) (fun i => a.length - i) ?_ ?_
    · refine Again.by 0 ⟨Nat.zero_le _, rfl⟩ ?_
      repeat' first
        | (refine Step.mk ?_; conv => whnf)
        | (refine Vc.om ?_ ?_; first | omega | with_reducible rfl | with_reducible exact same_rfl | (simp only [bytes_2, bytes_3, bytes_4, bytes_5, bytes_9, bytes_12, bytes_21, bytes_22, bytes_25, bytes_27, bytes_28, bytes_30, bytes_32, bytes_33, bytes_36, bytes_37, bytes_38, bytes_39, bytes_41, bytes_42, bytes_43, bytes_44, bytes_45, bytes_46, bytes_52, bytes_56, bytes_58, bytes_60, bytes_67, bytes_68, bytes_69, bytes_70, bytes_71, bytes_72, bytes_73, bytes_74, bytes_75, bytes_76, bytes_77, bytes_81, bytes_84, bytes_85, bytes_87, bytes_95, bytes_96, bytes_111, bytes_115, true_and, and_true] <;> omega))
        | (refine NilB.mk fun b hb => Step.out ?_)
        | with_reducible trivial
        | exact noSh_bool _
        | exact noSh_lit _
        | exact noSh_int _ _
        | exact noSh_str _
        | with_reducible rfl
        | with_reducible exact same_rfl
        | (refine Wr.i64 ?_ ?_; omega)
        | (refine Wr.u8 ?_ ?_; omega)
        | (refine Wr.i32 ?_ ?_; omega)
        | (with_reducible refine Br.tt ?_)
        | (with_reducible refine Br.ff ?_)
        | (refine Br.dT ?_ ?_; omega)
        | (refine Br.dF ?_ ?_; omega)
        | (refine Br.d (fun h => ?_) (fun h => ?_))
        | (refine Br.swap ?_)
        | (refine Br.bnot ?_)
        | (refine Br.mk (fun h => Step.out ?_) (fun h => Step.out ?_))
        | (refine Two.mk (Step.out ?_) (Step.out ?_))
        | (refine Cp.mk fun q hq => Step.out ?_)
        | (refine Ovl.mk (by assumption) (Step.out ?_))
        | (refine CallOK.of_ct (Step.out ?_))
        | (refine CallQ.of_ct (Step.out ?_))
        | (refine Vc.mk ?_ (Step.out ?_))
    · intro i ⟨h1, h2⟩
      repeat' first
        | (refine Step.mk ?_; conv => whnf)
        | (refine Vc.om ?_ ?_; first | omega | with_reducible rfl | with_reducible exact same_rfl | (simp only [bytes_2, bytes_3, bytes_4, bytes_5, bytes_9, bytes_12, bytes_21, bytes_22, bytes_25, bytes_27, bytes_28, bytes_30, bytes_32, bytes_33, bytes_36, bytes_37, bytes_38, bytes_39, bytes_41, bytes_42, bytes_43, bytes_44, bytes_45, bytes_46, bytes_52, bytes_56, bytes_58, bytes_60, bytes_67, bytes_68, bytes_69, bytes_70, bytes_71, bytes_72, bytes_73, bytes_74, bytes_75, bytes_76, bytes_77, bytes_81, bytes_84, bytes_85, bytes_87, bytes_95, bytes_96, bytes_111, bytes_115, true_and, and_true] <;> omega))
        | (refine NilB.mk fun b hb => Step.out ?_)
        | with_reducible trivial
        | exact noSh_bool _
        | exact noSh_lit _
        | exact noSh_int _ _
        | exact noSh_str _
        | with_reducible rfl
        | with_reducible exact same_rfl
        | (refine Wr.i64 ?_ ?_; omega)
        | (refine Wr.u8 ?_ ?_; omega)
        | (refine Wr.i32 ?_ ?_; omega)
        | (with_reducible refine Br.tt ?_)
        | (with_reducible refine Br.ff ?_)
        | (refine Br.dT ?_ ?_; omega)
        | (refine Br.dF ?_ ?_; omega)
        | (refine Br.d (fun h => ?_) (fun h => ?_))
        | (refine Br.swap ?_)
        | (refine Br.bnot ?_)
        | (refine Br.mk (fun h => Step.out ?_) (fun h => Step.out ?_))
        | (refine Two.mk (Step.out ?_) (Step.out ?_))
        | (refine Cp.mk fun q hq => Step.out ?_)
        | (refine Ovl.mk (by assumption) (Step.out ?_))
        | (refine CallOK.of_ct (Step.out ?_))
        | (refine CallQ.of_ct (Step.out ?_))
        | (refine Vc.mk ?_ (Step.out ?_))
      all_goals try simp only [Int.toNat_natCast] at *
      · refine Again.by (i + 1) ⟨⟨by omega, ?_⟩, by omega⟩ ?_
        · rw [take_step a Bd.z i (by omega), take_step b Bd.z i (by omega), h2, bd_ext h]
        · repeat' first
            | (refine Step.mk ?_; conv => whnf)
            | (refine Vc.om ?_ ?_; first | omega | with_reducible rfl | with_reducible exact same_rfl | (simp only [bytes_2, bytes_3, bytes_4, bytes_5, bytes_9, bytes_12, bytes_21, bytes_22, bytes_25, bytes_27, bytes_28, bytes_30, bytes_32, bytes_33, bytes_36, bytes_37, bytes_38, bytes_39, bytes_41, bytes_42, bytes_43, bytes_44, bytes_45, bytes_46, bytes_52, bytes_56, bytes_58, bytes_60, bytes_67, bytes_68, bytes_69, bytes_70, bytes_71, bytes_72, bytes_73, bytes_74, bytes_75, bytes_76, bytes_77, bytes_81, bytes_84, bytes_85, bytes_87, bytes_95, bytes_96, bytes_111, bytes_115, true_and, and_true] <;> omega))
            | (refine NilB.mk fun b hb => Step.out ?_)
            | with_reducible trivial
            | exact noSh_bool _
            | exact noSh_lit _
            | exact noSh_int _ _
            | exact noSh_str _
            | with_reducible rfl
            | with_reducible exact same_rfl
            | (refine Wr.i64 ?_ ?_; omega)
            | (refine Wr.u8 ?_ ?_; omega)
            | (refine Wr.i32 ?_ ?_; omega)
            | (with_reducible refine Br.tt ?_)
            | (with_reducible refine Br.ff ?_)
            | (refine Br.dT ?_ ?_; omega)
            | (refine Br.dF ?_ ?_; omega)
            | (refine Br.d (fun h => ?_) (fun h => ?_))
            | (refine Br.swap ?_)
            | (refine Br.bnot ?_)
            | (refine Br.mk (fun h => Step.out ?_) (fun h => Step.out ?_))
            | (refine Two.mk (Step.out ?_) (Step.out ?_))
            | (refine Cp.mk fun q hq => Step.out ?_)
            | (refine Ovl.mk (by assumption) (Step.out ?_))
            | (refine CallOK.of_ct (Step.out ?_))
            | (refine CallQ.of_ct (Step.out ?_))
            | (refine Vc.mk ?_ (Step.out ?_))
      · symm
        refine decide_eq_false fun e => ?_
        subst e
        simp at h
      · symm
        refine decide_eq_true ?_
        rw [List.take_of_length_le (by omega), List.take_of_length_le (by omega)] at h2
        exact h2
  · symm
    refine decide_eq_false fun e => ?_
    subst e
    exact h rfl
theorem sameC_ct (a b : List Cd) (ha : a.length ≤ 1000000) : Ct Try.prog 30 [cds a, cds b] fun q outs => q = .bool (decide (a = b)) ∧ outs = [] := by
  refine .det (.of_W (fn := Try.f30) hΓ hm Try.func30 ord30 [] (by kernel_rfl) (Step.out ?_))
  repeat' first
    | (refine Step.mk ?_; conv => whnf)
    | (refine Vc.om ?_ ?_; first | omega | with_reducible rfl | with_reducible exact same_rfl | (simp only [bytes_2, bytes_3, bytes_4, bytes_5, bytes_9, bytes_12, bytes_21, bytes_22, bytes_25, bytes_27, bytes_28, bytes_30, bytes_32, bytes_33, bytes_36, bytes_37, bytes_38, bytes_39, bytes_41, bytes_42, bytes_43, bytes_44, bytes_45, bytes_46, bytes_52, bytes_56, bytes_58, bytes_60, bytes_67, bytes_68, bytes_69, bytes_70, bytes_71, bytes_72, bytes_73, bytes_74, bytes_75, bytes_76, bytes_77, bytes_81, bytes_84, bytes_85, bytes_87, bytes_95, bytes_96, bytes_111, bytes_115, true_and, and_true] <;> omega))
    | (refine NilB.mk fun b hb => Step.out ?_)
    | with_reducible trivial
    | exact noSh_bool _
    | exact noSh_lit _
    | exact noSh_int _ _
    | exact noSh_str _
    | with_reducible rfl
    | with_reducible exact same_rfl
    | (refine Wr.i64 ?_ ?_; omega)
    | (refine Wr.u8 ?_ ?_; omega)
    | (refine Wr.i32 ?_ ?_; omega)
    | (with_reducible refine Br.tt ?_)
    | (with_reducible refine Br.ff ?_)
    | (refine Br.dT ?_ ?_; omega)
    | (refine Br.dF ?_ ?_; omega)
    | (refine Br.d (fun h => ?_) (fun h => ?_))
    | (refine Br.swap ?_)
    | (refine Br.bnot ?_)
    | (refine Br.mk (fun h => Step.out ?_) (fun h => Step.out ?_))
    | (refine Two.mk (Step.out ?_) (Step.out ?_))
    | (refine Cp.mk fun q hq => Step.out ?_)
    | (refine Ovl.mk (by assumption) (Step.out ?_))
    | (refine CallOK.of_ct (Step.out ?_))
    | (refine CallQ.of_ct (Step.out ?_))
    | (refine Vc.mk ?_ (Step.out ?_))
  · refine CodeOK.loopW hΓ hm ord30 [] (by kernel_rfl) (α := Nat) (fun i => [(0, cds a), (1, cds b), (5, i64 i)]) (fun i => []) 0 (fun i => i ≤ a.length ∧ a.take i = b.take i) (fun i => a.length - i) ?_ ?_
    · refine Again.by 0 ⟨Nat.zero_le _, rfl⟩ ?_
      repeat' first
        | (refine Step.mk ?_; conv => whnf)
        | (refine Vc.om ?_ ?_; first | omega | with_reducible rfl | with_reducible exact same_rfl | (simp only [bytes_2, bytes_3, bytes_4, bytes_5, bytes_9, bytes_12, bytes_21, bytes_22, bytes_25, bytes_27, bytes_28, bytes_30, bytes_32, bytes_33, bytes_36, bytes_37, bytes_38, bytes_39, bytes_41, bytes_42, bytes_43, bytes_44, bytes_45, bytes_46, bytes_52, bytes_56, bytes_58, bytes_60, bytes_67, bytes_68, bytes_69, bytes_70, bytes_71, bytes_72, bytes_73, bytes_74, bytes_75, bytes_76, bytes_77, bytes_81, bytes_84, bytes_85, bytes_87, bytes_95, bytes_96, bytes_111, bytes_115, true_and, and_true] <;> omega))
        | (refine NilB.mk fun b hb => Step.out ?_)
        | with_reducible trivial
        | exact noSh_bool _
        | exact noSh_lit _
        | exact noSh_int _ _
        | exact noSh_str _
        | with_reducible rfl
        | with_reducible exact same_rfl
        | (refine Wr.i64 ?_ ?_; omega)
        | (refine Wr.u8 ?_ ?_; omega)
        | (refine Wr.i32 ?_ ?_; omega)
        | (with_reducible refine Br.tt ?_)
        | (with_reducible refine Br.ff ?_)
        | (refine Br.dT ?_ ?_; omega)
        | (refine Br.dF ?_ ?_; omega)
        | (refine Br.d (fun h => ?_) (fun h => ?_))
        | (refine Br.swap ?_)
        | (refine Br.bnot ?_)
        | (refine Br.mk (fun h => Step.out ?_) (fun h => Step.out ?_))
        | (refine Two.mk (Step.out ?_) (Step.out ?_))
        | (refine Cp.mk fun q hq => Step.out ?_)
        | (refine Ovl.mk (by assumption) (Step.out ?_))
        | (refine CallOK.of_ct (Step.out ?_))
        | (refine CallQ.of_ct (Step.out ?_))
        | (refine Vc.mk ?_ (Step.out ?_))
    · intro i ⟨h1, h2⟩
      repeat' first
        | (refine Step.mk ?_; conv => whnf)
        | (refine Vc.om ?_ ?_; first | omega | with_reducible rfl | with_reducible exact same_rfl | (simp only [bytes_2, bytes_3, bytes_4, bytes_5, bytes_9, bytes_12, bytes_21, bytes_22, bytes_25, bytes_27, bytes_28, bytes_30, bytes_32, bytes_33, bytes_36, bytes_37, bytes_38, bytes_39, bytes_41, bytes_42, bytes_43, bytes_44, bytes_45, bytes_46, bytes_52, bytes_56, bytes_58, bytes_60, bytes_67, bytes_68, bytes_69, bytes_70, bytes_71, bytes_72, bytes_73, bytes_74, bytes_75, bytes_76, bytes_77, bytes_81, bytes_84, bytes_85, bytes_87, bytes_95, bytes_96, bytes_111, bytes_115, true_and, and_true] <;> omega))
        | (refine NilB.mk fun b hb => Step.out ?_)
        | with_reducible trivial
        | exact noSh_bool _
        | exact noSh_lit _
        | exact noSh_int _ _
        | exact noSh_str _
        | with_reducible rfl
        | with_reducible exact same_rfl
        | (refine Wr.i64 ?_ ?_; omega)
        | (refine Wr.u8 ?_ ?_; omega)
        | (refine Wr.i32 ?_ ?_; omega)
        | (with_reducible refine Br.tt ?_)
        | (with_reducible refine Br.ff ?_)
        | (refine Br.dT ?_ ?_; omega)
        | (refine Br.dF ?_ ?_; omega)
        | (refine Br.d (fun h => ?_) (fun h => ?_))
        | (refine Br.swap ?_)
        | (refine Br.bnot ?_)
        | (refine Br.mk (fun h => Step.out ?_) (fun h => Step.out ?_))
        | (refine Two.mk (Step.out ?_) (Step.out ?_))
        | (refine Cp.mk fun q hq => Step.out ?_)
        | (refine Ovl.mk (by assumption) (Step.out ?_))
        | (refine CallOK.of_ct (Step.out ?_))
        | (refine CallQ.of_ct (Step.out ?_))
        | (refine Vc.mk ?_ (Step.out ?_))
      all_goals try simp only [Int.toNat_natCast] at *
      · refine Again.by (i + 1) ⟨⟨by omega, ?_⟩, by omega⟩ ?_
        · rw [take_step a Cd.z i (by omega), take_step b Cd.z i (by omega), h2, cd_ext h]
        · repeat' first
            | (refine Step.mk ?_; conv => whnf)
            | (refine Vc.om ?_ ?_; first | omega | with_reducible rfl | with_reducible exact same_rfl | (simp only [bytes_2, bytes_3, bytes_4, bytes_5, bytes_9, bytes_12, bytes_21, bytes_22, bytes_25, bytes_27, bytes_28, bytes_30, bytes_32, bytes_33, bytes_36, bytes_37, bytes_38, bytes_39, bytes_41, bytes_42, bytes_43, bytes_44, bytes_45, bytes_46, bytes_52, bytes_56, bytes_58, bytes_60, bytes_67, bytes_68, bytes_69, bytes_70, bytes_71, bytes_72, bytes_73, bytes_74, bytes_75, bytes_76, bytes_77, bytes_81, bytes_84, bytes_85, bytes_87, bytes_95, bytes_96, bytes_111, bytes_115, true_and, and_true] <;> omega))
            | (refine NilB.mk fun b hb => Step.out ?_)
            | with_reducible trivial
            | exact noSh_bool _
            | exact noSh_lit _
            | exact noSh_int _ _
            | exact noSh_str _
            | with_reducible rfl
            | with_reducible exact same_rfl
            | (refine Wr.i64 ?_ ?_; omega)
            | (refine Wr.u8 ?_ ?_; omega)
            | (refine Wr.i32 ?_ ?_; omega)
            | (with_reducible refine Br.tt ?_)
            | (with_reducible refine Br.ff ?_)
            | (refine Br.dT ?_ ?_; omega)
            | (refine Br.dF ?_ ?_; omega)
            | (refine Br.d (fun h => ?_) (fun h => ?_))
            | (refine Br.swap ?_)
            | (refine Br.bnot ?_)
            | (refine Br.mk (fun h => Step.out ?_) (fun h => Step.out ?_))
            | (refine Two.mk (Step.out ?_) (Step.out ?_))
            | (refine Cp.mk fun q hq => Step.out ?_)
            | (refine Ovl.mk (by assumption) (Step.out ?_))
            | (refine CallOK.of_ct (Step.out ?_))
            | (refine CallQ.of_ct (Step.out ?_))
            | (refine Vc.mk ?_ (Step.out ?_))
      · symm
        refine decide_eq_false fun e => ?_
        subst e
        simp at h
      · symm
        refine decide_eq_true ?_
        rw [List.take_of_length_le (by omega), List.take_of_length_le (by omega)] at h2
        exact h2
  · symm
    refine decide_eq_false fun e => ?_
    subst e
    exact h rfl
theorem sameD_ct (a b : List De) (ha : a.length ≤ 1000000) : Ct Try.prog 35 [des a, des b] fun q outs => q = .bool (decide (a = b)) ∧ outs = [] := by
  refine .det (.of_W (fn := Try.f35) hΓ hm Try.func35 ord35 [] (by kernel_rfl) (Step.out ?_))
  repeat' first
    | (refine Step.mk ?_; conv => whnf)
    | (refine Vc.om ?_ ?_; first | omega | with_reducible rfl | with_reducible exact same_rfl | (simp only [bytes_2, bytes_3, bytes_4, bytes_5, bytes_9, bytes_12, bytes_21, bytes_22, bytes_25, bytes_27, bytes_28, bytes_30, bytes_32, bytes_33, bytes_36, bytes_37, bytes_38, bytes_39, bytes_41, bytes_42, bytes_43, bytes_44, bytes_45, bytes_46, bytes_52, bytes_56, bytes_58, bytes_60, bytes_67, bytes_68, bytes_69, bytes_70, bytes_71, bytes_72, bytes_73, bytes_74, bytes_75, bytes_76, bytes_77, bytes_81, bytes_84, bytes_85, bytes_87, bytes_95, bytes_96, bytes_111, bytes_115, true_and, and_true] <;> omega))
    | (refine NilB.mk fun b hb => Step.out ?_)
    | with_reducible trivial
    | exact noSh_bool _
    | exact noSh_lit _
    | exact noSh_int _ _
    | exact noSh_str _
    | with_reducible rfl
    | with_reducible exact same_rfl
    | (refine Wr.i64 ?_ ?_; omega)
    | (refine Wr.u8 ?_ ?_; omega)
    | (refine Wr.i32 ?_ ?_; omega)
    | (with_reducible refine Br.tt ?_)
    | (with_reducible refine Br.ff ?_)
    | (refine Br.dT ?_ ?_; omega)
    | (refine Br.dF ?_ ?_; omega)
    | (refine Br.d (fun h => ?_) (fun h => ?_))
    | (refine Br.swap ?_)
    | (refine Br.bnot ?_)
    | (refine Br.mk (fun h => Step.out ?_) (fun h => Step.out ?_))
    | (refine Two.mk (Step.out ?_) (Step.out ?_))
    | (refine Cp.mk fun q hq => Step.out ?_)
    | (refine Ovl.mk (by assumption) (Step.out ?_))
    | (refine CallOK.of_ct (Step.out ?_))
    | (refine CallQ.of_ct (Step.out ?_))
    | (refine Vc.mk ?_ (Step.out ?_))
  · refine CodeOK.loopW hΓ hm ord35 [] (by kernel_rfl) (α := Nat) (fun i => [(0, des a), (1, des b), (5, i64 i)]) (fun i => []) 0 (fun i => i ≤ a.length ∧ a.take i = b.take i) (fun i => a.length - i) ?_ ?_
    · refine Again.by 0 ⟨Nat.zero_le _, rfl⟩ ?_
      repeat' first
        | (refine Step.mk ?_; conv => whnf)
        | (refine Vc.om ?_ ?_; first | omega | with_reducible rfl | with_reducible exact same_rfl | (simp only [bytes_2, bytes_3, bytes_4, bytes_5, bytes_9, bytes_12, bytes_21, bytes_22, bytes_25, bytes_27, bytes_28, bytes_30, bytes_32, bytes_33, bytes_36, bytes_37, bytes_38, bytes_39, bytes_41, bytes_42, bytes_43, bytes_44, bytes_45, bytes_46, bytes_52, bytes_56, bytes_58, bytes_60, bytes_67, bytes_68, bytes_69, bytes_70, bytes_71, bytes_72, bytes_73, bytes_74, bytes_75, bytes_76, bytes_77, bytes_81, bytes_84, bytes_85, bytes_87, bytes_95, bytes_96, bytes_111, bytes_115, true_and, and_true] <;> omega))
        | (refine NilB.mk fun b hb => Step.out ?_)
        | with_reducible trivial
        | exact noSh_bool _
        | exact noSh_lit _
        | exact noSh_int _ _
        | exact noSh_str _
        | with_reducible rfl
        | with_reducible exact same_rfl
        | (refine Wr.i64 ?_ ?_; omega)
        | (refine Wr.u8 ?_ ?_; omega)
        | (refine Wr.i32 ?_ ?_; omega)
        | (with_reducible refine Br.tt ?_)
        | (with_reducible refine Br.ff ?_)
        | (refine Br.dT ?_ ?_; omega)
        | (refine Br.dF ?_ ?_; omega)
        | (refine Br.d (fun h => ?_) (fun h => ?_))
        | (refine Br.swap ?_)
        | (refine Br.bnot ?_)
        | (refine Br.mk (fun h => Step.out ?_) (fun h => Step.out ?_))
        | (refine Two.mk (Step.out ?_) (Step.out ?_))
        | (refine Cp.mk fun q hq => Step.out ?_)
        | (refine Ovl.mk (by assumption) (Step.out ?_))
        | (refine CallOK.of_ct (Step.out ?_))
        | (refine CallQ.of_ct (Step.out ?_))
        | (refine Vc.mk ?_ (Step.out ?_))
    · intro i ⟨h1, h2⟩
      repeat' first
        | (refine Step.mk ?_; conv => whnf)
        | (refine Vc.om ?_ ?_; first | omega | with_reducible rfl | with_reducible exact same_rfl | (simp only [bytes_2, bytes_3, bytes_4, bytes_5, bytes_9, bytes_12, bytes_21, bytes_22, bytes_25, bytes_27, bytes_28, bytes_30, bytes_32, bytes_33, bytes_36, bytes_37, bytes_38, bytes_39, bytes_41, bytes_42, bytes_43, bytes_44, bytes_45, bytes_46, bytes_52, bytes_56, bytes_58, bytes_60, bytes_67, bytes_68, bytes_69, bytes_70, bytes_71, bytes_72, bytes_73, bytes_74, bytes_75, bytes_76, bytes_77, bytes_81, bytes_84, bytes_85, bytes_87, bytes_95, bytes_96, bytes_111, bytes_115, true_and, and_true] <;> omega))
        | (refine NilB.mk fun b hb => Step.out ?_)
        | with_reducible trivial
        | exact noSh_bool _
        | exact noSh_lit _
        | exact noSh_int _ _
        | exact noSh_str _
        | with_reducible rfl
        | with_reducible exact same_rfl
        | (refine Wr.i64 ?_ ?_; omega)
        | (refine Wr.u8 ?_ ?_; omega)
        | (refine Wr.i32 ?_ ?_; omega)
        | (with_reducible refine Br.tt ?_)
        | (with_reducible refine Br.ff ?_)
        | (refine Br.dT ?_ ?_; omega)
        | (refine Br.dF ?_ ?_; omega)
        | (refine Br.d (fun h => ?_) (fun h => ?_))
        | (refine Br.swap ?_)
        | (refine Br.bnot ?_)
        | (refine Br.mk (fun h => Step.out ?_) (fun h => Step.out ?_))
        | (refine Two.mk (Step.out ?_) (Step.out ?_))
        | (refine Cp.mk fun q hq => Step.out ?_)
        | (refine Ovl.mk (by assumption) (Step.out ?_))
        | (refine CallOK.of_ct (Step.out ?_))
        | (refine CallQ.of_ct (Step.out ?_))
        | (refine Vc.mk ?_ (Step.out ?_))
      all_goals try simp only [Int.toNat_natCast] at *
      · refine Again.by (i + 1) ⟨⟨by omega, ?_⟩, by omega⟩ ?_
        · rw [take_step a De.z i (by omega), take_step b De.z i (by omega), h2, de_ext h]
        · repeat' first
            | (refine Step.mk ?_; conv => whnf)
            | (refine Vc.om ?_ ?_; first | omega | with_reducible rfl | with_reducible exact same_rfl | (simp only [bytes_2, bytes_3, bytes_4, bytes_5, bytes_9, bytes_12, bytes_21, bytes_22, bytes_25, bytes_27, bytes_28, bytes_30, bytes_32, bytes_33, bytes_36, bytes_37, bytes_38, bytes_39, bytes_41, bytes_42, bytes_43, bytes_44, bytes_45, bytes_46, bytes_52, bytes_56, bytes_58, bytes_60, bytes_67, bytes_68, bytes_69, bytes_70, bytes_71, bytes_72, bytes_73, bytes_74, bytes_75, bytes_76, bytes_77, bytes_81, bytes_84, bytes_85, bytes_87, bytes_95, bytes_96, bytes_111, bytes_115, true_and, and_true] <;> omega))
            | (refine NilB.mk fun b hb => Step.out ?_)
            | with_reducible trivial
            | exact noSh_bool _
            | exact noSh_lit _
            | exact noSh_int _ _
            | exact noSh_str _
            | with_reducible rfl
            | with_reducible exact same_rfl
            | (refine Wr.i64 ?_ ?_; omega)
            | (refine Wr.u8 ?_ ?_; omega)
            | (refine Wr.i32 ?_ ?_; omega)
            | (with_reducible refine Br.tt ?_)
            | (with_reducible refine Br.ff ?_)
            | (refine Br.dT ?_ ?_; omega)
            | (refine Br.dF ?_ ?_; omega)
            | (refine Br.d (fun h => ?_) (fun h => ?_))
            | (refine Br.swap ?_)
            | (refine Br.bnot ?_)
            | (refine Br.mk (fun h => Step.out ?_) (fun h => Step.out ?_))
            | (refine Two.mk (Step.out ?_) (Step.out ?_))
            | (refine Cp.mk fun q hq => Step.out ?_)
            | (refine Ovl.mk (by assumption) (Step.out ?_))
            | (refine CallOK.of_ct (Step.out ?_))
            | (refine CallQ.of_ct (Step.out ?_))
            | (refine Vc.mk ?_ (Step.out ?_))
      · symm
        refine decide_eq_false fun e => ?_
        subst e
        simp at h
      · symm
        refine decide_eq_true ?_
        rw [List.take_of_length_le (by omega), List.take_of_length_le (by omega)] at h2
        exact h2
  · symm
    refine decide_eq_false fun e => ?_
    subst e
    exact h rfl
end Kx
