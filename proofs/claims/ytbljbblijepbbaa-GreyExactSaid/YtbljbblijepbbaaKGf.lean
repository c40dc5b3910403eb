/-
  The deck's thresholds, bonds, candidates.
  No condition beyond those written in each theorem.
-/
import Derived.Test.YtbljbblijepbbaaKGe
open Go Sx Go.Proofs
set_option linter.unusedSimpArgs false
set_option linter.unusedVariables false
namespace Kx
theorem one_ct (d : Dk) (n : Int) : Ct Try.prog 43 [d.b, i64 n] fun r outs => ∃ x d', True ∧ r = .bool x ∧ outs = [Dk.b d'] := by
  refine .some2 (.of_W (fn := Try.f43) hΓ hm Try.func43 [] [] (by kernel_rfl) (Step.out ?_))
  repeat' first
    | (refine Step.mk ?_; conv => whnf)
    | (refine Vc.om ?_ ?_; first | omega | with_reducible rfl | with_reducible exact same_rfl | (simp only [bytes_2, bytes_3, bytes_4, bytes_5, bytes_9, bytes_12, bytes_21, bytes_22, bytes_25, bytes_27, bytes_28, bytes_30, bytes_32, bytes_33, bytes_36, bytes_37, bytes_38, bytes_39, bytes_41, bytes_42, bytes_43, bytes_44, bytes_45, bytes_46, bytes_52, bytes_56, bytes_58, bytes_60, bytes_67, bytes_68, bytes_69, bytes_70, bytes_71, bytes_72, bytes_73, bytes_74, bytes_75, bytes_76, bytes_77, bytes_81, bytes_84, bytes_85, bytes_87, bytes_95, bytes_96, bytes_111, bytes_115, true_and, and_true] <;> omega))
    | (refine NilB.mk fun b hb => Step.out ?_)
    | with_reducible trivial
    | exact noSh_bool _
    | exact noSh_lit _
    | exact noSh_int _ _
    | exact noSh_str _
    | with_reducible rfl
    | with_reducible exact same_rfl
    | (refine Wr.i64 ?_ ?_; omega)
    | (refine Wr.u8 ?_ ?_; omega)
    | (refine Wr.i32 ?_ ?_; omega)
    | (with_reducible refine Br.tt ?_)
    | (with_reducible refine Br.ff ?_)
    | (refine Br.dT ?_ ?_; omega)
    | (refine Br.dF ?_ ?_; omega)
    | (refine Br.d (fun h => ?_) (fun h => ?_))
    | (refine Br.swap ?_)
    | (refine Br.bnot ?_)
    | (refine Br.mk (fun h => Step.out ?_) (fun h => Step.out ?_))
    | (refine Two.mk (Step.out ?_) (Step.out ?_))
    | (refine Cp.mk fun q hq => Step.out ?_)
    | (refine Ovl.mk (by assumption) (Step.out ?_))
    | (refine CallOK.io1 (g := 14) (Step.out ?_))
    | (refine CallOK.of_ct (Step.out ?_))
    | (refine CallQ.of_ct (Step.out ?_))
    | (refine Met.by (g := 14) (next_ct _ _) ?_; rintro q outs ⟨x, d, hx, rfl, rfl⟩)
    | (refine Vc.mk ?_ (Step.out ?_))
  refine Lf2.by (decide (x = 0)) d trivial ?_
  repeat' first
    | (refine Step.mk ?_; conv => whnf)
    | (refine Vc.om ?_ ?_; first | omega | with_reducible rfl | with_reducible exact same_rfl | (simp only [bytes_2, bytes_3, bytes_4, bytes_5, bytes_9, bytes_12, bytes_21, bytes_22, bytes_25, bytes_27, bytes_28, bytes_30, bytes_32, bytes_33, bytes_36, bytes_37, bytes_38, bytes_39, bytes_41, bytes_42, bytes_43, bytes_44, bytes_45, bytes_46, bytes_52, bytes_56, bytes_58, bytes_60, bytes_67, bytes_68, bytes_69, bytes_70, bytes_71, bytes_72, bytes_73, bytes_74, bytes_75, bytes_76, bytes_77, bytes_81, bytes_84, bytes_85, bytes_87, bytes_95, bytes_96, bytes_111, bytes_115, true_and, and_true] <;> omega))
    | (refine NilB.mk fun b hb => Step.out ?_)
    | with_reducible trivial
    | exact noSh_bool _
    | exact noSh_lit _
    | exact noSh_int _ _
    | exact noSh_str _
    | with_reducible rfl
    | with_reducible exact same_rfl
    | (refine Wr.i64 ?_ ?_; omega)
    | (refine Wr.u8 ?_ ?_; omega)
    | (refine Wr.i32 ?_ ?_; omega)
    | (with_reducible refine Br.tt ?_)
    | (with_reducible refine Br.ff ?_)
    | (refine Br.dT ?_ ?_; omega)
    | (refine Br.dF ?_ ?_; omega)
    | (refine Br.d (fun h => ?_) (fun h => ?_))
    | (refine Br.swap ?_)
    | (refine Br.bnot ?_)
    | (refine Br.mk (fun h => Step.out ?_) (fun h => Step.out ?_))
    | (refine Two.mk (Step.out ?_) (Step.out ?_))
    | (refine Cp.mk fun q hq => Step.out ?_)
    | (refine Ovl.mk (by assumption) (Step.out ?_))
    | (refine CallOK.io1 (g := 14) (Step.out ?_))
    | (refine CallOK.of_ct (Step.out ?_))
    | (refine CallQ.of_ct (Step.out ?_))
    | (refine Met.by (g := 14) (next_ct _ _) ?_; rintro q outs ⟨x, d, hx, rfl, rfl⟩)
    | (refine Vc.mk ?_ (Step.out ?_))
theorem range_ct (d : Dk) (a b : Int) (h : -1000 ≤ a ∧ a ≤ b ∧ b ≤ 1000) : Ct Try.prog 39 [d.b, i64 a, i64 b] fun r outs => ∃ x d', (a ≤ x ∧ x ≤ b) ∧ r = i64 x ∧ outs = [Dk.b d'] := by
  refine .some2 (.of_W (fn := Try.f39) hΓ hm Try.func39 [] [] (by kernel_rfl) (Step.out ?_))
  repeat' first
    | (refine Step.mk ?_; conv => whnf)
    | (refine Vc.om ?_ ?_; first | omega | with_reducible rfl | with_reducible exact same_rfl | (simp only [bytes_2, bytes_3, bytes_4, bytes_5, bytes_9, bytes_12, bytes_21, bytes_22, bytes_25, bytes_27, bytes_28, bytes_30, bytes_32, bytes_33, bytes_36, bytes_37, bytes_38, bytes_39, bytes_41, bytes_42, bytes_43, bytes_44, bytes_45, bytes_46, bytes_52, bytes_56, bytes_58, bytes_60, bytes_67, bytes_68, bytes_69, bytes_70, bytes_71, bytes_72, bytes_73, bytes_74, bytes_75, bytes_76, bytes_77, bytes_81, bytes_84, bytes_85, bytes_87, bytes_95, bytes_96, bytes_111, bytes_115, true_and, and_true] <;> omega))
    | (refine NilB.mk fun b hb => Step.out ?_)
    | with_reducible trivial
    | exact noSh_bool _
    | exact noSh_lit _
    | exact noSh_int _ _
    | exact noSh_str _
    | with_reducible rfl
    | with_reducible exact same_rfl
    | (refine Wr.i64 ?_ ?_; omega)
    | (refine Wr.u8 ?_ ?_; omega)
    | (refine Wr.i32 ?_ ?_; omega)
    | (with_reducible refine Br.tt ?_)
    | (with_reducible refine Br.ff ?_)
    | (refine Br.dT ?_ ?_; omega)
    | (refine Br.dF ?_ ?_; omega)
    | (refine Br.d (fun h => ?_) (fun h => ?_))
    | (refine Br.swap ?_)
    | (refine Br.bnot ?_)
    | (refine Br.mk (fun h => Step.out ?_) (fun h => Step.out ?_))
    | (refine Two.mk (Step.out ?_) (Step.out ?_))
    | (refine Cp.mk fun q hq => Step.out ?_)
    | (refine Ovl.mk (by assumption) (Step.out ?_))
    | (refine CallOK.io1 (g := 14) (Step.out ?_))
    | (refine CallOK.of_ct (Step.out ?_))
    | (refine CallQ.of_ct (Step.out ?_))
    | (refine Met.by (g := 14) (next_ct _ _) ?_; rintro q outs ⟨x, d, hx, rfl, rfl⟩)
    | (refine Vc.mk ?_ (Step.out ?_))
  refine Lf2.by (a + x) d (by omega) ?_
  repeat' first
    | (refine Step.mk ?_; conv => whnf)
    | (refine Vc.om ?_ ?_; first | omega | with_reducible rfl | with_reducible exact same_rfl | (simp only [bytes_2, bytes_3, bytes_4, bytes_5, bytes_9, bytes_12, bytes_21, bytes_22, bytes_25, bytes_27, bytes_28, bytes_30, bytes_32, bytes_33, bytes_36, bytes_37, bytes_38, bytes_39, bytes_41, bytes_42, bytes_43, bytes_44, bytes_45, bytes_46, bytes_52, bytes_56, bytes_58, bytes_60, bytes_67, bytes_68, bytes_69, bytes_70, bytes_71, bytes_72, bytes_73, bytes_74, bytes_75, bytes_76, bytes_77, bytes_81, bytes_84, bytes_85, bytes_87, bytes_95, bytes_96, bytes_111, bytes_115, true_and, and_true] <;> omega))
    | (refine NilB.mk fun b hb => Step.out ?_)
    | with_reducible trivial
    | exact noSh_bool _
    | exact noSh_lit _
    | exact noSh_int _ _
    | exact noSh_str _
    | with_reducible rfl
    | with_reducible exact same_rfl
    | (refine Wr.i64 ?_ ?_; omega)
    | (refine Wr.u8 ?_ ?_; omega)
    | (refine Wr.i32 ?_ ?_; omega)
    | (with_reducible refine Br.tt ?_)
    | (with_reducible refine Br.ff ?_)
    | (refine Br.dT ?_ ?_; omega)
    | (refine Br.dF ?_ ?_; omega)
    | (refine Br.d (fun h => ?_) (fun h => ?_))
    | (refine Br.swap ?_)
    | (refine Br.bnot ?_)
    | (refine Br.mk (fun h => Step.out ?_) (fun h => Step.out ?_))
    | (refine Two.mk (Step.out ?_) (Step.out ?_))
    | (refine Cp.mk fun q hq => Step.out ?_)
    | (refine Ovl.mk (by assumption) (Step.out ?_))
    | (refine CallOK.io1 (g := 14) (Step.out ?_))
    | (refine CallOK.of_ct (Step.out ?_))
    | (refine CallQ.of_ct (Step.out ?_))
    | (refine Met.by (g := 14) (next_ct _ _) ?_; rintro q outs ⟨x, d, hx, rfl, rfl⟩)
    | (refine Vc.mk ?_ (Step.out ?_))
theorem thresholds_ct (d : Dk) : Ct Try.prog 11 [d.b] fun r outs => ∃ (t : Th) (d' : Dk), (1 ≤ t.hi ∧ t.hi ≤ 60 ∧ t.lo ≤ t.hi ∧ t.hi - 59 ≤ t.lo) ∧ r = t.d ∧ outs = [Dk.b d'] := by
  refine .some2 (.of_W (fn := Try.f11) hΓ hm Try.func11 ord11 [] (by kernel_rfl) (Step.out ?_))
  repeat' first
    | (refine Step.mk ?_; conv => whnf)
    | (refine Vc.om ?_ ?_; first | omega | with_reducible rfl | with_reducible exact same_rfl | (simp only [bytes_2, bytes_3, bytes_4, bytes_5, bytes_9, bytes_12, bytes_21, bytes_22, bytes_25, bytes_27, bytes_28, bytes_30, bytes_32, bytes_33, bytes_36, bytes_37, bytes_38, bytes_39, bytes_41, bytes_42, bytes_43, bytes_44, bytes_45, bytes_46, bytes_52, bytes_56, bytes_58, bytes_60, bytes_67, bytes_68, bytes_69, bytes_70, bytes_71, bytes_72, bytes_73, bytes_74, bytes_75, bytes_76, bytes_77, bytes_81, bytes_84, bytes_85, bytes_87, bytes_95, bytes_96, bytes_111, bytes_115, true_and, and_true] <;> omega))
    | (refine NilB.mk fun b hb => Step.out ?_)
    | with_reducible trivial
    | exact noSh_bool _
    | exact noSh_lit _
    | exact noSh_int _ _
    | exact noSh_str _
    | with_reducible rfl
    | with_reducible exact same_rfl
    | (refine Wr.i64 ?_ ?_; omega)
    | (refine Wr.u8 ?_ ?_; omega)
    | (refine Wr.i32 ?_ ?_; omega)
    | (with_reducible refine Br.tt ?_)
    | (with_reducible refine Br.ff ?_)
    | (refine Br.dT ?_ ?_; omega)
    | (refine Br.dF ?_ ?_; omega)
    | (refine Br.d (fun h => ?_) (fun h => ?_))
    | (refine Br.swap ?_)
    | (refine Br.bnot ?_)
    | (refine Br.mk (fun h => Step.out ?_) (fun h => Step.out ?_))
    | (refine Two.mk (Step.out ?_) (Step.out ?_))
    | (refine Cp.mk fun q hq => Step.out ?_)
    | (refine Ovl.mk (by assumption) (Step.out ?_))
    | (refine CallOK.io1 (g := 14) (Step.out ?_))
    | (refine CallOK.of_ct (Step.out ?_))
    | (refine CallQ.of_ct (Step.out ?_))
    | (refine Met.by (g := 14) (next_ct _ _) ?_; rintro q outs ⟨x, d, hx, rfl, rfl⟩)
    | (refine Vc.mk ?_ (Step.out ?_))
  all_goals
    rename_i d1 x0 d2 hx0
    refine Lf2.by ⟨1 + x0 - x, 1 + x0⟩ d (by dsimp only; omega) ?_
    repeat' first
      | (refine Step.mk ?_; conv => whnf)
      | (refine Vc.om ?_ ?_; first | omega | with_reducible rfl | with_reducible exact same_rfl | (simp only [bytes_2, bytes_3, bytes_4, bytes_5, bytes_9, bytes_12, bytes_21, bytes_22, bytes_25, bytes_27, bytes_28, bytes_30, bytes_32, bytes_33, bytes_36, bytes_37, bytes_38, bytes_39, bytes_41, bytes_42, bytes_43, bytes_44, bytes_45, bytes_46, bytes_52, bytes_56, bytes_58, bytes_60, bytes_67, bytes_68, bytes_69, bytes_70, bytes_71, bytes_72, bytes_73, bytes_74, bytes_75, bytes_76, bytes_77, bytes_81, bytes_84, bytes_85, bytes_87, bytes_95, bytes_96, bytes_111, bytes_115, true_and, and_true] <;> omega))
      | (refine NilB.mk fun b hb => Step.out ?_)
      | with_reducible trivial
      | exact noSh_bool _
      | exact noSh_lit _
      | exact noSh_int _ _
      | exact noSh_str _
      | with_reducible rfl
      | with_reducible exact same_rfl
      | (refine Wr.i64 ?_ ?_; omega)
      | (refine Wr.u8 ?_ ?_; omega)
      | (refine Wr.i32 ?_ ?_; omega)
      | (with_reducible refine Br.tt ?_)
      | (with_reducible refine Br.ff ?_)
      | (refine Br.dT ?_ ?_; omega)
      | (refine Br.dF ?_ ?_; omega)
      | (refine Br.d (fun h => ?_) (fun h => ?_))
      | (refine Br.swap ?_)
      | (refine Br.bnot ?_)
      | (refine Br.mk (fun h => Step.out ?_) (fun h => Step.out ?_))
      | (refine Two.mk (Step.out ?_) (Step.out ?_))
      | (refine Cp.mk fun q hq => Step.out ?_)
      | (refine Ovl.mk (by assumption) (Step.out ?_))
      | (refine CallOK.io1 (g := 14) (Step.out ?_))
      | (refine CallOK.of_ct (Step.out ?_))
      | (refine CallQ.of_ct (Step.out ?_))
      | (refine Met.by (g := 14) (next_ct _ _) ?_; rintro q outs ⟨x, d, hx, rfl, rfl⟩)
      | (refine Vc.mk ?_ (Step.out ?_))
/-! ### Lists dealt in order -/
/-- A couple before a place. -/
def ltP (a b : Rf) (r i s k : Int) : Prop := a.g < r ∨ (a.g = r ∧ (a.i < i ∨ (a.i = i ∧ (b.g < s ∨ (b.g = s ∧ b.i < k)))))
theorem ltP_cmp {a b : Rf} {r i s k : Int} (h : ltP a b r i s k) : cmpC a b ⟨r, i⟩ ⟨s, k⟩ < 0 := by
  unfold ltP at h
  simp only [cmpC, cmpR, cmpI]
  (repeat' split) <;> omega
theorem ltP_mono {a b : Rf} {r i s k r' i' s' k' : Int} (h : ltP a b r i s k) (hl : r < r' ∨ (r = r' ∧ (i < i' ∨ (i = i' ∧ (s < s' ∨ (s = s' ∧ k ≤ k')))))) : ltP a b r' i' s' k' := by
  unfold ltP at h ⊢; omega
/-- A list dealt as far as a place. -/
structure Up {α : Type} (A B : α → Rf) (lt : α → α → Prop) (q : α → Prop) (m : Int) (r i s k : Int) (l : List α) : Prop where
  p : l.Pairwise lt
  b : ∀ x ∈ l, ltP (A x) (B x) r i s k
  q : ∀ x ∈ l, q x
  n : (l.length : Int) ≤ m * (r * 216 + i * 36 + s * 6 + k)
theorem Up.mono {α : Type} {A B : α → Rf} {lt : α → α → Prop} {q : α → Prop} {m r i s k r' i' s' k' : Int} {l : List α} (h : Up A B lt q m r i s k l) (hm : 0 ≤ m) (hl : r < r' ∨ (r = r' ∧ (i < i' ∨ (i = i' ∧ (s < s' ∨ (s = s' ∧ k ≤ k'))))))
    (hn : r * 216 + i * 36 + s * 6 + k ≤ r' * 216 + i' * 36 + s' * 6 + k') : Up A B lt q m r' i' s' k' l :=
  ⟨h.p, fun x hx => ltP_mono (h.b x hx) hl, h.q, Int.le_trans h.n (Int.mul_le_mul_of_nonneg_left hn hm)⟩
theorem Up.push {α : Type} {A B : α → Rf} {lt : α → α → Prop} {q : α → Prop} {m r i s k : Int} {l : List α} (h : Up A B lt q m r i s k l) (y : α) (hm : 1 ≤ m) (hA : A y = ⟨r, i⟩) (hB : B y = ⟨s, k⟩) (hq : q y) (hlt : ∀ x, ltP (A x) (B x) r i s k → lt x y) : Up A B lt q m r i s (k + 1) (l ++ [y]) := by
  refine ⟨List.pairwise_append.2 ⟨h.p, by simp, fun x hx z hz => ?_⟩, fun x hx => ?_, fun x hx => ?_, ?_⟩
  · rw [List.mem_singleton.1 hz]; exact hlt x (h.b x hx)
  · rcases List.mem_append.1 hx with hx | hx
    · exact ltP_mono (h.b x hx) (by omega)
    · rw [List.mem_singleton.1 hx, hA, hB]; exact .inr ⟨rfl, .inr ⟨rfl, .inr ⟨rfl, Int.lt_succ _⟩⟩⟩
  · rcases List.mem_append.1 hx with hx | hx
    · exact h.q x hx
    · rw [List.mem_singleton.1 hx]; exact hq
  · have := h.n
    have e : m * (r * 216 + i * 36 + s * 6 + (k + 1)) = m * (r * 216 + i * 36 + s * 6 + k) + m := by
      rw [show r * 216 + i * 36 + s * 6 + (k + 1) = (r * 216 + i * 36 + s * 6 + k) + 1 by omega, Int.mul_add, Int.mul_one]
    rw [e, List.length_append]
    simp only [List.length_singleton]
    omega
def bdQ (x : Bd) : Prop := cplB x.a x.b = true
def bdLt (x y : Bd) : Prop := cmpC x.a x.b y.a y.b < 0
def UpB (r i s k : Int) (l : List Bd) : Prop := Up Bd.a Bd.b bdLt bdQ 1 r i s k l
theorem UpB.push {r i s k w : Int} {l : List Bd} (h : UpB r i s k l) (h0 : 0 ≤ r) (h1 : 1 ≤ i ∧ i ≤ 1000) (h2 : r < s ∧ s < 4) (h3 : 1 ≤ k ∧ k ≤ 1000) : UpB r i s (k + 1) (l ++ [⟨⟨r, i⟩, ⟨s, k⟩, w⟩]) :=
  Up.push h _ (by omega) rfl rfl (by simp [bdQ, cplB, refB]; omega) fun x hx => ltP_cmp hx
theorem bonds27_ct (d : Dk) (n m o : Int) (hn : 0 ≤ n ∧ n ≤ 3) (hmm : 0 ≤ m ∧ m ≤ 4) : Ct Try.prog 38 [d.b, i64 n, i64 m, i64 o] fun r outs => ∃ (l : List Bd) (d' : Dk), UpB 3 0 0 0 l ∧ r = bds l ∧ outs = [Dk.b d'] := by
  refine .some2 (.of_W (fn := Try.f38) hΓ hm Try.func38 [] [] (by kernel_rfl) (Step.out ?_))
  repeat' first
    | (refine Step.mk ?_; conv => whnf)
    | (refine Vc.om ?_ ?_; first | omega | with_reducible rfl | with_reducible exact same_rfl | (simp only [bytes_2, bytes_3, bytes_4, bytes_5, bytes_9, bytes_12, bytes_21, bytes_22, bytes_25, bytes_27, bytes_28, bytes_30, bytes_32, bytes_33, bytes_36, bytes_37, bytes_38, bytes_39, bytes_41, bytes_42, bytes_43, bytes_44, bytes_45, bytes_46, bytes_52, bytes_56, bytes_58, bytes_60, bytes_67, bytes_68, bytes_69, bytes_70, bytes_71, bytes_72, bytes_73, bytes_74, bytes_75, bytes_76, bytes_77, bytes_81, bytes_84, bytes_85, bytes_87, bytes_95, bytes_96, bytes_111, bytes_115, true_and, and_true] <;> omega))
    | (refine NilB.mk fun b hb => Step.out ?_)
    | with_reducible trivial
    | exact noSh_bool _
    | exact noSh_lit _
    | exact noSh_int _ _
    | exact noSh_str _
    | with_reducible rfl
    | with_reducible exact same_rfl
    | (refine Wr.i64 ?_ ?_; omega)
    | (refine Wr.u8 ?_ ?_; omega)
    | (refine Wr.i32 ?_ ?_; omega)
    | (with_reducible refine Br.tt ?_)
    | (with_reducible refine Br.ff ?_)
    | (refine Br.dT ?_ ?_; omega)
    | (refine Br.dF ?_ ?_; omega)
    | (refine Br.d (fun h => ?_) (fun h => ?_))
    | (refine Br.swap ?_)
    | (refine Br.bnot ?_)
    | (refine Br.mk (fun h => Step.out ?_) (fun h => Step.out ?_))
    | (refine Two.mk (Step.out ?_) (Step.out ?_))
    | (refine Cp.mk fun q hq => Step.out ?_)
    | (refine Ovl.mk (by assumption) (Step.out ?_))
    | (refine CallOK.io1 (g := 14) (Step.out ?_))
    | (refine CallOK.io1 (g := 43) (Step.out ?_))
    | (refine CallOK.of_ct (Step.out ?_))
    | (refine CallQ.of_ct (Step.out ?_))
    | (refine Met.by (g := 14) (next_ct _ _) ?_; rintro q outs ⟨x, d, hx, rfl, rfl⟩)
    | (refine Met.by (g := 43) (one_ct _ _) ?_; rintro q outs ⟨x, d, hx, rfl, rfl⟩)
    | (refine Vc.mk ?_ (Step.out ?_))
  refine CodeOK.loopW hΓ hm [] [] (by kernel_rfl) (α := Dk × List Bd × Int) (fun z => [(0, .loc 0 0), (1, i64 n), (2, i64 m), (3, i64 o), (9, .own 1), (10, i64 z.2.2)]) (fun z => [(0, .var z.1.ls), (1, .arr 46 5 z.2.1.length fun j => Bd.f (z.2.1.getD j Bd.z))]) 2 (fun z => 0 ≤ z.2.2 ∧ z.2.2 ≤ n ∧ UpB z.2.2 0 0 0 z.2.1) (fun z => (n - z.2.2).toNat) ?_ ?_
  · refine Again.by (d, [], 0) ⟨by dsimp only; omega, by dsimp only; omega, ⟨by simp, by simp, by simp, by simp⟩⟩ ?_
    repeat' first
      | (refine Step.mk ?_; conv => whnf)
      | (refine Vc.om ?_ ?_; first | omega | with_reducible rfl | with_reducible exact same_rfl | (simp only [bytes_2, bytes_3, bytes_4, bytes_5, bytes_9, bytes_12, bytes_21, bytes_22, bytes_25, bytes_27, bytes_28, bytes_30, bytes_32, bytes_33, bytes_36, bytes_37, bytes_38, bytes_39, bytes_41, bytes_42, bytes_43, bytes_44, bytes_45, bytes_46, bytes_52, bytes_56, bytes_58, bytes_60, bytes_67, bytes_68, bytes_69, bytes_70, bytes_71, bytes_72, bytes_73, bytes_74, bytes_75, bytes_76, bytes_77, bytes_81, bytes_84, bytes_85, bytes_87, bytes_95, bytes_96, bytes_111, bytes_115, true_and, and_true] <;> omega))
      | (refine NilB.mk fun b hb => Step.out ?_)
      | with_reducible trivial
      | exact noSh_bool _
      | exact noSh_lit _
      | exact noSh_int _ _
      | exact noSh_str _
      | with_reducible rfl
      | with_reducible exact same_rfl
      | (refine Wr.i64 ?_ ?_; omega)
      | (refine Wr.u8 ?_ ?_; omega)
      | (refine Wr.i32 ?_ ?_; omega)
      | (with_reducible refine Br.tt ?_)
      | (with_reducible refine Br.ff ?_)
      | (refine Br.dT ?_ ?_; omega)
      | (refine Br.dF ?_ ?_; omega)
      | (refine Br.d (fun h => ?_) (fun h => ?_))
      | (refine Br.swap ?_)
      | (refine Br.bnot ?_)
      | (refine Br.mk (fun h => Step.out ?_) (fun h => Step.out ?_))
      | (refine Two.mk (Step.out ?_) (Step.out ?_))
      | (refine Cp.mk fun q hq => Step.out ?_)
      | (refine Ovl.mk (by assumption) (Step.out ?_))
      | (refine CallOK.io1 (g := 14) (Step.out ?_))
      | (refine CallOK.io1 (g := 43) (Step.out ?_))
      | (refine CallOK.of_ct (Step.out ?_))
      | (refine CallQ.of_ct (Step.out ?_))
      | (refine Met.by (g := 14) (next_ct _ _) ?_; rintro q outs ⟨x, d, hx, rfl, rfl⟩)
      | (refine Met.by (g := 43) (one_ct _ _) ?_; rintro q outs ⟨x, d, hx, rfl, rfl⟩)
      | (refine Vc.mk ?_ (Step.out ?_))
    all_goals rfl
  · intro ⟨d, l, r⟩ ⟨h1, h2, h3⟩
    dsimp only at h1 h2 h3 ⊢
    repeat' first
      | (refine Step.mk ?_; conv => whnf)
      | (refine Vc.om ?_ ?_; first | omega | with_reducible rfl | with_reducible exact same_rfl | (simp only [bytes_2, bytes_3, bytes_4, bytes_5, bytes_9, bytes_12, bytes_21, bytes_22, bytes_25, bytes_27, bytes_28, bytes_30, bytes_32, bytes_33, bytes_36, bytes_37, bytes_38, bytes_39, bytes_41, bytes_42, bytes_43, bytes_44, bytes_45, bytes_46, bytes_52, bytes_56, bytes_58, bytes_60, bytes_67, bytes_68, bytes_69, bytes_70, bytes_71, bytes_72, bytes_73, bytes_74, bytes_75, bytes_76, bytes_77, bytes_81, bytes_84, bytes_85, bytes_87, bytes_95, bytes_96, bytes_111, bytes_115, true_and, and_true] <;> omega))
      | (refine NilB.mk fun b hb => Step.out ?_)
      | with_reducible trivial
      | exact noSh_bool _
      | exact noSh_lit _
      | exact noSh_int _ _
      | exact noSh_str _
      | with_reducible rfl
      | with_reducible exact same_rfl
      | (refine Wr.i64 ?_ ?_; omega)
      | (refine Wr.u8 ?_ ?_; omega)
      | (refine Wr.i32 ?_ ?_; omega)
      | (with_reducible refine Br.tt ?_)
      | (with_reducible refine Br.ff ?_)
      | (refine Br.dT ?_ ?_; omega)
      | (refine Br.dF ?_ ?_; omega)
      | (refine Br.d (fun h => ?_) (fun h => ?_))
      | (refine Br.swap ?_)
      | (refine Br.bnot ?_)
      | (refine Br.mk (fun h => Step.out ?_) (fun h => Step.out ?_))
      | (refine Two.mk (Step.out ?_) (Step.out ?_))
      | (refine Cp.mk fun q hq => Step.out ?_)
      | (refine Ovl.mk (by assumption) (Step.out ?_))
      | (refine CallOK.io1 (g := 14) (Step.out ?_))
      | (refine CallOK.io1 (g := 43) (Step.out ?_))
      | (refine CallOK.of_ct (Step.out ?_))
      | (refine CallQ.of_ct (Step.out ?_))
      | (refine Met.by (g := 14) (next_ct _ _) ?_; rintro q outs ⟨x, d, hx, rfl, rfl⟩)
      | (refine Met.by (g := 43) (one_ct _ _) ?_; rintro q outs ⟨x, d, hx, rfl, rfl⟩)
      | (refine Vc.mk ?_ (Step.out ?_))
    · refine CodeOK.loopW hΓ hm [] [] (by kernel_rfl) (α := Dk × List Bd × Int) (fun z => [(0, .loc 0 0), (1, i64 n), (2, i64 m), (3, i64 o), (9, .own 1), (10, i64 r), (11, i64 z.2.2)]) (fun z => [(0, .var z.1.ls), (1, .arr 46 5 z.2.1.length fun j => Bd.f (z.2.1.getD j Bd.z))]) 2 (fun z => 1 ≤ z.2.2 ∧ z.2.2 ≤ m + 1 ∧ UpB r z.2.2 0 0 z.2.1) (fun z => (m + 1 - z.2.2).toNat) ?_ ?_
      · refine Again.by (d, l, 1) ⟨by dsimp only; omega, by dsimp only; omega, h3.mono (by decide) (by dsimp only; omega) (by dsimp only; omega)⟩ ?_
        repeat' first
          | (refine Step.mk ?_; conv => whnf)
          | (refine Vc.om ?_ ?_; first | omega | with_reducible rfl | with_reducible exact same_rfl | (simp only [bytes_2, bytes_3, bytes_4, bytes_5, bytes_9, bytes_12, bytes_21, bytes_22, bytes_25, bytes_27, bytes_28, bytes_30, bytes_32, bytes_33, bytes_36, bytes_37, bytes_38, bytes_39, bytes_41, bytes_42, bytes_43, bytes_44, bytes_45, bytes_46, bytes_52, bytes_56, bytes_58, bytes_60, bytes_67, bytes_68, bytes_69, bytes_70, bytes_71, bytes_72, bytes_73, bytes_74, bytes_75, bytes_76, bytes_77, bytes_81, bytes_84, bytes_85, bytes_87, bytes_95, bytes_96, bytes_111, bytes_115, true_and, and_true] <;> omega))
          | (refine NilB.mk fun b hb => Step.out ?_)
          | with_reducible trivial
          | exact noSh_bool _
          | exact noSh_lit _
          | exact noSh_int _ _
          | exact noSh_str _
          | with_reducible rfl
          | with_reducible exact same_rfl
          | (refine Wr.i64 ?_ ?_; omega)
          | (refine Wr.u8 ?_ ?_; omega)
          | (refine Wr.i32 ?_ ?_; omega)
          | (with_reducible refine Br.tt ?_)
          | (with_reducible refine Br.ff ?_)
          | (refine Br.dT ?_ ?_; omega)
          | (refine Br.dF ?_ ?_; omega)
          | (refine Br.d (fun h => ?_) (fun h => ?_))
          | (refine Br.swap ?_)
          | (refine Br.bnot ?_)
          | (refine Br.mk (fun h => Step.out ?_) (fun h => Step.out ?_))
          | (refine Two.mk (Step.out ?_) (Step.out ?_))
          | (refine Cp.mk fun q hq => Step.out ?_)
          | (refine Ovl.mk (by assumption) (Step.out ?_))
          | (refine CallOK.io1 (g := 14) (Step.out ?_))
          | (refine CallOK.io1 (g := 43) (Step.out ?_))
          | (refine CallOK.of_ct (Step.out ?_))
          | (refine CallQ.of_ct (Step.out ?_))
          | (refine Met.by (g := 14) (next_ct _ _) ?_; rintro q outs ⟨x, d, hx, rfl, rfl⟩)
          | (refine Met.by (g := 43) (one_ct _ _) ?_; rintro q outs ⟨x, d, hx, rfl, rfl⟩)
          | (refine Vc.mk ?_ (Step.out ?_))
        all_goals exact ⟨rfl, fun _ _ => rfl⟩
      · intro ⟨d, l, i⟩ ⟨h4, h5, h6⟩
        dsimp only at h4 h5 h6 ⊢
        repeat' first
          | (refine Step.mk ?_; conv => whnf)
          | (refine Vc.om ?_ ?_; first | omega | with_reducible rfl | with_reducible exact same_rfl | (simp only [bytes_2, bytes_3, bytes_4, bytes_5, bytes_9, bytes_12, bytes_21, bytes_22, bytes_25, bytes_27, bytes_28, bytes_30, bytes_32, bytes_33, bytes_36, bytes_37, bytes_38, bytes_39, bytes_41, bytes_42, bytes_43, bytes_44, bytes_45, bytes_46, bytes_52, bytes_56, bytes_58, bytes_60, bytes_67, bytes_68, bytes_69, bytes_70, bytes_71, bytes_72, bytes_73, bytes_74, bytes_75, bytes_76, bytes_77, bytes_81, bytes_84, bytes_85, bytes_87, bytes_95, bytes_96, bytes_111, bytes_115, true_and, and_true] <;> omega))
          | (refine NilB.mk fun b hb => Step.out ?_)
          | with_reducible trivial
          | exact noSh_bool _
          | exact noSh_lit _
          | exact noSh_int _ _
          | exact noSh_str _
          | with_reducible rfl
          | with_reducible exact same_rfl
          | (refine Wr.i64 ?_ ?_; omega)
          | (refine Wr.u8 ?_ ?_; omega)
          | (refine Wr.i32 ?_ ?_; omega)
          | (with_reducible refine Br.tt ?_)
          | (with_reducible refine Br.ff ?_)
          | (refine Br.dT ?_ ?_; omega)
          | (refine Br.dF ?_ ?_; omega)
          | (refine Br.d (fun h => ?_) (fun h => ?_))
          | (refine Br.swap ?_)
          | (refine Br.bnot ?_)
          | (refine Br.mk (fun h => Step.out ?_) (fun h => Step.out ?_))
          | (refine Two.mk (Step.out ?_) (Step.out ?_))
          | (refine Cp.mk fun q hq => Step.out ?_)
          | (refine Ovl.mk (by assumption) (Step.out ?_))
          | (refine CallOK.io1 (g := 14) (Step.out ?_))
          | (refine CallOK.io1 (g := 43) (Step.out ?_))
          | (refine CallOK.of_ct (Step.out ?_))
          | (refine CallQ.of_ct (Step.out ?_))
          | (refine Met.by (g := 14) (next_ct _ _) ?_; rintro q outs ⟨x, d, hx, rfl, rfl⟩)
          | (refine Met.by (g := 43) (one_ct _ _) ?_; rintro q outs ⟨x, d, hx, rfl, rfl⟩)
          | (refine Vc.mk ?_ (Step.out ?_))
        · refine CodeOK.loopW hΓ hm [] [] (by kernel_rfl) (α := Dk × List Bd × Int) (fun z => [(0, .loc 0 0), (1, i64 n), (2, i64 m), (3, i64 o), (9, .own 1), (10, i64 r), (11, i64 i), (12, i64 z.2.2)]) (fun z => [(0, .var z.1.ls), (1, .arr 46 5 z.2.1.length fun j => Bd.f (z.2.1.getD j Bd.z))]) 2 (fun z => r < z.2.2 ∧ z.2.2 ≤ n ∧ UpB r i z.2.2 0 z.2.1) (fun z => (n - z.2.2).toNat) ?_ ?_
          · refine Again.by (d, l, r + 1) ⟨by dsimp only; omega, by dsimp only; omega, h6.mono (by decide) (by dsimp only; omega) (by dsimp only; omega)⟩ ?_
            repeat' first
              | (refine Step.mk ?_; conv => whnf)
              | (refine Vc.om ?_ ?_; first | omega | with_reducible rfl | with_reducible exact same_rfl | (simp only [bytes_2, bytes_3, bytes_4, bytes_5, bytes_9, bytes_12, bytes_21, bytes_22, bytes_25, bytes_27, bytes_28, bytes_30, bytes_32, bytes_33, bytes_36, bytes_37, bytes_38, bytes_39, bytes_41, bytes_42, bytes_43, bytes_44, bytes_45, bytes_46, bytes_52, bytes_56, bytes_58, bytes_60, bytes_67, bytes_68, bytes_69, bytes_70, bytes_71, bytes_72, bytes_73, bytes_74, bytes_75, bytes_76, bytes_77, bytes_81, bytes_84, bytes_85, bytes_87, bytes_95, bytes_96, bytes_111, bytes_115, true_and, and_true] <;> omega))
              | (refine NilB.mk fun b hb => Step.out ?_)
              | with_reducible trivial
              | exact noSh_bool _
              | exact noSh_lit _
              | exact noSh_int _ _
              | exact noSh_str _
              | with_reducible rfl
              | with_reducible exact same_rfl
              | (refine Wr.i64 ?_ ?_; omega)
              | (refine Wr.u8 ?_ ?_; omega)
              | (refine Wr.i32 ?_ ?_; omega)
              | (with_reducible refine Br.tt ?_)
              | (with_reducible refine Br.ff ?_)
              | (refine Br.dT ?_ ?_; omega)
              | (refine Br.dF ?_ ?_; omega)
              | (refine Br.d (fun h => ?_) (fun h => ?_))
              | (refine Br.swap ?_)
              | (refine Br.bnot ?_)
              | (refine Br.mk (fun h => Step.out ?_) (fun h => Step.out ?_))
              | (refine Two.mk (Step.out ?_) (Step.out ?_))
              | (refine Cp.mk fun q hq => Step.out ?_)
              | (refine Ovl.mk (by assumption) (Step.out ?_))
              | (refine CallOK.io1 (g := 14) (Step.out ?_))
              | (refine CallOK.io1 (g := 43) (Step.out ?_))
              | (refine CallOK.of_ct (Step.out ?_))
              | (refine CallQ.of_ct (Step.out ?_))
              | (refine Met.by (g := 14) (next_ct _ _) ?_; rintro q outs ⟨x, d, hx, rfl, rfl⟩)
              | (refine Met.by (g := 43) (one_ct _ _) ?_; rintro q outs ⟨x, d, hx, rfl, rfl⟩)
              | (refine Vc.mk ?_ (Step.out ?_))
            all_goals exact ⟨rfl, fun _ _ => rfl⟩
          · intro ⟨d, l, s⟩ ⟨h7, h8, h9⟩
            dsimp only at h7 h8 h9 ⊢
            repeat' first
              | (refine Step.mk ?_; conv => whnf)
              | (refine Vc.om ?_ ?_; first | omega | with_reducible rfl | with_reducible exact same_rfl | (simp only [bytes_2, bytes_3, bytes_4, bytes_5, bytes_9, bytes_12, bytes_21, bytes_22, bytes_25, bytes_27, bytes_28, bytes_30, bytes_32, bytes_33, bytes_36, bytes_37, bytes_38, bytes_39, bytes_41, bytes_42, bytes_43, bytes_44, bytes_45, bytes_46, bytes_52, bytes_56, bytes_58, bytes_60, bytes_67, bytes_68, bytes_69, bytes_70, bytes_71, bytes_72, bytes_73, bytes_74, bytes_75, bytes_76, bytes_77, bytes_81, bytes_84, bytes_85, bytes_87, bytes_95, bytes_96, bytes_111, bytes_115, true_and, and_true] <;> omega))
              | (refine NilB.mk fun b hb => Step.out ?_)
              | with_reducible trivial
              | exact noSh_bool _
              | exact noSh_lit _
              | exact noSh_int _ _
              | exact noSh_str _
              | with_reducible rfl
              | with_reducible exact same_rfl
              | (refine Wr.i64 ?_ ?_; omega)
              | (refine Wr.u8 ?_ ?_; omega)
              | (refine Wr.i32 ?_ ?_; omega)
              | (with_reducible refine Br.tt ?_)
              | (with_reducible refine Br.ff ?_)
              | (refine Br.dT ?_ ?_; omega)
              | (refine Br.dF ?_ ?_; omega)
              | (refine Br.d (fun h => ?_) (fun h => ?_))
              | (refine Br.swap ?_)
              | (refine Br.bnot ?_)
              | (refine Br.mk (fun h => Step.out ?_) (fun h => Step.out ?_))
              | (refine Two.mk (Step.out ?_) (Step.out ?_))
              | (refine Cp.mk fun q hq => Step.out ?_)
              | (refine Ovl.mk (by assumption) (Step.out ?_))
              | (refine CallOK.io1 (g := 14) (Step.out ?_))
              | (refine CallOK.io1 (g := 43) (Step.out ?_))
              | (refine CallOK.of_ct (Step.out ?_))
              | (refine CallQ.of_ct (Step.out ?_))
              | (refine Met.by (g := 14) (next_ct _ _) ?_; rintro q outs ⟨x, d, hx, rfl, rfl⟩)
              | (refine Met.by (g := 43) (one_ct _ _) ?_; rintro q outs ⟨x, d, hx, rfl, rfl⟩)
              | (refine Vc.mk ?_ (Step.out ?_))
            · refine CodeOK.loopW hΓ hm [] [] (by kernel_rfl) (α := Dk × List Bd × Int) (fun z => [(0, .loc 0 0), (1, i64 n), (2, i64 m), (3, i64 o), (9, .own 1), (10, i64 r), (11, i64 i), (12, i64 s), (13, i64 z.2.2)]) (fun z => [(0, .var z.1.ls), (1, .arr 46 5 z.2.1.length fun j => Bd.f (z.2.1.getD j Bd.z))]) 2 (fun z => 1 ≤ z.2.2 ∧ z.2.2 ≤ m + 1 ∧ UpB r i s z.2.2 z.2.1) (fun z => (m + 1 - z.2.2).toNat) ?_ ?_
              · refine Again.by (d, l, 1) ⟨by dsimp only; omega, by dsimp only; omega, h9.mono (by decide) (by dsimp only; omega) (by dsimp only; omega)⟩ ?_
                repeat' first
                  | (refine Step.mk ?_; conv => whnf)
                  | (refine Vc.om ?_ ?_; first | omega | with_reducible rfl | with_reducible exact same_rfl | (simp only [bytes_2, bytes_3, bytes_4, bytes_5, bytes_9, bytes_12, bytes_21, bytes_22, bytes_25, bytes_27, bytes_28, bytes_30, bytes_32, bytes_33, bytes_36, bytes_37, bytes_38, bytes_39, bytes_41, bytes_42, bytes_43, bytes_44, bytes_45, bytes_46, bytes_52, bytes_56, bytes_58, bytes_60, bytes_67, bytes_68, bytes_69, bytes_70, bytes_71, bytes_72, bytes_73, bytes_74, bytes_75, bytes_76, bytes_77, bytes_81, bytes_84, bytes_85, bytes_87, bytes_95, bytes_96, bytes_111, bytes_115, true_and, and_true] <;> omega))
                  | (refine NilB.mk fun b hb => Step.out ?_)
                  | with_reducible trivial
                  | exact noSh_bool _
                  | exact noSh_lit _
                  | exact noSh_int _ _
                  | exact noSh_str _
                  | with_reducible rfl
                  | with_reducible exact same_rfl
                  | (refine Wr.i64 ?_ ?_; omega)
                  | (refine Wr.u8 ?_ ?_; omega)
                  | (refine Wr.i32 ?_ ?_; omega)
                  | (with_reducible refine Br.tt ?_)
                  | (with_reducible refine Br.ff ?_)
                  | (refine Br.dT ?_ ?_; omega)
                  | (refine Br.dF ?_ ?_; omega)
                  | (refine Br.d (fun h => ?_) (fun h => ?_))
                  | (refine Br.swap ?_)
                  | (refine Br.bnot ?_)
                  | (refine Br.mk (fun h => Step.out ?_) (fun h => Step.out ?_))
                  | (refine Two.mk (Step.out ?_) (Step.out ?_))
                  | (refine Cp.mk fun q hq => Step.out ?_)
                  | (refine Ovl.mk (by assumption) (Step.out ?_))
                  | (refine CallOK.io1 (g := 14) (Step.out ?_))
                  | (refine CallOK.io1 (g := 43) (Step.out ?_))
                  | (refine CallOK.of_ct (Step.out ?_))
                  | (refine CallQ.of_ct (Step.out ?_))
                  | (refine Met.by (g := 14) (next_ct _ _) ?_; rintro q outs ⟨x, d, hx, rfl, rfl⟩)
                  | (refine Met.by (g := 43) (one_ct _ _) ?_; rintro q outs ⟨x, d, hx, rfl, rfl⟩)
                  | (refine Vc.mk ?_ (Step.out ?_))
                all_goals exact ⟨rfl, fun _ _ => rfl⟩
              · intro ⟨d, l, k⟩ ⟨ha, hb', hc⟩
                dsimp only at ha hb' hc ⊢
                have hlen := hc.n
                repeat' first
                  | (refine Step.mk ?_; conv => whnf)
                  | (refine Vc.om ?_ ?_; first | omega | with_reducible rfl | with_reducible exact same_rfl | (simp only [bytes_2, bytes_3, bytes_4, bytes_5, bytes_9, bytes_12, bytes_21, bytes_22, bytes_25, bytes_27, bytes_28, bytes_30, bytes_32, bytes_33, bytes_36, bytes_37, bytes_38, bytes_39, bytes_41, bytes_42, bytes_43, bytes_44, bytes_45, bytes_46, bytes_52, bytes_56, bytes_58, bytes_60, bytes_67, bytes_68, bytes_69, bytes_70, bytes_71, bytes_72, bytes_73, bytes_74, bytes_75, bytes_76, bytes_77, bytes_81, bytes_84, bytes_85, bytes_87, bytes_95, bytes_96, bytes_111, bytes_115, true_and, and_true] <;> omega))
                  | (refine NilB.mk fun b hb => Step.out ?_)
                  | with_reducible trivial
                  | exact noSh_bool _
                  | exact noSh_lit _
                  | exact noSh_int _ _
                  | exact noSh_str _
                  | with_reducible rfl
                  | with_reducible exact same_rfl
                  | (refine Wr.i64 ?_ ?_; omega)
                  | (refine Wr.u8 ?_ ?_; omega)
                  | (refine Wr.i32 ?_ ?_; omega)
                  | (with_reducible refine Br.tt ?_)
                  | (with_reducible refine Br.ff ?_)
                  | (refine Br.dT ?_ ?_; omega)
                  | (refine Br.dF ?_ ?_; omega)
                  | (refine Br.d (fun h => ?_) (fun h => ?_))
                  | (refine Br.swap ?_)
                  | (refine Br.bnot ?_)
                  | (refine Br.mk (fun h => Step.out ?_) (fun h => Step.out ?_))
                  | (refine Two.mk (Step.out ?_) (Step.out ?_))
                  | (refine Cp.mk fun q hq => Step.out ?_)
                  | (refine Ovl.mk (by assumption) (Step.out ?_))
                  | (refine CallOK.io1 (g := 14) (Step.out ?_))
                  | (refine CallOK.io1 (g := 43) (Step.out ?_))
                  | (refine CallOK.of_ct (Step.out ?_))
                  | (refine CallQ.of_ct (Step.out ?_))
                  | (refine Met.by (g := 14) (next_ct _ _) ?_; rintro q outs ⟨x, d, hx, rfl, rfl⟩)
                  | (refine Met.by (g := 43) (one_ct _ _) ?_; rintro q outs ⟨x, d, hx, rfl, rfl⟩)
                  | (refine Vc.mk ?_ (Step.out ?_))
                · refine Again.by (d, l ++ [⟨⟨r, i⟩, ⟨s, k⟩, 1 + x⟩], k + 1) ⟨⟨by dsimp only; omega, by dsimp only; omega, hc.push (by omega) (by omega) (by omega) (by omega)⟩, by dsimp only; omega⟩ ?_
                  repeat' first
                    | (refine Step.mk ?_; conv => whnf)
                    | (refine Vc.om ?_ ?_; first | omega | with_reducible rfl | with_reducible exact same_rfl | (simp only [bytes_2, bytes_3, bytes_4, bytes_5, bytes_9, bytes_12, bytes_21, bytes_22, bytes_25, bytes_27, bytes_28, bytes_30, bytes_32, bytes_33, bytes_36, bytes_37, bytes_38, bytes_39, bytes_41, bytes_42, bytes_43, bytes_44, bytes_45, bytes_46, bytes_52, bytes_56, bytes_58, bytes_60, bytes_67, bytes_68, bytes_69, bytes_70, bytes_71, bytes_72, bytes_73, bytes_74, bytes_75, bytes_76, bytes_77, bytes_81, bytes_84, bytes_85, bytes_87, bytes_95, bytes_96, bytes_111, bytes_115, true_and, and_true] <;> omega))
                    | (refine NilB.mk fun b hb => Step.out ?_)
                    | with_reducible trivial
                    | exact noSh_bool _
                    | exact noSh_lit _
                    | exact noSh_int _ _
                    | exact noSh_str _
                    | with_reducible rfl
                    | with_reducible exact same_rfl
                    | (refine Wr.i64 ?_ ?_; omega)
                    | (refine Wr.u8 ?_ ?_; omega)
                    | (refine Wr.i32 ?_ ?_; omega)
                    | (with_reducible refine Br.tt ?_)
                    | (with_reducible refine Br.ff ?_)
                    | (refine Br.dT ?_ ?_; omega)
                    | (refine Br.dF ?_ ?_; omega)
                    | (refine Br.d (fun h => ?_) (fun h => ?_))
                    | (refine Br.swap ?_)
                    | (refine Br.bnot ?_)
                    | (refine Br.mk (fun h => Step.out ?_) (fun h => Step.out ?_))
                    | (refine Two.mk (Step.out ?_) (Step.out ?_))
                    | (refine Cp.mk fun q hq => Step.out ?_)
                    | (refine Ovl.mk (by assumption) (Step.out ?_))
                    | (refine CallOK.io1 (g := 14) (Step.out ?_))
                    | (refine CallOK.io1 (g := 43) (Step.out ?_))
                    | (refine CallOK.of_ct (Step.out ?_))
                    | (refine CallQ.of_ct (Step.out ?_))
                    | (refine Met.by (g := 14) (next_ct _ _) ?_; rintro q outs ⟨x, d, hx, rfl, rfl⟩)
                    | (refine Met.by (g := 43) (one_ct _ _) ?_; rintro q outs ⟨x, d, hx, rfl, rfl⟩)
                    | (refine Vc.mk ?_ (Step.out ?_))
                  exact app1 Bd.f Bd.z ite_bd l _
                · refine Again.by (d, l, k + 1) ⟨⟨by dsimp only; omega, by dsimp only; omega, hc.mono (by decide) (by dsimp only; omega) (by dsimp only; omega)⟩, by dsimp only; omega⟩ ?_
                  repeat' first
                    | (refine Step.mk ?_; conv => whnf)
                    | (refine Vc.om ?_ ?_; first | omega | with_reducible rfl | with_reducible exact same_rfl | (simp only [bytes_2, bytes_3, bytes_4, bytes_5, bytes_9, bytes_12, bytes_21, bytes_22, bytes_25, bytes_27, bytes_28, bytes_30, bytes_32, bytes_33, bytes_36, bytes_37, bytes_38, bytes_39, bytes_41, bytes_42, bytes_43, bytes_44, bytes_45, bytes_46, bytes_52, bytes_56, bytes_58, bytes_60, bytes_67, bytes_68, bytes_69, bytes_70, bytes_71, bytes_72, bytes_73, bytes_74, bytes_75, bytes_76, bytes_77, bytes_81, bytes_84, bytes_85, bytes_87, bytes_95, bytes_96, bytes_111, bytes_115, true_and, and_true] <;> omega))
                    | (refine NilB.mk fun b hb => Step.out ?_)
                    | with_reducible trivial
                    | exact noSh_bool _
                    | exact noSh_lit _
                    | exact noSh_int _ _
                    | exact noSh_str _
                    | with_reducible rfl
                    | with_reducible exact same_rfl
                    | (refine Wr.i64 ?_ ?_; omega)
                    | (refine Wr.u8 ?_ ?_; omega)
                    | (refine Wr.i32 ?_ ?_; omega)
                    | (with_reducible refine Br.tt ?_)
                    | (with_reducible refine Br.ff ?_)
                    | (refine Br.dT ?_ ?_; omega)
                    | (refine Br.dF ?_ ?_; omega)
                    | (refine Br.d (fun h => ?_) (fun h => ?_))
                    | (refine Br.swap ?_)
                    | (refine Br.bnot ?_)
                    | (refine Br.mk (fun h => Step.out ?_) (fun h => Step.out ?_))
                    | (refine Two.mk (Step.out ?_) (Step.out ?_))
                    | (refine Cp.mk fun q hq => Step.out ?_)
                    | (refine Ovl.mk (by assumption) (Step.out ?_))
                    | (refine CallOK.io1 (g := 14) (Step.out ?_))
                    | (refine CallOK.io1 (g := 43) (Step.out ?_))
                    | (refine CallOK.of_ct (Step.out ?_))
                    | (refine CallQ.of_ct (Step.out ?_))
                    | (refine Met.by (g := 14) (next_ct _ _) ?_; rintro q outs ⟨x, d, hx, rfl, rfl⟩)
                    | (refine Met.by (g := 43) (one_ct _ _) ?_; rintro q outs ⟨x, d, hx, rfl, rfl⟩)
                    | (refine Vc.mk ?_ (Step.out ?_))
                  all_goals exact ⟨rfl, fun _ _ => rfl⟩
                · refine Again.by (d, l, s + 1) ⟨⟨by dsimp only; omega, by dsimp only; omega, hc.mono (by decide) (by dsimp only; omega) (by dsimp only; omega)⟩, by dsimp only; omega⟩ ?_
                  repeat' first
                    | (refine Step.mk ?_; conv => whnf)
                    | (refine Vc.om ?_ ?_; first | omega | with_reducible rfl | with_reducible exact same_rfl | (simp only [bytes_2, bytes_3, bytes_4, bytes_5, bytes_9, bytes_12, bytes_21, bytes_22, bytes_25, bytes_27, bytes_28, bytes_30, bytes_32, bytes_33, bytes_36, bytes_37, bytes_38, bytes_39, bytes_41, bytes_42, bytes_43, bytes_44, bytes_45, bytes_46, bytes_52, bytes_56, bytes_58, bytes_60, bytes_67, bytes_68, bytes_69, bytes_70, bytes_71, bytes_72, bytes_73, bytes_74, bytes_75, bytes_76, bytes_77, bytes_81, bytes_84, bytes_85, bytes_87, bytes_95, bytes_96, bytes_111, bytes_115, true_and, and_true] <;> omega))
                    | (refine NilB.mk fun b hb => Step.out ?_)
                    | with_reducible trivial
                    | exact noSh_bool _
                    | exact noSh_lit _
                    | exact noSh_int _ _
                    | exact noSh_str _
                    | with_reducible rfl
                    | with_reducible exact same_rfl
                    | (refine Wr.i64 ?_ ?_; omega)
                    | (refine Wr.u8 ?_ ?_; omega)
                    | (refine Wr.i32 ?_ ?_; omega)
                    | (with_reducible refine Br.tt ?_)
                    | (with_reducible refine Br.ff ?_)
                    | (refine Br.dT ?_ ?_; omega)
                    | (refine Br.dF ?_ ?_; omega)
                    | (refine Br.d (fun h => ?_) (fun h => ?_))
                    | (refine Br.swap ?_)
                    | (refine Br.bnot ?_)
                    | (refine Br.mk (fun h => Step.out ?_) (fun h => Step.out ?_))
                    | (refine Two.mk (Step.out ?_) (Step.out ?_))
                    | (refine Cp.mk fun q hq => Step.out ?_)
                    | (refine Ovl.mk (by assumption) (Step.out ?_))
                    | (refine CallOK.io1 (g := 14) (Step.out ?_))
                    | (refine CallOK.io1 (g := 43) (Step.out ?_))
                    | (refine CallOK.of_ct (Step.out ?_))
                    | (refine CallQ.of_ct (Step.out ?_))
                    | (refine Met.by (g := 14) (next_ct _ _) ?_; rintro q outs ⟨x, d, hx, rfl, rfl⟩)
                    | (refine Met.by (g := 43) (one_ct _ _) ?_; rintro q outs ⟨x, d, hx, rfl, rfl⟩)
                    | (refine Vc.mk ?_ (Step.out ?_))
                  all_goals exact ⟨rfl, fun _ _ => rfl⟩
            · refine Again.by (d, l, i + 1) ⟨⟨by dsimp only; omega, by dsimp only; omega, h9.mono (by decide) (by dsimp only; omega) (by dsimp only; omega)⟩, by dsimp only; omega⟩ ?_
              repeat' first
                | (refine Step.mk ?_; conv => whnf)
                | (refine Vc.om ?_ ?_; first | omega | with_reducible rfl | with_reducible exact same_rfl | (simp only [bytes_2, bytes_3, bytes_4, bytes_5, bytes_9, bytes_12, bytes_21, bytes_22, bytes_25, bytes_27, bytes_28, bytes_30, bytes_32, bytes_33, bytes_36, bytes_37, bytes_38, bytes_39, bytes_41, bytes_42, bytes_43, bytes_44, bytes_45, bytes_46, bytes_52, bytes_56, bytes_58, bytes_60, bytes_67, bytes_68, bytes_69, bytes_70, bytes_71, bytes_72, bytes_73, bytes_74, bytes_75, bytes_76, bytes_77, bytes_81, bytes_84, bytes_85, bytes_87, bytes_95, bytes_96, bytes_111, bytes_115, true_and, and_true] <;> omega))
                | (refine NilB.mk fun b hb => Step.out ?_)
                | with_reducible trivial
                | exact noSh_bool _
                | exact noSh_lit _
                | exact noSh_int _ _
                | exact noSh_str _
                | with_reducible rfl
                | with_reducible exact same_rfl
                | (refine Wr.i64 ?_ ?_; omega)
                | (refine Wr.u8 ?_ ?_; omega)
                | (refine Wr.i32 ?_ ?_; omega)
                | (with_reducible refine Br.tt ?_)
                | (with_reducible refine Br.ff ?_)
                | (refine Br.dT ?_ ?_; omega)
                | (refine Br.dF ?_ ?_; omega)
                | (refine Br.d (fun h => ?_) (fun h => ?_))
                | (refine Br.swap ?_)
                | (refine Br.bnot ?_)
                | (refine Br.mk (fun h => Step.out ?_) (fun h => Step.out ?_))
                | (refine Two.mk (Step.out ?_) (Step.out ?_))
                | (refine Cp.mk fun q hq => Step.out ?_)
                | (refine Ovl.mk (by assumption) (Step.out ?_))
                | (refine CallOK.io1 (g := 14) (Step.out ?_))
                | (refine CallOK.io1 (g := 43) (Step.out ?_))
                | (refine CallOK.of_ct (Step.out ?_))
                | (refine CallQ.of_ct (Step.out ?_))
                | (refine Met.by (g := 14) (next_ct _ _) ?_; rintro q outs ⟨x, d, hx, rfl, rfl⟩)
                | (refine Met.by (g := 43) (one_ct _ _) ?_; rintro q outs ⟨x, d, hx, rfl, rfl⟩)
                | (refine Vc.mk ?_ (Step.out ?_))
              all_goals exact ⟨rfl, fun _ _ => rfl⟩
        · refine Again.by (d, l, r + 1) ⟨⟨by dsimp only; omega, by dsimp only; omega, h6.mono (by decide) (by dsimp only; omega) (by dsimp only; omega)⟩, by dsimp only; omega⟩ ?_
          repeat' first
            | (refine Step.mk ?_; conv => whnf)
            | (refine Vc.om ?_ ?_; first | omega | with_reducible rfl | with_reducible exact same_rfl | (simp only [bytes_2, bytes_3, bytes_4, bytes_5, bytes_9, bytes_12, bytes_21, bytes_22, bytes_25, bytes_27, bytes_28, bytes_30, bytes_32, bytes_33, bytes_36, bytes_37, bytes_38, bytes_39, bytes_41, bytes_42, bytes_43, bytes_44, bytes_45, bytes_46, bytes_52, bytes_56, bytes_58, bytes_60, bytes_67, bytes_68, bytes_69, bytes_70, bytes_71, bytes_72, bytes_73, bytes_74, bytes_75, bytes_76, bytes_77, bytes_81, bytes_84, bytes_85, bytes_87, bytes_95, bytes_96, bytes_111, bytes_115, true_and, and_true] <;> omega))
            | (refine NilB.mk fun b hb => Step.out ?_)
            | with_reducible trivial
            | exact noSh_bool _
            | exact noSh_lit _
            | exact noSh_int _ _
            | exact noSh_str _
            | with_reducible rfl
            | with_reducible exact same_rfl
            | (refine Wr.i64 ?_ ?_; omega)
            | (refine Wr.u8 ?_ ?_; omega)
            | (refine Wr.i32 ?_ ?_; omega)
            | (with_reducible refine Br.tt ?_)
            | (with_reducible refine Br.ff ?_)
            | (refine Br.dT ?_ ?_; omega)
            | (refine Br.dF ?_ ?_; omega)
            | (refine Br.d (fun h => ?_) (fun h => ?_))
            | (refine Br.swap ?_)
            | (refine Br.bnot ?_)
            | (refine Br.mk (fun h => Step.out ?_) (fun h => Step.out ?_))
            | (refine Two.mk (Step.out ?_) (Step.out ?_))
            | (refine Cp.mk fun q hq => Step.out ?_)
            | (refine Ovl.mk (by assumption) (Step.out ?_))
            | (refine CallOK.io1 (g := 14) (Step.out ?_))
            | (refine CallOK.io1 (g := 43) (Step.out ?_))
            | (refine CallOK.of_ct (Step.out ?_))
            | (refine CallQ.of_ct (Step.out ?_))
            | (refine Met.by (g := 14) (next_ct _ _) ?_; rintro q outs ⟨x, d, hx, rfl, rfl⟩)
            | (refine Met.by (g := 43) (one_ct _ _) ?_; rintro q outs ⟨x, d, hx, rfl, rfl⟩)
            | (refine Vc.mk ?_ (Step.out ?_))
          all_goals exact ⟨rfl, fun _ _ => rfl⟩
    · refine Lf2.by l d (h3.mono (by decide) (by omega) (by omega)) ?_
      repeat' first
        | (refine Step.mk ?_; conv => whnf)
        | (refine Vc.om ?_ ?_; first | omega | with_reducible rfl | with_reducible exact same_rfl | (simp only [bytes_2, bytes_3, bytes_4, bytes_5, bytes_9, bytes_12, bytes_21, bytes_22, bytes_25, bytes_27, bytes_28, bytes_30, bytes_32, bytes_33, bytes_36, bytes_37, bytes_38, bytes_39, bytes_41, bytes_42, bytes_43, bytes_44, bytes_45, bytes_46, bytes_52, bytes_56, bytes_58, bytes_60, bytes_67, bytes_68, bytes_69, bytes_70, bytes_71, bytes_72, bytes_73, bytes_74, bytes_75, bytes_76, bytes_77, bytes_81, bytes_84, bytes_85, bytes_87, bytes_95, bytes_96, bytes_111, bytes_115, true_and, and_true] <;> omega))
        | (refine NilB.mk fun b hb => Step.out ?_)
        | with_reducible trivial
        | exact noSh_bool _
        | exact noSh_lit _
        | exact noSh_int _ _
        | exact noSh_str _
        | with_reducible rfl
        | with_reducible exact same_rfl
        | (refine Wr.i64 ?_ ?_; omega)
        | (refine Wr.u8 ?_ ?_; omega)
        | (refine Wr.i32 ?_ ?_; omega)
        | (with_reducible refine Br.tt ?_)
        | (with_reducible refine Br.ff ?_)
        | (refine Br.dT ?_ ?_; omega)
        | (refine Br.dF ?_ ?_; omega)
        | (refine Br.d (fun h => ?_) (fun h => ?_))
        | (refine Br.swap ?_)
        | (refine Br.bnot ?_)
        | (refine Br.mk (fun h => Step.out ?_) (fun h => Step.out ?_))
        | (refine Two.mk (Step.out ?_) (Step.out ?_))
        | (refine Cp.mk fun q hq => Step.out ?_)
        | (refine Ovl.mk (by assumption) (Step.out ?_))
        | (refine CallOK.io1 (g := 14) (Step.out ?_))
        | (refine CallOK.io1 (g := 43) (Step.out ?_))
        | (refine CallOK.of_ct (Step.out ?_))
        | (refine CallQ.of_ct (Step.out ?_))
        | (refine Met.by (g := 14) (next_ct _ _) ?_; rintro q outs ⟨x, d, hx, rfl, rfl⟩)
        | (refine Met.by (g := 43) (one_ct _ _) ?_; rintro q outs ⟨x, d, hx, rfl, rfl⟩)
        | (refine Vc.mk ?_ (Step.out ?_))
      all_goals exact ⟨rfl, fun _ _ => rfl⟩
end Kx
