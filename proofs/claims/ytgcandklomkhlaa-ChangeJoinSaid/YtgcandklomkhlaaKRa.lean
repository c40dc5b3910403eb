/-
  Comparisons of numbers, texts, lists of texts.
  No condition beyond those written in each theorem.
-/
import Derived.Test.YtgcandklomkhlaaKDk
import Derived.Test.YtgcandklomkhlaaFD
open Go Sx Go.Proofs
set_option linter.unusedSimpArgs false
set_option linter.unusedVariables false
namespace Kx
def cmpI (a b : Int) : Int := if a < b then -1 else if a > b then 1 else 0
def cmpS (a b : Str) : Int := bif Op.bytesLess a b then -1 else if a = b then 0 else 1
theorem isnan_ct (a : Int) : Ct Try.prog 52 [i64 a] fun r outs => r = .bool false ∧ outs = [] := by
  refine .det (.of_W (fn := Try.f52) hΓ hm Try.func52 [] [] (by kernel_rfl) (Step.out ?_))
  repeat' first
    | (refine Step.mk ?_; conv => whnf)
    | (refine Vc.om ?_ ?_; first | omega | with_reducible rfl | with_reducible exact same_rfl | (simp only [bytes_2, bytes_3, bytes_4, bytes_5, bytes_9, bytes_12, bytes_21, bytes_22, bytes_25, bytes_27, bytes_29, bytes_32, bytes_33, bytes_34, bytes_38, bytes_40, bytes_44, bytes_45, bytes_52, bytes_53, bytes_54, bytes_58, bytes_59, bytes_60, bytes_93, bytes_97, bytes_100, true_and, and_true] <;> omega))
    | (refine NilB.mk fun b hb => Step.out ?_)
    | with_reducible trivial
    | exact noSh_bool _
    | exact noSh_lit _
    | exact noSh_int _ _
    | exact noSh_str _
    | with_reducible rfl
    | with_reducible exact same_rfl
    | (refine Wr.i64 ?_ ?_; omega)
    | (refine Wr.u8 ?_ ?_; omega)
    | (refine Wr.i32 ?_ ?_; omega)
    | (with_reducible refine Br.tt ?_)
    | (with_reducible refine Br.ff ?_)
    | (refine Br.dT ?_ ?_; omega)
    | (refine Br.dF ?_ ?_; omega)
    | (refine Br.d (fun h => ?_) (fun h => ?_))
    | (refine Br.swap ?_)
    | (refine Br.bnot ?_)
    | (refine Br.mk (fun h => Step.out ?_) (fun h => Step.out ?_))
    | (refine Two.mk (Step.out ?_) (Step.out ?_))
    | (refine Cp.mk fun q hq => Step.out ?_)
    | (refine Ovl.mk (by assumption) (Step.out ?_))
    | (refine CallOK.of_ct (Step.out ?_))
    | (refine CallQ.of_ct (Step.out ?_))
    | (refine Vc.mk ?_ (Step.out ?_))
  all_goals first
    | trivial
    | exact hb h
    | with_reducible rfl
    | with_reducible exact same_rfl
    | omega
    | ((simp; done))
theorem compare_ct (a b : Int) : Ct Try.prog 44 [i64 a, i64 b] fun r outs => r = i64 (cmpI a b) ∧ outs = [] := by
  refine .det (.of_W (fn := Try.f44) hΓ hm Try.func44 [] [] (by kernel_rfl) (Step.out ?_))
  repeat' first
    | (refine Step.mk ?_; conv => whnf)
    | (refine Vc.om ?_ ?_; first | omega | with_reducible rfl | with_reducible exact same_rfl | (simp only [bytes_2, bytes_3, bytes_4, bytes_5, bytes_9, bytes_12, bytes_21, bytes_22, bytes_25, bytes_27, bytes_29, bytes_32, bytes_33, bytes_34, bytes_38, bytes_40, bytes_44, bytes_45, bytes_52, bytes_53, bytes_54, bytes_58, bytes_59, bytes_60, bytes_93, bytes_97, bytes_100, true_and, and_true] <;> omega))
    | (refine NilB.mk fun b hb => Step.out ?_)
    | with_reducible trivial
    | exact noSh_bool _
    | exact noSh_lit _
    | exact noSh_int _ _
    | exact noSh_str _
    | with_reducible rfl
    | with_reducible exact same_rfl
    | (refine Wr.i64 ?_ ?_; omega)
    | (refine Wr.u8 ?_ ?_; omega)
    | (refine Wr.i32 ?_ ?_; omega)
    | (with_reducible refine Br.tt ?_)
    | (with_reducible refine Br.ff ?_)
    | (refine Br.dT ?_ ?_; omega)
    | (refine Br.dF ?_ ?_; omega)
    | (refine Br.d (fun h => ?_) (fun h => ?_))
    | (refine Br.swap ?_)
    | (refine Br.bnot ?_)
    | (refine Br.mk (fun h => Step.out ?_) (fun h => Step.out ?_))
    | (refine Two.mk (Step.out ?_) (Step.out ?_))
    | (refine Cp.mk fun q hq => Step.out ?_)
    | (refine Ovl.mk (by assumption) (Step.out ?_))
    | (refine CallOK.of_ct (Step.out ?_))
    | (refine CallQ.of_ct (Step.out ?_))
    | (refine Met.by (g := 52) (isnan_ct _) ?_; rintro q outs ⟨rfl, rfl⟩)
    | (refine Vc.mk ?_ (Step.out ?_))
  all_goals first
    | trivial
    | exact hb h
    | with_reducible rfl
    | with_reducible exact same_rfl
    | omega
    | ((simp only [cmpI]; repeat' split <;> omega))
    | ((simp [cmpI, *]; done))
    | ((simp [cmpI, *]; omega))
theorem isnanS_ct (a : Str) : Ct Try.prog 67 [.str a] fun r outs => r = .bool false ∧ outs = [] := by
  refine .det (.of_W (fn := Try.f67) hΓ hm Try.func67 [] [] (by kernel_rfl) (Step.out ?_))
  repeat' first
    | (refine Step.mk ?_; conv => whnf)
    | (refine Vc.om ?_ ?_; first | omega | with_reducible rfl | with_reducible exact same_rfl | (simp only [bytes_2, bytes_3, bytes_4, bytes_5, bytes_9, bytes_12, bytes_21, bytes_22, bytes_25, bytes_27, bytes_29, bytes_32, bytes_33, bytes_34, bytes_38, bytes_40, bytes_44, bytes_45, bytes_52, bytes_53, bytes_54, bytes_58, bytes_59, bytes_60, bytes_93, bytes_97, bytes_100, true_and, and_true] <;> omega))
    | (refine NilB.mk fun b hb => Step.out ?_)
    | with_reducible trivial
    | exact noSh_bool _
    | exact noSh_lit _
    | exact noSh_int _ _
    | exact noSh_str _
    | with_reducible rfl
    | with_reducible exact same_rfl
    | (refine Wr.i64 ?_ ?_; omega)
    | (refine Wr.u8 ?_ ?_; omega)
    | (refine Wr.i32 ?_ ?_; omega)
    | (with_reducible refine Br.tt ?_)
    | (with_reducible refine Br.ff ?_)
    | (refine Br.dT ?_ ?_; omega)
    | (refine Br.dF ?_ ?_; omega)
    | (refine Br.d (fun h => ?_) (fun h => ?_))
    | (refine Br.swap ?_)
    | (refine Br.bnot ?_)
    | (refine Br.mk (fun h => Step.out ?_) (fun h => Step.out ?_))
    | (refine Two.mk (Step.out ?_) (Step.out ?_))
    | (refine Cp.mk fun q hq => Step.out ?_)
    | (refine Ovl.mk (by assumption) (Step.out ?_))
    | (refine CallOK.of_ct (Step.out ?_))
    | (refine CallQ.of_ct (Step.out ?_))
    | (refine Vc.mk ?_ (Step.out ?_))
  all_goals first
    | trivial
    | exact hb h
    | with_reducible rfl
    | with_reducible exact same_rfl
    | omega
    | ((simp; done))
theorem compareS_ct (a b : Str) : Ct Try.prog 65 [.str a, .str b] fun r outs => r = i64 (cmpS a b) ∧ outs = [] := by
  refine .det (.of_W (fn := Try.f65) hΓ hm Try.func65 [] [] (by kernel_rfl) (Step.out ?_))
  repeat' first
    | (refine Step.mk ?_; conv => whnf)
    | (refine Vc.om ?_ ?_; first | omega | with_reducible rfl | with_reducible exact same_rfl | (simp only [bytes_2, bytes_3, bytes_4, bytes_5, bytes_9, bytes_12, bytes_21, bytes_22, bytes_25, bytes_27, bytes_29, bytes_32, bytes_33, bytes_34, bytes_38, bytes_40, bytes_44, bytes_45, bytes_52, bytes_53, bytes_54, bytes_58, bytes_59, bytes_60, bytes_93, bytes_97, bytes_100, true_and, and_true] <;> omega))
    | (refine NilB.mk fun b hb => Step.out ?_)
    | with_reducible trivial
    | exact noSh_bool _
    | exact noSh_lit _
    | exact noSh_int _ _
    | exact noSh_str _
    | with_reducible rfl
    | with_reducible exact same_rfl
    | (refine Wr.i64 ?_ ?_; omega)
    | (refine Wr.u8 ?_ ?_; omega)
    | (refine Wr.i32 ?_ ?_; omega)
    | (with_reducible refine Br.tt ?_)
    | (with_reducible refine Br.ff ?_)
    | (refine Br.dT ?_ ?_; omega)
    | (refine Br.dF ?_ ?_; omega)
    | (refine Br.d (fun h => ?_) (fun h => ?_))
    | (refine Br.swap ?_)
    | (refine Br.bnot ?_)
    | (refine Br.mk (fun h => Step.out ?_) (fun h => Step.out ?_))
    | (refine Two.mk (Step.out ?_) (Step.out ?_))
    | (refine Cp.mk fun q hq => Step.out ?_)
    | (refine Ovl.mk (by assumption) (Step.out ?_))
    | (refine CallOK.of_ct (Step.out ?_))
    | (refine CallQ.of_ct (Step.out ?_))
    | (refine Met.by (g := 67) (isnanS_ct _) ?_; rintro q outs ⟨rfl, rfl⟩)
    | (refine Vc.mk ?_ (Step.out ?_))
  · rw [cmpS, h]; rfl
  · have h1 : Op.bytesLess a b = false := ‹_›
    rw [h1, Bool.false_or] at h
    rw [cmpS, h1, cond_false, if_pos (of_decide_eq_true h)]
  · have h1 : Op.bytesLess a b = false := ‹_›
    rw [h1, Bool.false_or] at h
    rw [cmpS, h1, cond_false, if_neg (of_decide_eq_false h)]
/-! ### The order of texts -/
theorem less_irr : ∀ a : Str, Op.bytesLess a a = false
  | [] => rfl
  | x :: a => by
    rw [Op.bytesLess, less_irr a]
    simp
theorem less_trans : ∀ {a b c : Str}, Op.bytesLess a b = true → Op.bytesLess b c = true → Op.bytesLess a c = true
  | _, _, [], _, h2 => by simp [Op.bytesLess] at h2
  | _, [], _ :: _, h1, _ => by simp [Op.bytesLess] at h1
  | [], _ :: _, _ :: _, _, _ => rfl
  | x :: a, y :: b, z :: c, h1, h2 => by
    simp only [Op.bytesLess, Bool.or_eq_true, Bool.and_eq_true, decide_eq_true_eq, beq_iff_eq] at h1 h2 ⊢
    rcases h1 with h1 | ⟨rfl, h1⟩
    · rcases h2 with h2 | ⟨rfl, h2⟩
      · exact .inl (UInt8.lt_trans h1 h2)
      · exact .inl h1
    · rcases h2 with h2 | ⟨rfl, h2⟩
      · exact .inl h2
      · exact .inr ⟨rfl, less_trans h1 h2⟩
theorem less_tri : ∀ a b : Str, Op.bytesLess a b = true ∨ a = b ∨ Op.bytesLess b a = true
  | [], [] => .inr (.inl rfl)
  | [], _ :: _ => .inl rfl
  | _ :: _, [] => .inr (.inr rfl)
  | x :: a, y :: b => by
    simp only [Op.bytesLess, Bool.or_eq_true, Bool.and_eq_true, decide_eq_true_eq, beq_iff_eq, List.cons.injEq]
    rcases (show x < y ∨ x = y ∨ y < x by
      rcases Nat.lt_trichotomy x.toNat y.toNat with h | h | h
      · exact .inl (UInt8.lt_iff_toNat_lt.2 h)
      · exact .inr (.inl (UInt8.toNat_inj.1 h))
      · exact .inr (.inr (UInt8.lt_iff_toNat_lt.2 h))) with h | rfl | h
    · exact .inl (.inl h)
    · rcases less_tri a b with h | rfl | h
      · exact .inl (.inr ⟨rfl, h⟩)
      · exact .inr (.inl ⟨rfl, rfl⟩)
      · exact .inr (.inr (.inr ⟨rfl, h⟩))
    · exact .inr (.inr (.inl h))
theorem less_asym {a b : Str} (h : Op.bytesLess a b = true) : Op.bytesLess b a = false := by
  cases h' : Op.bytesLess b a with
  | false => rfl
  | true => rw [← less_irr a, less_trans h h']
/-- A comparison: an order with its three ways. -/
structure Cmp {α : Type} (f : α → α → Int) : Prop where
  tri : ∀ a b, f a b = -1 ∨ f a b = 0 ∨ f a b = 1
  eq : ∀ a b, f a b = 0 ↔ a = b
  sym : ∀ a b, f b a = - f a b
  trans : ∀ a b c, f a b = -1 → f b c = -1 → f a c = -1
theorem cmpI_ok : Cmp cmpI := by
  refine ⟨fun a b => ?_, fun a b => ?_, fun a b => ?_, fun a b c h1 h2 => ?_⟩ <;> simp only [cmpI] at * <;> (repeat' split at *) <;> omega
theorem cmpS_ok : Cmp cmpS := by
  have lt : ∀ a b, cmpS a b = -1 ↔ Op.bytesLess a b = true := fun a b => by
    rw [cmpS]; cases h : Op.bytesLess a b with
    | true => simp
    | false => rw [cond_false]; split <;> simp
  have eq : ∀ a b, cmpS a b = 0 ↔ a = b := fun a b => by
    rw [cmpS]; cases h : Op.bytesLess a b with
    | true =>
      rw [cond_true]
      refine ⟨fun h => by omega, fun e => ?_⟩
      subst e; rw [less_irr] at h; cases h
    | false => rw [cond_false]; split <;> simp_all
  have gt : ∀ a b, Op.bytesLess b a = true → cmpS a b = 1 := fun a b h => by
    rw [cmpS, less_asym h, cond_false, if_neg]
    rintro rfl; rw [less_irr] at h; cases h
  refine ⟨fun a b => ?_, eq, fun a b => ?_, fun a b c h1 h2 => (lt a c).2 (less_trans ((lt a b).1 h1) ((lt b c).1 h2))⟩
  · rcases less_tri a b with h | h | h
    · exact .inl ((lt a b).2 h)
    · exact .inr (.inl ((eq a b).2 h))
    · exact .inr (.inr (gt a b h))
  · rcases less_tri a b with h | h | h
    · rw [(lt a b).2 h, gt b a h]; rfl
    · subst h; rw [(eq a a).2 rfl]; rfl
    · rw [(lt b a).2 h, gt a b h]
/-- One comparison behind another. -/
def cmp2 {α β : Type} (f : α → α → Int) (g : β → β → Int) (x y : α × β) : Int := if f x.1 y.1 ≠ 0 then f x.1 y.1 else g x.2 y.2
theorem Cmp.two {α β : Type} {f : α → α → Int} {g : β → β → Int} (F : Cmp f) (G : Cmp g) : Cmp (cmp2 f g) := by
  refine ⟨fun a b => ?_, fun a b => ?_, fun a b => ?_, fun a b c h1 h2 => ?_⟩
  · rw [cmp2]; split
    · exact F.tri _ _
    · exact G.tri _ _
  · rw [cmp2]; split
    · rename_i h
      refine ⟨fun e => absurd e h, fun e => ?_⟩
      subst e; exact absurd ((F.eq _ _).2 rfl) h
    · rename_i h
      have h := (F.eq _ _).1 (Classical.not_not.1 h)
      rw [G.eq]
      exact ⟨fun e => Prod.ext h e, fun e => by rw [e]⟩
  · have hs := F.sym a.1 b.1
    rw [cmp2, cmp2]
    by_cases h : f a.1 b.1 = 0
    · rw [if_neg (by omega), if_neg (by omega)]; exact G.sym _ _
    · rw [if_pos (by omega), if_pos (by omega)]; exact hs
  · rw [cmp2] at *
    by_cases h : f a.1 b.1 = 0
    · rw [if_neg (by omega)] at h1
      have e := (F.eq _ _).1 h
      by_cases h' : f b.1 c.1 = 0
      · rw [if_neg (by omega)] at h2
        have e' := (F.eq _ _).1 h'
        rw [if_neg (by rw [e, e']; exact not_not_intro ((F.eq _ _).2 rfl))]
        exact G.trans _ _ _ h1 h2
      · rw [if_pos h'] at h2
        rw [e, if_pos h']; exact h2
    · rw [if_pos h] at h1
      by_cases h' : f b.1 c.1 = 0
      · have e' := (F.eq _ _).1 h'
        rw [← e', if_pos h]; exact h1
      · rw [if_pos h'] at h2
        have := F.trans _ _ _ h1 h2
        rw [if_pos (by omega)]; exact this
/-- The greater one; of two that are equal, the first. -/
def mx {α : Type} (f : α → α → Int) (a b : α) : α := if f a b < 0 then b else a
theorem Cmp.mx_idem {α : Type} {f : α → α → Int} (F : Cmp f) (a : α) : mx f a a = a := by rw [mx]; split <;> rfl
theorem Cmp.mx_comm {α : Type} {f : α → α → Int} (F : Cmp f) (a b : α) : mx f a b = mx f b a := by
  have h1 := F.tri a b; have h2 := F.sym a b; have h3 := F.eq a b
  rw [mx, mx]
  rcases h1 with h | h | h
  · rw [if_pos (by omega), if_neg (by omega)]
  · rw [h3.1 h]
  · rw [if_neg (by omega), if_pos (by omega)]
theorem Cmp.mx_assoc {α : Type} {f : α → α → Int} (F : Cmp f) (a b c : α) : mx f (mx f a b) c = mx f a (mx f b c) := by
  have tab := F.tri a b; have tbc := F.tri b c; have tac := F.tri a c
  have sab := F.sym a b; have sbc := F.sym b c; have sac := F.sym a c
  by_cases h1 : f a b < 0
  · by_cases h2 : f b c < 0
    · have h3 := F.trans a b c (by omega) (by omega)
      simp only [mx, if_pos h1, if_pos h2, if_pos (show f a c < 0 by omega)]
    · simp only [mx, if_pos h1, if_neg h2]
  · by_cases h2 : f b c < 0
    · simp only [mx, if_neg h1, if_pos h2]
    · have h3 : ¬f a c < 0 := fun h => by
        by_cases e1 : f a b = 0
        · rw [(F.eq _ _).1 e1] at h; exact h2 h
        · by_cases e2 : f b c = 0
          · rw [← (F.eq _ _).1 e2] at h; exact h1 h
          · have := F.trans a c b (by omega) (by omega); omega
      simp only [mx, if_neg h1, if_neg h2, if_neg h3]
/-- Lists, one by one; of two that agree, the shorter one first. -/
def cmpL {α : Type} (f : α → α → Int) : List α → List α → Int
  | [], [] => 0
  | [], _ :: _ => -1
  | _ :: _, [] => 1
  | a :: x, b :: y => if f a b ≠ 0 then f a b else cmpL f x y
theorem Cmp.list {α : Type} {f : α → α → Int} (F : Cmp f) : Cmp (cmpL f) := by
  have tri : ∀ a b, cmpL f a b = -1 ∨ cmpL f a b = 0 ∨ cmpL f a b = 1 := fun a => by
    induction a with
    | nil => intro b; cases b <;> simp [cmpL]
    | cons x a ih =>
      intro b
      cases b with
      | nil => simp [cmpL]
      | cons y b =>
        rw [cmpL]; split
        · exact F.tri _ _
        · exact ih b
  have eq : ∀ a b, cmpL f a b = 0 ↔ a = b := fun a => by
    induction a with
    | nil => intro b; cases b <;> simp [cmpL]
    | cons x a ih =>
      intro b
      cases b with
      | nil => simp [cmpL]
      | cons y b =>
        rw [cmpL, List.cons.injEq]; split
        · rename_i h
          exact ⟨fun e => absurd e h, fun e => absurd ((F.eq _ _).2 e.1) h⟩
        · rename_i h
          have h := (F.eq _ _).1 (Classical.not_not.1 h)
          rw [ih]; exact ⟨fun e => ⟨h, e⟩, fun e => e.2⟩
  have sym : ∀ a b, cmpL f b a = - cmpL f a b := fun a => by
    induction a with
    | nil => intro b; cases b <;> rfl
    | cons x a ih =>
      intro b
      cases b with
      | nil => rfl
      | cons y b =>
        have hs := F.sym x y
        rw [cmpL, cmpL]
        by_cases h : f x y = 0
        · rw [if_neg (by omega), if_neg (by omega)]; exact ih b
        · rw [if_pos (by omega), if_pos (by omega)]; exact hs
  have trans : ∀ a b c, cmpL f a b = -1 → cmpL f b c = -1 → cmpL f a c = -1 := fun a => by
    induction a with
    | nil =>
      intro b c h1 h2
      cases b with
      | nil => simp [cmpL] at h1
      | cons y b => cases c with
        | nil => simp [cmpL] at h2
        | cons z c => rfl
    | cons x a ih =>
      intro b c h1 h2
      cases b with
      | nil => simp [cmpL] at h1
      | cons y b => cases c with
        | nil => simp [cmpL] at h2
        | cons z c =>
          rw [cmpL] at *
          by_cases h : f x y = 0
          · rw [if_neg (by omega)] at h1
            have e := (F.eq _ _).1 h
            by_cases h' : f y z = 0
            · rw [if_neg (by omega)] at h2
              have e' := (F.eq _ _).1 h'
              rw [if_neg (by rw [e, e']; exact not_not_intro ((F.eq _ _).2 rfl))]
              exact ih _ _ h1 h2
            · rw [if_pos h'] at h2
              rw [e, if_pos h']; exact h2
          · rw [if_pos h] at h1
            by_cases h' : f y z = 0
            · have e' := (F.eq _ _).1 h'
              rw [← e', if_pos h]; exact h1
            · rw [if_pos h'] at h2
              have := F.trans _ _ _ h1 h2
              rw [if_pos (by omega)]; exact this
  exact ⟨tri, eq, sym, trans⟩
abbrev cmpV := cmpL cmpS
theorem cmpV_ok : Cmp cmpV := cmpS_ok.list
end Kx
