/-
  grey: what was said; bonds; what is open.
  No condition beyond those written in each theorem.
-/
import Derived.Test.YtbljbblijepbbaaKGb
open Go Sx Go.Proofs
set_option linter.unusedSimpArgs false
set_option linter.unusedVariables false
namespace Kx
def deK (d : De) : List Int := [d.a.g, d.a.i, d.b.g, d.b.i]
def cdK (d : Cd) : List Int := [d.a.g, d.a.i, d.b.g, d.b.i]
def sayGo : List (List Int × Bool) → List De → List (List Int × Bool)
  | e, [] => e
  | e, d :: l => sayGo (if (mget e (deK d)).isSome = true then e else e ++ [(deK d, d.s)]) l
def saidL (l : List De) : List (List Int × Bool) := sayGo [] l
def tell : List De → List Int → Option Bool
  | [], _ => none
  | d :: l, k => if deK d = k then some d.s else tell l k
theorem mget_app (e : List (List Int × Bool)) (q : List Int) (b : Bool) (k : List Int) : mget (e ++ [(q, b)]) k = (mget e k).or (if q = k then some b else none) := by
  induction e with
  | nil => by_cases h : q = k <;> simp [mget, h]
  | cons x e ih => by_cases h : x.1 = k <;> simp [mget, h, ih]
theorem mget_go (l : List De) (k : List Int) : ∀ e, mget (sayGo e l) k = (mget e k).or (tell l k) := by
  induction l with
  | nil => intro e; simp [sayGo, tell]
  | cons d l ih =>
    intro e
    rw [sayGo, ih, tell]
    split
    · rename_i h
      by_cases hk : deK d = k
      · subst hk
        obtain ⟨b, hb⟩ := Option.isSome_iff_exists.1 h
        rw [hb]; simp
      · rw [if_neg hk]
    · rename_i h
      rw [mget_app]
      by_cases hk : deK d = k
      · rw [if_pos hk, if_pos hk]
        cases mget e k <;> simp
      · rw [if_neg hk, if_neg hk]
        cases mget e k <;> simp
theorem mget_said (l : List De) (k : List Int) : mget (saidL l) k = tell l k := by rw [saidL, mget_go]; simp [mget]
theorem say_len {l : List De} : ∀ {e}, (∀ x ∈ e, x.1.length = 4) → ∀ x ∈ sayGo e l, x.1.length = 4 := by
  induction l with
  | nil => intro e h; exact h
  | cons d l ih =>
    intro e h
    rw [sayGo]
    refine ih ?_
    split
    · exact h
    · intro x hx
      rcases List.mem_append.1 hx with hx | hx
      · exact h x hx
      · rw [List.mem_singleton.1 hx]; rfl
theorem said_len (l : List De) : ∀ x ∈ saidL l, x.1.length = 4 := say_len (by simp)
theorem app_len {e : List (List Int × Bool)} {d : List Int} {b : Bool} (h : ∀ x ∈ e, x.1.length = 4) (hd : d.length = 4) : ∀ x ∈ e ++ [(d, b)], x.1.length = 4 := fun x hx => by
  rcases List.mem_append.1 hx with hx | hx
  · exact h x hx
  · rw [List.mem_singleton.1 hx]; exact hd
theorem sayGo_step (e : List (List Int × Bool)) (l : List De) (i : Nat) (h : i < l.length) : sayGo e (l.drop i) = sayGo (if (mget e (deK (l.getD i De.z))).isSome = true then e else e ++ [(deK (l.getD i De.z), (l.getD i De.z).s)]) (l.drop (i + 1)) := by
  rw [drop_step l De.z i h]; rfl
theorem isn {o : Option Bool} (h : o.isSome = false) : o = none := by cases o <;> simp_all
theorem said_ct (l : List De) (hn : l.length ≤ 4096) : Ct Try.prog 41 [des l] fun q outs => q = .mapb (saidL l) ∧ outs = [] := by
  refine .det (.of_W (fn := Try.f41) hΓ hm Try.func41 [] [] (by kernel_rfl) (Step.out ?_))
  repeat' first
    | (refine Step.mk ?_; conv => whnf)
    | (refine Vc.om ?_ ?_; first | omega | with_reducible rfl | with_reducible exact same_rfl | (simp only [bytes_2, bytes_3, bytes_4, bytes_5, bytes_9, bytes_12, bytes_21, bytes_22, bytes_25, bytes_27, bytes_28, bytes_30, bytes_32, bytes_33, bytes_36, bytes_37, bytes_38, bytes_39, bytes_41, bytes_42, bytes_43, bytes_44, bytes_45, bytes_46, bytes_52, bytes_56, bytes_58, bytes_60, bytes_67, bytes_68, bytes_69, bytes_70, bytes_71, bytes_72, bytes_73, bytes_74, bytes_75, bytes_76, bytes_77, bytes_81, bytes_84, bytes_85, bytes_87, bytes_95, bytes_96, bytes_111, bytes_115, true_and, and_true] <;> omega))
    | (refine NilB.mk fun b hb => Step.out ?_)
    | with_reducible trivial
    | exact noSh_bool _
    | exact noSh_lit _
    | exact noSh_int _ _
    | exact noSh_str _
    | with_reducible rfl
    | with_reducible exact same_rfl
    | (refine Wr.i64 ?_ ?_; omega)
    | (refine Wr.u8 ?_ ?_; omega)
    | (refine Wr.i32 ?_ ?_; omega)
    | (with_reducible refine Br.tt ?_)
    | (with_reducible refine Br.ff ?_)
    | (refine Br.dT ?_ ?_; omega)
    | (refine Br.dF ?_ ?_; omega)
    | (refine Br.d (fun h => ?_) (fun h => ?_))
    | (refine Br.swap ?_)
    | (refine Br.bnot ?_)
    | (refine Br.mk (fun h => Step.out ?_) (fun h => Step.out ?_))
    | (refine Two.mk (Step.out ?_) (Step.out ?_))
    | (refine Cp.mk fun q hq => Step.out ?_)
    | (refine Ovl.mk (by assumption) (Step.out ?_))
    | (refine CallOK.of_ct (Step.out ?_))
    | (refine CallQ.of_ct (Step.out ?_))
    | (refine Vc.mk ?_ (Step.out ?_))
  refine CodeOK.loopW hΓ hm [] [] (by kernel_rfl) (α := Nat × List (List Int × Bool)) (fun z => [(3, .mref 0), (10, des l), (11, i64 l.length), (12, i64 z.1)]) (fun z => [(0, .mp z.2)]) 1 (fun z => z.1 ≤ l.length ∧ saidL l = sayGo z.2 (l.drop z.1) ∧ ∀ x ∈ z.2, x.1.length = 4) (fun z => l.length - z.1) ?_ ?_
  · refine Again.by (0, []) ⟨Nat.zero_le _, rfl, by simp⟩ ?_
    repeat' first
      | (refine Step.mk ?_; conv => whnf)
      | (refine Vc.om ?_ ?_; first | omega | with_reducible rfl | with_reducible exact same_rfl | (simp only [bytes_2, bytes_3, bytes_4, bytes_5, bytes_9, bytes_12, bytes_21, bytes_22, bytes_25, bytes_27, bytes_28, bytes_30, bytes_32, bytes_33, bytes_36, bytes_37, bytes_38, bytes_39, bytes_41, bytes_42, bytes_43, bytes_44, bytes_45, bytes_46, bytes_52, bytes_56, bytes_58, bytes_60, bytes_67, bytes_68, bytes_69, bytes_70, bytes_71, bytes_72, bytes_73, bytes_74, bytes_75, bytes_76, bytes_77, bytes_81, bytes_84, bytes_85, bytes_87, bytes_95, bytes_96, bytes_111, bytes_115, true_and, and_true] <;> omega))
      | (refine NilB.mk fun b hb => Step.out ?_)
      | with_reducible trivial
      | exact noSh_bool _
      | exact noSh_lit _
      | exact noSh_int _ _
      | exact noSh_str _
      | with_reducible rfl
      | with_reducible exact same_rfl
      | (refine Wr.i64 ?_ ?_; omega)
      | (refine Wr.u8 ?_ ?_; omega)
      | (refine Wr.i32 ?_ ?_; omega)
      | (with_reducible refine Br.tt ?_)
      | (with_reducible refine Br.ff ?_)
      | (refine Br.dT ?_ ?_; omega)
      | (refine Br.dF ?_ ?_; omega)
      | (refine Br.d (fun h => ?_) (fun h => ?_))
      | (refine Br.swap ?_)
      | (refine Br.bnot ?_)
      | (refine Br.mk (fun h => Step.out ?_) (fun h => Step.out ?_))
      | (refine Two.mk (Step.out ?_) (Step.out ?_))
      | (refine Cp.mk fun q hq => Step.out ?_)
      | (refine Ovl.mk (by assumption) (Step.out ?_))
      | (refine CallOK.of_ct (Step.out ?_))
      | (refine CallQ.of_ct (Step.out ?_))
      | (refine Vc.mk ?_ (Step.out ?_))
  · intro ⟨i, e⟩ ⟨h1, h2, h3⟩
    dsimp only at h1 h2 h3 ⊢
    repeat' first
      | (refine Step.mk ?_; conv => whnf)
      | (refine Vc.om ?_ ?_; first | omega | with_reducible rfl | with_reducible exact same_rfl | (simp only [bytes_2, bytes_3, bytes_4, bytes_5, bytes_9, bytes_12, bytes_21, bytes_22, bytes_25, bytes_27, bytes_28, bytes_30, bytes_32, bytes_33, bytes_36, bytes_37, bytes_38, bytes_39, bytes_41, bytes_42, bytes_43, bytes_44, bytes_45, bytes_46, bytes_52, bytes_56, bytes_58, bytes_60, bytes_67, bytes_68, bytes_69, bytes_70, bytes_71, bytes_72, bytes_73, bytes_74, bytes_75, bytes_76, bytes_77, bytes_81, bytes_84, bytes_85, bytes_87, bytes_95, bytes_96, bytes_111, bytes_115, true_and, and_true] <;> omega))
      | (refine NilB.mk fun b hb => Step.out ?_)
      | with_reducible trivial
      | exact noSh_bool _
      | exact noSh_lit _
      | exact noSh_int _ _
      | exact noSh_str _
      | with_reducible rfl
      | with_reducible exact same_rfl
      | (refine Wr.i64 ?_ ?_; omega)
      | (refine Wr.u8 ?_ ?_; omega)
      | (refine Wr.i32 ?_ ?_; omega)
      | (with_reducible refine Br.tt ?_)
      | (with_reducible refine Br.ff ?_)
      | (refine Br.dT ?_ ?_; omega)
      | (refine Br.dF ?_ ?_; omega)
      | (refine Vc.om ?_ ?_; focus (first | exact h3 | exact ⟨h3, isn ‹_›⟩; done))
      | (refine Wr.i64 ?_ ?_; focus (first | exact h3 | exact ⟨h3, isn ‹_›⟩; done))
      | (refine Wr.u8 ?_ ?_; focus (first | exact h3 | exact ⟨h3, isn ‹_›⟩; done))
      | (refine Br.dT ?_ ?_; focus (first | exact h3 | exact ⟨h3, isn ‹_›⟩; done))
      | (refine Br.dF ?_ ?_; focus (first | exact h3 | exact ⟨h3, isn ‹_›⟩; done))
      | (refine Br.d (fun h => ?_) (fun h => ?_))
      | (refine Br.swap ?_)
      | (refine Br.bnot ?_)
      | (refine Br.mk (fun h => Step.out ?_) (fun h => Step.out ?_))
      | (refine Two.mk (Step.out ?_) (Step.out ?_))
      | (refine Cp.mk fun q hq => Step.out ?_)
      | (refine Ovl.mk (by assumption) (Step.out ?_))
      | (refine CallOK.of_ct (Step.out ?_))
      | (refine CallQ.of_ct (Step.out ?_))
      | (refine Vc.mk ?_ (Step.out ?_))
    all_goals try simp only [Int.toNat_natCast] at *
    · refine Again.by (i + 1, e) ⟨⟨by dsimp only; omega, ?_, h3⟩, by dsimp only; omega⟩ ?_
      · rw [h2, sayGo_step e l i (by omega), if_pos (show (mget e (deK (l.getD i De.z))).isSome = true from h)]
      · repeat' first
          | (refine Step.mk ?_; conv => whnf)
          | (refine Vc.om ?_ ?_; first | omega | with_reducible rfl | with_reducible exact same_rfl | (simp only [bytes_2, bytes_3, bytes_4, bytes_5, bytes_9, bytes_12, bytes_21, bytes_22, bytes_25, bytes_27, bytes_28, bytes_30, bytes_32, bytes_33, bytes_36, bytes_37, bytes_38, bytes_39, bytes_41, bytes_42, bytes_43, bytes_44, bytes_45, bytes_46, bytes_52, bytes_56, bytes_58, bytes_60, bytes_67, bytes_68, bytes_69, bytes_70, bytes_71, bytes_72, bytes_73, bytes_74, bytes_75, bytes_76, bytes_77, bytes_81, bytes_84, bytes_85, bytes_87, bytes_95, bytes_96, bytes_111, bytes_115, true_and, and_true] <;> omega))
          | (refine NilB.mk fun b hb => Step.out ?_)
          | with_reducible trivial
          | exact noSh_bool _
          | exact noSh_lit _
          | exact noSh_int _ _
          | exact noSh_str _
          | with_reducible rfl
          | with_reducible exact same_rfl
          | (refine Wr.i64 ?_ ?_; omega)
          | (refine Wr.u8 ?_ ?_; omega)
          | (refine Wr.i32 ?_ ?_; omega)
          | (with_reducible refine Br.tt ?_)
          | (with_reducible refine Br.ff ?_)
          | (refine Br.dT ?_ ?_; omega)
          | (refine Br.dF ?_ ?_; omega)
          | (refine Br.d (fun h => ?_) (fun h => ?_))
          | (refine Br.swap ?_)
          | (refine Br.bnot ?_)
          | (refine Br.mk (fun h => Step.out ?_) (fun h => Step.out ?_))
          | (refine Two.mk (Step.out ?_) (Step.out ?_))
          | (refine Cp.mk fun q hq => Step.out ?_)
          | (refine Ovl.mk (by assumption) (Step.out ?_))
          | (refine CallOK.of_ct (Step.out ?_))
          | (refine CallQ.of_ct (Step.out ?_))
          | (refine Vc.mk ?_ (Step.out ?_))
    · refine Again.by (i + 1, e ++ [(deK (l.getD i De.z), (l.getD i De.z).s)]) ⟨⟨by dsimp only; omega, ?_, app_len h3 rfl⟩, by dsimp only; omega⟩ ?_
      · rw [h2, sayGo_step e l i (by omega), if_neg (show ¬(mget e (deK (l.getD i De.z))).isSome = true by rw [show (mget e (deK (l.getD i De.z))).isSome = false from h]; simp)]
      · repeat' first
          | (refine Step.mk ?_; conv => whnf)
          | (refine Vc.om ?_ ?_; first | omega | with_reducible rfl | with_reducible exact same_rfl | (simp only [bytes_2, bytes_3, bytes_4, bytes_5, bytes_9, bytes_12, bytes_21, bytes_22, bytes_25, bytes_27, bytes_28, bytes_30, bytes_32, bytes_33, bytes_36, bytes_37, bytes_38, bytes_39, bytes_41, bytes_42, bytes_43, bytes_44, bytes_45, bytes_46, bytes_52, bytes_56, bytes_58, bytes_60, bytes_67, bytes_68, bytes_69, bytes_70, bytes_71, bytes_72, bytes_73, bytes_74, bytes_75, bytes_76, bytes_77, bytes_81, bytes_84, bytes_85, bytes_87, bytes_95, bytes_96, bytes_111, bytes_115, true_and, and_true] <;> omega))
          | (refine NilB.mk fun b hb => Step.out ?_)
          | with_reducible trivial
          | exact noSh_bool _
          | exact noSh_lit _
          | exact noSh_int _ _
          | exact noSh_str _
          | with_reducible rfl
          | with_reducible exact same_rfl
          | (refine Wr.i64 ?_ ?_; omega)
          | (refine Wr.u8 ?_ ?_; omega)
          | (refine Wr.i32 ?_ ?_; omega)
          | (with_reducible refine Br.tt ?_)
          | (with_reducible refine Br.ff ?_)
          | (refine Br.dT ?_ ?_; omega)
          | (refine Br.dF ?_ ?_; omega)
          | (refine Br.d (fun h => ?_) (fun h => ?_))
          | (refine Br.swap ?_)
          | (refine Br.bnot ?_)
          | (refine Br.mk (fun h => Step.out ?_) (fun h => Step.out ?_))
          | (refine Two.mk (Step.out ?_) (Step.out ?_))
          | (refine Cp.mk fun q hq => Step.out ?_)
          | (refine Ovl.mk (by assumption) (Step.out ?_))
          | (refine CallOK.of_ct (Step.out ?_))
          | (refine CallQ.of_ct (Step.out ?_))
          | (refine Vc.mk ?_ (Step.out ?_))
        rfl
    · rw [h2, List.drop_of_length_le (by omega)]; rfl
/-- A bond. -/
structure Bd where
  a : Rf
  b : Rf
  w : Int
deriving DecidableEq
def Bd.f (c : Bd) : List D := [i64 c.a.g, i64 c.a.i, i64 c.b.g, i64 c.b.i, i64 c.w]
def Bd.z : Bd := ⟨⟨0, 0⟩, ⟨0, 0⟩, 0⟩
def bds (l : List Bd) : D := .tab 5 l.length fun i => Bd.f (l.getD i Bd.z)
def counts (t : Th) (s : List De) (c : Cd) : Bool := (decide (cls t c.w = 2) && ((tell s (cdK c)).getD false || !(tell s (cdK c)).isSome)) || (decide (cls t c.w = 1) && (tell s (cdK c)).getD false)
def bndOf (t : Th) (c : Cd) : Bd := ⟨c.a, c.b, max c.w t.hi⟩
def bnd (t : Th) (s : List De) : List Cd → List Bd
  | [] => []
  | c :: l => if counts t s c = true then bndOf t c :: bnd t s l else bnd t s l
theorem bnd_step (t : Th) (s : List De) (l : List Cd) (i : Nat) (h : i < l.length) : bnd t s (l.drop i) = if counts t s (l.getD i Cd.z) = true then bndOf t (l.getD i Cd.z) :: bnd t s (l.drop (i + 1)) else bnd t s (l.drop (i + 1)) := by
  rw [drop_step l Cd.z i h]; rfl
theorem fault_le {t : Th} {l : List Cd} {s : List De} (h : fault t l s = 0) : l.length ≤ 4096 ∧ s.length ≤ 4096 ∧ cands l = 0 ∧ decided s = 0 ∧ chkT t = 0 := by
  unfold fault at h
  split at h
  · contradiction
  split at h
  · contradiction
  rename_i h1 h2
  have h1 := Classical.not_not.1 h1
  have h2 := Classical.not_not.1 h2
  refine ⟨?_, ?_, h2, h, h1⟩
  · unfold cands at h2; split at h2
    · cases h2
    · omega
  · unfold decided at h; split at h
    · cases h
    · omega
theorem getD_app {α : Type} (l m : List α) (i : Nat) (z : α) : (l ++ m).getD i z = if i < l.length then l.getD i z else m.getD (i - l.length) z := by
  simp only [List.getD_eq_getElem?_getD, List.getElem?_append]; split <;> rfl
theorem app1 {α : Type} (F : α → List D) (z : α) (hF : ∀ (c : Prop) [Decidable c] (x y : α), iteL c (F x) (F y) = F (if c then x else y)) (l : List α) (x : α) :
    l.length + 1 = (l ++ [x]).length ∧ ∀ i, i < (l ++ [x]).length → iteL (i < l.length) (F (l.getD i z)) (selC [F x] (i - l.length)) = F ((l ++ [x]).getD i z) := by
  refine ⟨by simp, fun i hi => ?_⟩
  have hi : i < l.length + 1 := by simpa using hi
  by_cases h : i < l.length
  · rw [show selC [F x] (i - l.length) = F x by rw [show i - l.length = 0 by omega]; rfl, hF, if_pos h, getD_app, if_pos h]
  · rw [show i = l.length by omega, Nat.sub_self, show selC [F x] 0 = F x from rfl, hF, if_neg (by omega), getD_app, if_neg (by omega), Nat.sub_self]; rfl
theorem ite_bd (c : Prop) [Decidable c] (x y : Bd) : iteL c (Bd.f x) (Bd.f y) = Bd.f (if c then x else y) := by
  show [i64 (if c then _ else _), i64 (if c then _ else _), i64 (if c then _ else _), i64 (if c then _ else _), i64 (if c then _ else _)] = _
  split <;> rfl
theorem ite_cd (c : Prop) [Decidable c] (x y : Cd) : iteL c (Cd.f x) (Cd.f y) = Cd.f (if c then x else y) := by
  show [i64 (if c then _ else _), i64 (if c then _ else _), i64 (if c then _ else _), i64 (if c then _ else _), i64 (if c then _ else _), i64 (if c then _ else _)] = _
  split <;> rfl
theorem bonds_no (t : Th) (l : List Cd) (s : List De) (hf : fault t l s ≠ 0) : Ct Try.prog 13 [t.d, cds l, des s] fun q outs => q = .tup [bds [], i64 (fault t l s)] ∧ outs = [] := by
  refine .det (.of_W (fn := Try.f13) hΓ hm Try.func13 [] [] (by kernel_rfl) (Step.out ?_))
  repeat' first
    | (refine Step.mk ?_; conv => whnf)
    | (refine Vc.om ?_ ?_; first | omega | with_reducible rfl | with_reducible exact same_rfl | (simp only [bytes_2, bytes_3, bytes_4, bytes_5, bytes_9, bytes_12, bytes_21, bytes_22, bytes_25, bytes_27, bytes_28, bytes_30, bytes_32, bytes_33, bytes_36, bytes_37, bytes_38, bytes_39, bytes_41, bytes_42, bytes_43, bytes_44, bytes_45, bytes_46, bytes_52, bytes_56, bytes_58, bytes_60, bytes_67, bytes_68, bytes_69, bytes_70, bytes_71, bytes_72, bytes_73, bytes_74, bytes_75, bytes_76, bytes_77, bytes_81, bytes_84, bytes_85, bytes_87, bytes_95, bytes_96, bytes_111, bytes_115, true_and, and_true] <;> omega))
    | (refine NilB.mk fun b hb => Step.out ?_)
    | with_reducible trivial
    | exact noSh_bool _
    | exact noSh_lit _
    | exact noSh_int _ _
    | exact noSh_str _
    | with_reducible rfl
    | with_reducible exact same_rfl
    | (refine Wr.i64 ?_ ?_; omega)
    | (refine Wr.u8 ?_ ?_; omega)
    | (refine Wr.i32 ?_ ?_; omega)
    | (with_reducible refine Br.tt ?_)
    | (with_reducible refine Br.ff ?_)
    | (refine Br.dT ?_ ?_; omega)
    | (refine Br.dF ?_ ?_; omega)
    | (refine Br.d (fun h => ?_) (fun h => ?_))
    | (refine Br.swap ?_)
    | (refine Br.bnot ?_)
    | (refine Br.mk (fun h => Step.out ?_) (fun h => Step.out ?_))
    | (refine Two.mk (Step.out ?_) (Step.out ?_))
    | (refine Cp.mk fun q hq => Step.out ?_)
    | (refine Ovl.mk (by assumption) (Step.out ?_))
    | (refine CallOK.of_ct (Step.out ?_))
    | (refine CallQ.of_ct (Step.out ?_))
    | (refine Met.by (g := 16) (class_ct _ _) ?_; rintro q outs ⟨rfl, rfl⟩)
    | (refine Met.by (g := 40) (gcheck_ct _ _ _) ?_; rintro q outs ⟨rfl, rfl⟩)
    | (refine Met.by (g := 41) (said_ct _ (by assumption)) ?_; rintro q outs ⟨rfl, rfl⟩)
    | (refine Vc.mk ?_ (Step.out ?_))
theorem bonds_ok (t : Th) (l : List Cd) (s : List De) (hf : fault t l s = 0) : Ct Try.prog 13 [t.d, cds l, des s] fun q outs => q = .tup [bds (bnd t s l), i64 0] ∧ outs = [] := by
  obtain ⟨hl, hs, _⟩ := fault_le hf
  refine .det (.of_W (fn := Try.f13) hΓ hm Try.func13 [] [] (by kernel_rfl) (Step.out ?_))
  repeat' first
    | (refine Step.mk ?_; conv => whnf)
    | (refine Vc.om ?_ ?_; first | omega | with_reducible rfl | with_reducible exact same_rfl | (simp only [bytes_2, bytes_3, bytes_4, bytes_5, bytes_9, bytes_12, bytes_21, bytes_22, bytes_25, bytes_27, bytes_28, bytes_30, bytes_32, bytes_33, bytes_36, bytes_37, bytes_38, bytes_39, bytes_41, bytes_42, bytes_43, bytes_44, bytes_45, bytes_46, bytes_52, bytes_56, bytes_58, bytes_60, bytes_67, bytes_68, bytes_69, bytes_70, bytes_71, bytes_72, bytes_73, bytes_74, bytes_75, bytes_76, bytes_77, bytes_81, bytes_84, bytes_85, bytes_87, bytes_95, bytes_96, bytes_111, bytes_115, true_and, and_true] <;> omega))
    | (refine NilB.mk fun b hb => Step.out ?_)
    | with_reducible trivial
    | exact noSh_bool _
    | exact noSh_lit _
    | exact noSh_int _ _
    | exact noSh_str _
    | with_reducible rfl
    | with_reducible exact same_rfl
    | (refine Wr.i64 ?_ ?_; omega)
    | (refine Wr.u8 ?_ ?_; omega)
    | (refine Wr.i32 ?_ ?_; omega)
    | (with_reducible refine Br.tt ?_)
    | (with_reducible refine Br.ff ?_)
    | (refine Br.dT ?_ ?_; omega)
    | (refine Br.dF ?_ ?_; omega)
    | (refine Br.d (fun h => ?_) (fun h => ?_))
    | (refine Br.swap ?_)
    | (refine Br.bnot ?_)
    | (refine Br.mk (fun h => Step.out ?_) (fun h => Step.out ?_))
    | (refine Two.mk (Step.out ?_) (Step.out ?_))
    | (refine Cp.mk fun q hq => Step.out ?_)
    | (refine Ovl.mk (by assumption) (Step.out ?_))
    | (refine CallOK.of_ct (Step.out ?_))
    | (refine CallQ.of_ct (Step.out ?_))
    | (refine Met.by (g := 16) (class_ct _ _) ?_; rintro q outs ⟨rfl, rfl⟩)
    | (refine Met.by (g := 40) (gcheck_ct _ _ _) ?_; rintro q outs ⟨rfl, rfl⟩)
    | (refine Met.by (g := 41) (said_ct _ (by assumption)) ?_; rintro q outs ⟨rfl, rfl⟩)
    | (refine Vc.mk ?_ (Step.out ?_))
  refine CodeOK.loopW hΓ hm [] [] (by kernel_rfl) (α := Nat × List Bd) (fun z => [(3, .loc 0 0), (9, .mapb (saidL s)), (10, .own 1), (25, cds l), (26, i64 l.length), (27, i64 z.1)]) (fun z => [(0, .var [i64 t.lo, i64 t.hi]), (1, .arr 46 5 z.2.length fun j => Bd.f (z.2.getD j Bd.z))]) 2 (fun z => z.1 ≤ l.length ∧ z.2 ++ bnd t s (l.drop z.1) = bnd t s l ∧ z.2.length ≤ z.1) (fun z => l.length - z.1) ?_ ?_
  · refine Again.by (0, []) ⟨Nat.zero_le _, rfl, Nat.le_refl _⟩ ?_
    repeat' first
      | (refine Step.mk ?_; conv => whnf)
      | (refine Vc.om ?_ ?_; first | omega | with_reducible rfl | with_reducible exact same_rfl | (simp only [bytes_2, bytes_3, bytes_4, bytes_5, bytes_9, bytes_12, bytes_21, bytes_22, bytes_25, bytes_27, bytes_28, bytes_30, bytes_32, bytes_33, bytes_36, bytes_37, bytes_38, bytes_39, bytes_41, bytes_42, bytes_43, bytes_44, bytes_45, bytes_46, bytes_52, bytes_56, bytes_58, bytes_60, bytes_67, bytes_68, bytes_69, bytes_70, bytes_71, bytes_72, bytes_73, bytes_74, bytes_75, bytes_76, bytes_77, bytes_81, bytes_84, bytes_85, bytes_87, bytes_95, bytes_96, bytes_111, bytes_115, true_and, and_true] <;> omega))
      | (refine NilB.mk fun b hb => Step.out ?_)
      | with_reducible trivial
      | exact noSh_bool _
      | exact noSh_lit _
      | exact noSh_int _ _
      | exact noSh_str _
      | with_reducible rfl
      | with_reducible exact same_rfl
      | (refine Wr.i64 ?_ ?_; omega)
      | (refine Wr.u8 ?_ ?_; omega)
      | (refine Wr.i32 ?_ ?_; omega)
      | (with_reducible refine Br.tt ?_)
      | (with_reducible refine Br.ff ?_)
      | (refine Br.dT ?_ ?_; omega)
      | (refine Br.dF ?_ ?_; omega)
      | (refine Br.d (fun h => ?_) (fun h => ?_))
      | (refine Br.swap ?_)
      | (refine Br.bnot ?_)
      | (refine Br.mk (fun h => Step.out ?_) (fun h => Step.out ?_))
      | (refine Two.mk (Step.out ?_) (Step.out ?_))
      | (refine Cp.mk fun q hq => Step.out ?_)
      | (refine Ovl.mk (by assumption) (Step.out ?_))
      | (refine CallOK.of_ct (Step.out ?_))
      | (refine CallQ.of_ct (Step.out ?_))
      | (refine Met.by (g := 16) (class_ct _ _) ?_; rintro q outs ⟨rfl, rfl⟩)
      | (refine Met.by (g := 40) (gcheck_ct _ _ _) ?_; rintro q outs ⟨rfl, rfl⟩)
      | (refine Met.by (g := 41) (said_ct _ (by assumption)) ?_; rintro q outs ⟨rfl, rfl⟩)
      | (refine Vc.mk ?_ (Step.out ?_))
    all_goals rfl
  · intro ⟨i, e⟩ ⟨h1, h2, h3⟩
    dsimp only at h1 h2 h3 ⊢
    repeat' first
      | (refine Step.mk ?_; conv => whnf)
      | (refine Vc.om ?_ ?_; first | omega | with_reducible rfl | with_reducible exact same_rfl | (simp only [bytes_2, bytes_3, bytes_4, bytes_5, bytes_9, bytes_12, bytes_21, bytes_22, bytes_25, bytes_27, bytes_28, bytes_30, bytes_32, bytes_33, bytes_36, bytes_37, bytes_38, bytes_39, bytes_41, bytes_42, bytes_43, bytes_44, bytes_45, bytes_46, bytes_52, bytes_56, bytes_58, bytes_60, bytes_67, bytes_68, bytes_69, bytes_70, bytes_71, bytes_72, bytes_73, bytes_74, bytes_75, bytes_76, bytes_77, bytes_81, bytes_84, bytes_85, bytes_87, bytes_95, bytes_96, bytes_111, bytes_115, true_and, and_true] <;> omega))
      | (refine NilB.mk fun b hb => Step.out ?_)
      | with_reducible trivial
      | exact noSh_bool _
      | exact noSh_lit _
      | exact noSh_int _ _
      | exact noSh_str _
      | with_reducible rfl
      | with_reducible exact same_rfl
      | (refine Wr.i64 ?_ ?_; omega)
      | (refine Wr.u8 ?_ ?_; omega)
      | (refine Wr.i32 ?_ ?_; omega)
      | (with_reducible refine Br.tt ?_)
      | (with_reducible refine Br.ff ?_)
      | (refine Br.dT ?_ ?_; omega)
      | (refine Br.dF ?_ ?_; omega)
      | (refine Vc.om ?_ ?_; focus (exact said_len s; done))
      | (refine Wr.i64 ?_ ?_; focus (exact said_len s; done))
      | (refine Wr.u8 ?_ ?_; focus (exact said_len s; done))
      | (refine Br.dT ?_ ?_; focus (exact said_len s; done))
      | (refine Br.dF ?_ ?_; focus (exact said_len s; done))
      | (refine Br.d (fun h => ?_) (fun h => ?_))
      | (refine Br.swap ?_)
      | (refine Br.bnot ?_)
      | (refine Br.mk (fun h => Step.out ?_) (fun h => Step.out ?_))
      | (refine Two.mk (Step.out ?_) (Step.out ?_))
      | (refine Cp.mk fun q hq => Step.out ?_)
      | (refine Ovl.mk (by assumption) (Step.out ?_))
      | (refine CallOK.of_ct (Step.out ?_))
      | (refine CallQ.of_ct (Step.out ?_))
      | (refine Met.by (g := 16) (class_ct _ _) ?_; rintro q outs ⟨rfl, rfl⟩)
      | (refine Met.by (g := 40) (gcheck_ct _ _ _) ?_; rintro q outs ⟨rfl, rfl⟩)
      | (refine Met.by (g := 41) (said_ct _ (by assumption)) ?_; rintro q outs ⟨rfl, rfl⟩)
      | (refine Vc.mk ?_ (Step.out ?_))
    all_goals try simp only [Int.toNat_natCast] at *
    all_goals try
      have hc : counts t s (l.getD i Cd.z) = true := by clear h1 h2 h3 hf hl hs; unfold counts cdK; rw [← mget_said]; generalize mget (saidL s) _ = o at *; (rcases o with _ | _ | _) <;> simp_all; done
      refine Again.by (i + 1, e ++ [bndOf t (l.getD i Cd.z)]) ⟨⟨by dsimp only; omega, ?_, by simp; omega⟩, by dsimp only; omega⟩ ?_
      · rw [← h2, bnd_step t s l i (by omega), if_pos hc, List.append_assoc]; rfl
      · repeat' first
          | (refine Step.mk ?_; conv => whnf)
          | (refine Vc.om ?_ ?_; first | omega | with_reducible rfl | with_reducible exact same_rfl | (simp only [bytes_2, bytes_3, bytes_4, bytes_5, bytes_9, bytes_12, bytes_21, bytes_22, bytes_25, bytes_27, bytes_28, bytes_30, bytes_32, bytes_33, bytes_36, bytes_37, bytes_38, bytes_39, bytes_41, bytes_42, bytes_43, bytes_44, bytes_45, bytes_46, bytes_52, bytes_56, bytes_58, bytes_60, bytes_67, bytes_68, bytes_69, bytes_70, bytes_71, bytes_72, bytes_73, bytes_74, bytes_75, bytes_76, bytes_77, bytes_81, bytes_84, bytes_85, bytes_87, bytes_95, bytes_96, bytes_111, bytes_115, true_and, and_true] <;> omega))
          | (refine NilB.mk fun b hb => Step.out ?_)
          | with_reducible trivial
          | exact noSh_bool _
          | exact noSh_lit _
          | exact noSh_int _ _
          | exact noSh_str _
          | with_reducible rfl
          | with_reducible exact same_rfl
          | (refine Wr.i64 ?_ ?_; omega)
          | (refine Wr.u8 ?_ ?_; omega)
          | (refine Wr.i32 ?_ ?_; omega)
          | (with_reducible refine Br.tt ?_)
          | (with_reducible refine Br.ff ?_)
          | (refine Br.dT ?_ ?_; omega)
          | (refine Br.dF ?_ ?_; omega)
          | (refine Br.d (fun h => ?_) (fun h => ?_))
          | (refine Br.swap ?_)
          | (refine Br.bnot ?_)
          | (refine Br.mk (fun h => Step.out ?_) (fun h => Step.out ?_))
          | (refine Two.mk (Step.out ?_) (Step.out ?_))
          | (refine Cp.mk fun q hq => Step.out ?_)
          | (refine Ovl.mk (by assumption) (Step.out ?_))
          | (refine CallOK.of_ct (Step.out ?_))
          | (refine CallQ.of_ct (Step.out ?_))
          | (refine Met.by (g := 16) (class_ct _ _) ?_; rintro q outs ⟨rfl, rfl⟩)
          | (refine Met.by (g := 40) (gcheck_ct _ _ _) ?_; rintro q outs ⟨rfl, rfl⟩)
          | (refine Met.by (g := 41) (said_ct _ (by assumption)) ?_; rintro q outs ⟨rfl, rfl⟩)
          | (refine Vc.mk ?_ (Step.out ?_))
        exact app1 Bd.f Bd.z ite_bd e (bndOf t (l.getD i Cd.z))
    all_goals try
      have hc : counts t s (l.getD i Cd.z) = false := by clear h1 h2 h3 hf hl hs; unfold counts cdK; rw [← mget_said]; generalize mget (saidL s) _ = o at *; (rcases o with _ | _ | _) <;> simp_all; done
      refine Again.by (i + 1, e) ⟨⟨by dsimp only; omega, ?_, by dsimp only; omega⟩, by dsimp only; omega⟩ ?_
      · rw [← h2, bnd_step t s l i (by omega), if_neg (by rw [hc]; simp)]
      · repeat' first
          | (refine Step.mk ?_; conv => whnf)
          | (refine Vc.om ?_ ?_; first | omega | with_reducible rfl | with_reducible exact same_rfl | (simp only [bytes_2, bytes_3, bytes_4, bytes_5, bytes_9, bytes_12, bytes_21, bytes_22, bytes_25, bytes_27, bytes_28, bytes_30, bytes_32, bytes_33, bytes_36, bytes_37, bytes_38, bytes_39, bytes_41, bytes_42, bytes_43, bytes_44, bytes_45, bytes_46, bytes_52, bytes_56, bytes_58, bytes_60, bytes_67, bytes_68, bytes_69, bytes_70, bytes_71, bytes_72, bytes_73, bytes_74, bytes_75, bytes_76, bytes_77, bytes_81, bytes_84, bytes_85, bytes_87, bytes_95, bytes_96, bytes_111, bytes_115, true_and, and_true] <;> omega))
          | (refine NilB.mk fun b hb => Step.out ?_)
          | with_reducible trivial
          | exact noSh_bool _
          | exact noSh_lit _
          | exact noSh_int _ _
          | exact noSh_str _
          | with_reducible rfl
          | with_reducible exact same_rfl
          | (refine Wr.i64 ?_ ?_; omega)
          | (refine Wr.u8 ?_ ?_; omega)
          | (refine Wr.i32 ?_ ?_; omega)
          | (with_reducible refine Br.tt ?_)
          | (with_reducible refine Br.ff ?_)
          | (refine Br.dT ?_ ?_; omega)
          | (refine Br.dF ?_ ?_; omega)
          | (refine Br.d (fun h => ?_) (fun h => ?_))
          | (refine Br.swap ?_)
          | (refine Br.bnot ?_)
          | (refine Br.mk (fun h => Step.out ?_) (fun h => Step.out ?_))
          | (refine Two.mk (Step.out ?_) (Step.out ?_))
          | (refine Cp.mk fun q hq => Step.out ?_)
          | (refine Ovl.mk (by assumption) (Step.out ?_))
          | (refine CallOK.of_ct (Step.out ?_))
          | (refine CallQ.of_ct (Step.out ?_))
          | (refine Met.by (g := 16) (class_ct _ _) ?_; rintro q outs ⟨rfl, rfl⟩)
          | (refine Met.by (g := 40) (gcheck_ct _ _ _) ?_; rintro q outs ⟨rfl, rfl⟩)
          | (refine Met.by (g := 41) (said_ct _ (by assumption)) ?_; rintro q outs ⟨rfl, rfl⟩)
          | (refine Vc.mk ?_ (Step.out ?_))
    · have he : e = bnd t s l := by rw [← h2, List.drop_of_length_le (by omega), bnd, List.append_nil]
      rw [he]; exact ⟨rfl, fun _ _ => rfl⟩
def bondsL (t : Th) (l : List Cd) (s : List De) : List Bd := if fault t l s = 0 then bnd t s l else []
theorem bonds_ct (t : Th) (l : List Cd) (s : List De) : Ct Try.prog 13 [t.d, cds l, des s] fun q outs => q = .tup [bds (bondsL t l s), i64 (fault t l s)] ∧ outs = [] := by
  by_cases hf : fault t l s = 0
  · have := bonds_ok t l s hf
    rw [bondsL, if_pos hf, hf]; exact this
  · have := bonds_no t l s hf
    rw [bondsL, if_neg hf]; exact this
def isOpen (t : Th) (s : List De) (c : Cd) : Bool := !(tell s (cdK c)).isSome && decide (cls t c.w = 1)
def opn (t : Th) (s : List De) : List Cd → List Cd
  | [] => []
  | c :: l => if isOpen t s c = true then c :: opn t s l else opn t s l
theorem opn_step (t : Th) (s : List De) (l : List Cd) (i : Nat) (h : i < l.length) : opn t s (l.drop i) = if isOpen t s (l.getD i Cd.z) = true then (l.getD i Cd.z) :: opn t s (l.drop (i + 1)) else opn t s (l.drop (i + 1)) := by
  rw [drop_step l Cd.z i h]; rfl
theorem open_no (t : Th) (l : List Cd) (s : List De) (hf : fault t l s ≠ 0) : Ct Try.prog 15 [t.d, cds l, des s] fun q outs => q = .tup [cds [], i64 (fault t l s)] ∧ outs = [] := by
  refine .det (.of_W (fn := Try.f15) hΓ hm Try.func15 [] [] (by kernel_rfl) (Step.out ?_))
  repeat' first
    | (refine Step.mk ?_; conv => whnf)
    | (refine Vc.om ?_ ?_; first | omega | with_reducible rfl | with_reducible exact same_rfl | (simp only [bytes_2, bytes_3, bytes_4, bytes_5, bytes_9, bytes_12, bytes_21, bytes_22, bytes_25, bytes_27, bytes_28, bytes_30, bytes_32, bytes_33, bytes_36, bytes_37, bytes_38, bytes_39, bytes_41, bytes_42, bytes_43, bytes_44, bytes_45, bytes_46, bytes_52, bytes_56, bytes_58, bytes_60, bytes_67, bytes_68, bytes_69, bytes_70, bytes_71, bytes_72, bytes_73, bytes_74, bytes_75, bytes_76, bytes_77, bytes_81, bytes_84, bytes_85, bytes_87, bytes_95, bytes_96, bytes_111, bytes_115, true_and, and_true] <;> omega))
    | (refine NilB.mk fun b hb => Step.out ?_)
    | with_reducible trivial
    | exact noSh_bool _
    | exact noSh_lit _
    | exact noSh_int _ _
    | exact noSh_str _
    | with_reducible rfl
    | with_reducible exact same_rfl
    | (refine Wr.i64 ?_ ?_; omega)
    | (refine Wr.u8 ?_ ?_; omega)
    | (refine Wr.i32 ?_ ?_; omega)
    | (with_reducible refine Br.tt ?_)
    | (with_reducible refine Br.ff ?_)
    | (refine Br.dT ?_ ?_; omega)
    | (refine Br.dF ?_ ?_; omega)
    | (refine Br.d (fun h => ?_) (fun h => ?_))
    | (refine Br.swap ?_)
    | (refine Br.bnot ?_)
    | (refine Br.mk (fun h => Step.out ?_) (fun h => Step.out ?_))
    | (refine Two.mk (Step.out ?_) (Step.out ?_))
    | (refine Cp.mk fun q hq => Step.out ?_)
    | (refine Ovl.mk (by assumption) (Step.out ?_))
    | (refine CallOK.of_ct (Step.out ?_))
    | (refine CallQ.of_ct (Step.out ?_))
    | (refine Met.by (g := 16) (class_ct _ _) ?_; rintro q outs ⟨rfl, rfl⟩)
    | (refine Met.by (g := 40) (gcheck_ct _ _ _) ?_; rintro q outs ⟨rfl, rfl⟩)
    | (refine Met.by (g := 41) (said_ct _ (by assumption)) ?_; rintro q outs ⟨rfl, rfl⟩)
    | (refine Vc.mk ?_ (Step.out ?_))
theorem open_ok (t : Th) (l : List Cd) (s : List De) (hf : fault t l s = 0) : Ct Try.prog 15 [t.d, cds l, des s] fun q outs => q = .tup [cds (opn t s l), i64 0] ∧ outs = [] := by
  obtain ⟨hl, hs, _⟩ := fault_le hf
  refine .det (.of_W (fn := Try.f15) hΓ hm Try.func15 [] [] (by kernel_rfl) (Step.out ?_))
  repeat' first
    | (refine Step.mk ?_; conv => whnf)
    | (refine Vc.om ?_ ?_; first | omega | with_reducible rfl | with_reducible exact same_rfl | (simp only [bytes_2, bytes_3, bytes_4, bytes_5, bytes_9, bytes_12, bytes_21, bytes_22, bytes_25, bytes_27, bytes_28, bytes_30, bytes_32, bytes_33, bytes_36, bytes_37, bytes_38, bytes_39, bytes_41, bytes_42, bytes_43, bytes_44, bytes_45, bytes_46, bytes_52, bytes_56, bytes_58, bytes_60, bytes_67, bytes_68, bytes_69, bytes_70, bytes_71, bytes_72, bytes_73, bytes_74, bytes_75, bytes_76, bytes_77, bytes_81, bytes_84, bytes_85, bytes_87, bytes_95, bytes_96, bytes_111, bytes_115, true_and, and_true] <;> omega))
    | (refine NilB.mk fun b hb => Step.out ?_)
    | with_reducible trivial
    | exact noSh_bool _
    | exact noSh_lit _
    | exact noSh_int _ _
    | exact noSh_str _
    | with_reducible rfl
    | with_reducible exact same_rfl
    | (refine Wr.i64 ?_ ?_; omega)
    | (refine Wr.u8 ?_ ?_; omega)
    | (refine Wr.i32 ?_ ?_; omega)
    | (with_reducible refine Br.tt ?_)
    | (with_reducible refine Br.ff ?_)
    | (refine Br.dT ?_ ?_; omega)
    | (refine Br.dF ?_ ?_; omega)
    | (refine Br.d (fun h => ?_) (fun h => ?_))
    | (refine Br.swap ?_)
    | (refine Br.bnot ?_)
    | (refine Br.mk (fun h => Step.out ?_) (fun h => Step.out ?_))
    | (refine Two.mk (Step.out ?_) (Step.out ?_))
    | (refine Cp.mk fun q hq => Step.out ?_)
    | (refine Ovl.mk (by assumption) (Step.out ?_))
    | (refine CallOK.of_ct (Step.out ?_))
    | (refine CallQ.of_ct (Step.out ?_))
    | (refine Met.by (g := 16) (class_ct _ _) ?_; rintro q outs ⟨rfl, rfl⟩)
    | (refine Met.by (g := 40) (gcheck_ct _ _ _) ?_; rintro q outs ⟨rfl, rfl⟩)
    | (refine Met.by (g := 41) (said_ct _ (by assumption)) ?_; rintro q outs ⟨rfl, rfl⟩)
    | (refine Vc.mk ?_ (Step.out ?_))
  refine CodeOK.loopW hΓ hm [] [] (by kernel_rfl) (α := Nat × List Cd) (fun z => [(3, .loc 0 0), (9, .mapb (saidL s)), (10, .own 1), (24, cds l), (25, i64 l.length), (26, i64 z.1)]) (fun z => [(0, .var [i64 t.lo, i64 t.hi]), (1, .arr 39 6 z.2.length fun j => Cd.f (z.2.getD j Cd.z))]) 2 (fun z => z.1 ≤ l.length ∧ z.2 ++ opn t s (l.drop z.1) = opn t s l ∧ z.2.length ≤ z.1) (fun z => l.length - z.1) ?_ ?_
  · refine Again.by (0, []) ⟨Nat.zero_le _, rfl, Nat.le_refl _⟩ ?_
    repeat' first
      | (refine Step.mk ?_; conv => whnf)
      | (refine Vc.om ?_ ?_; first | omega | with_reducible rfl | with_reducible exact same_rfl | (simp only [bytes_2, bytes_3, bytes_4, bytes_5, bytes_9, bytes_12, bytes_21, bytes_22, bytes_25, bytes_27, bytes_28, bytes_30, bytes_32, bytes_33, bytes_36, bytes_37, bytes_38, bytes_39, bytes_41, bytes_42, bytes_43, bytes_44, bytes_45, bytes_46, bytes_52, bytes_56, bytes_58, bytes_60, bytes_67, bytes_68, bytes_69, bytes_70, bytes_71, bytes_72, bytes_73, bytes_74, bytes_75, bytes_76, bytes_77, bytes_81, bytes_84, bytes_85, bytes_87, bytes_95, bytes_96, bytes_111, bytes_115, true_and, and_true] <;> omega))
      | (refine NilB.mk fun b hb => Step.out ?_)
      | with_reducible trivial
      | exact noSh_bool _
      | exact noSh_lit _
      | exact noSh_int _ _
      | exact noSh_str _
      | with_reducible rfl
      | with_reducible exact same_rfl
      | (refine Wr.i64 ?_ ?_; omega)
      | (refine Wr.u8 ?_ ?_; omega)
      | (refine Wr.i32 ?_ ?_; omega)
      | (with_reducible refine Br.tt ?_)
      | (with_reducible refine Br.ff ?_)
      | (refine Br.dT ?_ ?_; omega)
      | (refine Br.dF ?_ ?_; omega)
      | (refine Br.d (fun h => ?_) (fun h => ?_))
      | (refine Br.swap ?_)
      | (refine Br.bnot ?_)
      | (refine Br.mk (fun h => Step.out ?_) (fun h => Step.out ?_))
      | (refine Two.mk (Step.out ?_) (Step.out ?_))
      | (refine Cp.mk fun q hq => Step.out ?_)
      | (refine Ovl.mk (by assumption) (Step.out ?_))
      | (refine CallOK.of_ct (Step.out ?_))
      | (refine CallQ.of_ct (Step.out ?_))
      | (refine Met.by (g := 16) (class_ct _ _) ?_; rintro q outs ⟨rfl, rfl⟩)
      | (refine Met.by (g := 40) (gcheck_ct _ _ _) ?_; rintro q outs ⟨rfl, rfl⟩)
      | (refine Met.by (g := 41) (said_ct _ (by assumption)) ?_; rintro q outs ⟨rfl, rfl⟩)
      | (refine Vc.mk ?_ (Step.out ?_))
    all_goals rfl
  · intro ⟨i, e⟩ ⟨h1, h2, h3⟩
    dsimp only at h1 h2 h3 ⊢
    repeat' first
      | (refine Step.mk ?_; conv => whnf)
      | (refine Vc.om ?_ ?_; first | omega | with_reducible rfl | with_reducible exact same_rfl | (simp only [bytes_2, bytes_3, bytes_4, bytes_5, bytes_9, bytes_12, bytes_21, bytes_22, bytes_25, bytes_27, bytes_28, bytes_30, bytes_32, bytes_33, bytes_36, bytes_37, bytes_38, bytes_39, bytes_41, bytes_42, bytes_43, bytes_44, bytes_45, bytes_46, bytes_52, bytes_56, bytes_58, bytes_60, bytes_67, bytes_68, bytes_69, bytes_70, bytes_71, bytes_72, bytes_73, bytes_74, bytes_75, bytes_76, bytes_77, bytes_81, bytes_84, bytes_85, bytes_87, bytes_95, bytes_96, bytes_111, bytes_115, true_and, and_true] <;> omega))
      | (refine NilB.mk fun b hb => Step.out ?_)
      | with_reducible trivial
      | exact noSh_bool _
      | exact noSh_lit _
      | exact noSh_int _ _
      | exact noSh_str _
      | with_reducible rfl
      | with_reducible exact same_rfl
      | (refine Wr.i64 ?_ ?_; omega)
      | (refine Wr.u8 ?_ ?_; omega)
      | (refine Wr.i32 ?_ ?_; omega)
      | (with_reducible refine Br.tt ?_)
      | (with_reducible refine Br.ff ?_)
      | (refine Br.dT ?_ ?_; omega)
      | (refine Br.dF ?_ ?_; omega)
      | (refine Vc.om ?_ ?_; focus (exact said_len s; done))
      | (refine Wr.i64 ?_ ?_; focus (exact said_len s; done))
      | (refine Wr.u8 ?_ ?_; focus (exact said_len s; done))
      | (refine Br.dT ?_ ?_; focus (exact said_len s; done))
      | (refine Br.dF ?_ ?_; focus (exact said_len s; done))
      | (refine Br.d (fun h => ?_) (fun h => ?_))
      | (refine Br.swap ?_)
      | (refine Br.bnot ?_)
      | (refine Br.mk (fun h => Step.out ?_) (fun h => Step.out ?_))
      | (refine Two.mk (Step.out ?_) (Step.out ?_))
      | (refine Cp.mk fun q hq => Step.out ?_)
      | (refine Ovl.mk (by assumption) (Step.out ?_))
      | (refine CallOK.of_ct (Step.out ?_))
      | (refine CallQ.of_ct (Step.out ?_))
      | (refine Met.by (g := 16) (class_ct _ _) ?_; rintro q outs ⟨rfl, rfl⟩)
      | (refine Met.by (g := 40) (gcheck_ct _ _ _) ?_; rintro q outs ⟨rfl, rfl⟩)
      | (refine Met.by (g := 41) (said_ct _ (by assumption)) ?_; rintro q outs ⟨rfl, rfl⟩)
      | (refine Vc.mk ?_ (Step.out ?_))
    all_goals try simp only [Int.toNat_natCast] at *
    all_goals try
      have hc : isOpen t s (l.getD i Cd.z) = true := by clear h1 h2 h3 hf hl hs; unfold isOpen cdK; rw [← mget_said]; generalize mget (saidL s) _ = o at *; (rcases o with _ | _ | _) <;> simp_all; done
      refine Again.by (i + 1, e ++ [l.getD i Cd.z]) ⟨⟨by dsimp only; omega, ?_, by simp; omega⟩, by dsimp only; omega⟩ ?_
      · rw [← h2, opn_step t s l i (by omega), if_pos hc, List.append_assoc]; rfl
      · repeat' first
          | (refine Step.mk ?_; conv => whnf)
          | (refine Vc.om ?_ ?_; first | omega | with_reducible rfl | with_reducible exact same_rfl | (simp only [bytes_2, bytes_3, bytes_4, bytes_5, bytes_9, bytes_12, bytes_21, bytes_22, bytes_25, bytes_27, bytes_28, bytes_30, bytes_32, bytes_33, bytes_36, bytes_37, bytes_38, bytes_39, bytes_41, bytes_42, bytes_43, bytes_44, bytes_45, bytes_46, bytes_52, bytes_56, bytes_58, bytes_60, bytes_67, bytes_68, bytes_69, bytes_70, bytes_71, bytes_72, bytes_73, bytes_74, bytes_75, bytes_76, bytes_77, bytes_81, bytes_84, bytes_85, bytes_87, bytes_95, bytes_96, bytes_111, bytes_115, true_and, and_true] <;> omega))
          | (refine NilB.mk fun b hb => Step.out ?_)
          | with_reducible trivial
          | exact noSh_bool _
          | exact noSh_lit _
          | exact noSh_int _ _
          | exact noSh_str _
          | with_reducible rfl
          | with_reducible exact same_rfl
          | (refine Wr.i64 ?_ ?_; omega)
          | (refine Wr.u8 ?_ ?_; omega)
          | (refine Wr.i32 ?_ ?_; omega)
          | (with_reducible refine Br.tt ?_)
          | (with_reducible refine Br.ff ?_)
          | (refine Br.dT ?_ ?_; omega)
          | (refine Br.dF ?_ ?_; omega)
          | (refine Br.d (fun h => ?_) (fun h => ?_))
          | (refine Br.swap ?_)
          | (refine Br.bnot ?_)
          | (refine Br.mk (fun h => Step.out ?_) (fun h => Step.out ?_))
          | (refine Two.mk (Step.out ?_) (Step.out ?_))
          | (refine Cp.mk fun q hq => Step.out ?_)
          | (refine Ovl.mk (by assumption) (Step.out ?_))
          | (refine CallOK.of_ct (Step.out ?_))
          | (refine CallQ.of_ct (Step.out ?_))
          | (refine Met.by (g := 16) (class_ct _ _) ?_; rintro q outs ⟨rfl, rfl⟩)
          | (refine Met.by (g := 40) (gcheck_ct _ _ _) ?_; rintro q outs ⟨rfl, rfl⟩)
          | (refine Met.by (g := 41) (said_ct _ (by assumption)) ?_; rintro q outs ⟨rfl, rfl⟩)
          | (refine Vc.mk ?_ (Step.out ?_))
        exact app1 Cd.f Cd.z ite_cd e (l.getD i Cd.z)
    all_goals try
      have hc : isOpen t s (l.getD i Cd.z) = false := by clear h1 h2 h3 hf hl hs; unfold isOpen cdK; rw [← mget_said]; generalize mget (saidL s) _ = o at *; (rcases o with _ | _ | _) <;> simp_all; done
      refine Again.by (i + 1, e) ⟨⟨by dsimp only; omega, ?_, by dsimp only; omega⟩, by dsimp only; omega⟩ ?_
      · rw [← h2, opn_step t s l i (by omega), if_neg (by rw [hc]; simp)]
      · repeat' first
          | (refine Step.mk ?_; conv => whnf)
          | (refine Vc.om ?_ ?_; first | omega | with_reducible rfl | with_reducible exact same_rfl | (simp only [bytes_2, bytes_3, bytes_4, bytes_5, bytes_9, bytes_12, bytes_21, bytes_22, bytes_25, bytes_27, bytes_28, bytes_30, bytes_32, bytes_33, bytes_36, bytes_37, bytes_38, bytes_39, bytes_41, bytes_42, bytes_43, bytes_44, bytes_45, bytes_46, bytes_52, bytes_56, bytes_58, bytes_60, bytes_67, bytes_68, bytes_69, bytes_70, bytes_71, bytes_72, bytes_73, bytes_74, bytes_75, bytes_76, bytes_77, bytes_81, bytes_84, bytes_85, bytes_87, bytes_95, bytes_96, bytes_111, bytes_115, true_and, and_true] <;> omega))
          | (refine NilB.mk fun b hb => Step.out ?_)
          | with_reducible trivial
          | exact noSh_bool _
          | exact noSh_lit _
          | exact noSh_int _ _
          | exact noSh_str _
          | with_reducible rfl
          | with_reducible exact same_rfl
          | (refine Wr.i64 ?_ ?_; omega)
          | (refine Wr.u8 ?_ ?_; omega)
          | (refine Wr.i32 ?_ ?_; omega)
          | (with_reducible refine Br.tt ?_)
          | (with_reducible refine Br.ff ?_)
          | (refine Br.dT ?_ ?_; omega)
          | (refine Br.dF ?_ ?_; omega)
          | (refine Br.d (fun h => ?_) (fun h => ?_))
          | (refine Br.swap ?_)
          | (refine Br.bnot ?_)
          | (refine Br.mk (fun h => Step.out ?_) (fun h => Step.out ?_))
          | (refine Two.mk (Step.out ?_) (Step.out ?_))
          | (refine Cp.mk fun q hq => Step.out ?_)
          | (refine Ovl.mk (by assumption) (Step.out ?_))
          | (refine CallOK.of_ct (Step.out ?_))
          | (refine CallQ.of_ct (Step.out ?_))
          | (refine Met.by (g := 16) (class_ct _ _) ?_; rintro q outs ⟨rfl, rfl⟩)
          | (refine Met.by (g := 40) (gcheck_ct _ _ _) ?_; rintro q outs ⟨rfl, rfl⟩)
          | (refine Met.by (g := 41) (said_ct _ (by assumption)) ?_; rintro q outs ⟨rfl, rfl⟩)
          | (refine Vc.mk ?_ (Step.out ?_))
    · have he : e = opn t s l := by rw [← h2, List.drop_of_length_le (by omega), opn, List.append_nil]
      rw [he]; exact ⟨rfl, fun _ _ => rfl⟩
def openL (t : Th) (l : List Cd) (s : List De) : List Cd := if fault t l s = 0 then opn t s l else []
theorem open_ct (t : Th) (l : List Cd) (s : List De) : Ct Try.prog 15 [t.d, cds l, des s] fun q outs => q = .tup [cds (openL t l s), i64 (fault t l s)] ∧ outs = [] := by
  by_cases hf : fault t l s = 0
  · have := open_ok t l s hf
    rw [openL, if_pos hf, hf]; exact this
  · have := open_no t l s hf
    rw [openL, if_neg hf]; exact this
end Kx
