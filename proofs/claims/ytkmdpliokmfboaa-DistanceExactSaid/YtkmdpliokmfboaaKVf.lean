/-
  Scripts.
  No condition beyond those written in each theorem.
-/
import Derived.Test.YtkmdpliokmfboaaKVe
open Go Sx Go.Proofs
set_option linter.unusedSimpArgs false
set_option linter.unusedVariables false
namespace Kx
/-- The changes that lead from a beginning to a beginning, found from the end. -/
def scr (a b : Str) : Nat → Nat → Nat → List Cg
  | 0, _, _ => []
  | n + 1, i, j => if i = 0 ∧ j = 0 then [] else
    if 0 < i ∧ 0 < j ∧ a.getD (i - 1) 0 = b.getD (j - 1) 0 ∧ tbl a b i j = tbl a b (i - 1) (j - 1) then scr a b n (i - 1) (j - 1)
    else if 0 < i ∧ 0 < j ∧ tbl a b i j = tbl a b (i - 1) (j - 1) + 1 then scr a b n (i - 1) (j - 1) ++ [⟨3, (i - 1 : Nat), (b.getD (j - 1) 0).toNat⟩]
    else if 0 < i ∧ tbl a b i j = tbl a b (i - 1) j + 1 then scr a b n (i - 1) j ++ [⟨2, (i - 1 : Nat), 0⟩]
    else if 0 < j ∧ tbl a b i j = tbl a b i (j - 1) + 1 then scr a b n i (j - 1) ++ [⟨1, i, (b.getD (j - 1) 0).toNat⟩]
    else scr a b n (i - 2) (j - 2) ++ [⟨4, (i - 2 : Nat), 0⟩]
def script (a b : Str) : List Cg := scr a b (a.length + b.length) a.length b.length
def scriptL (a b : Str) : List Cg := if 64 < a.length ∨ 64 < b.length then [] else script a b
theorem scr_end (a b : Str) (n : Nat) : scr a b n 0 0 = [] := by cases n <;> simp [scr]
/-- One of the ways must be. -/
theorem tbl_cases (a b : Str) (i j : Nat) (hi : i ≤ a.length) (hj : j ≤ b.length) (h : ¬(i = 0 ∧ j = 0)) :
    (0 < i ∧ 0 < j ∧ a.getD (i - 1) 0 = b.getD (j - 1) 0 ∧ tbl a b i j = tbl a b (i - 1) (j - 1)) ∨ (0 < i ∧ 0 < j ∧ tbl a b i j = tbl a b (i - 1) (j - 1) + 1) ∨ (0 < i ∧ tbl a b i j = tbl a b (i - 1) j + 1) ∨
      (0 < j ∧ tbl a b i j = tbl a b i (j - 1) + 1) ∨ (2 ≤ i ∧ 2 ≤ j ∧ a.getD (i - 1) 0 = b.getD (j - 2) 0 ∧ a.getD (i - 2) 0 = b.getD (j - 1) 0 ∧ tbl a b i j = tbl a b (i - 2) (j - 2) + 1) := by
  by_cases h0 : i = 0
  · have e1 := tbl_0 a b i j hi hj (.inl h0)
    have e2 := tbl_0 a b i (j - 1) hi (by omega) (.inl h0)
    omega
  by_cases h1 : j = 0
  · have e1 := tbl_0 a b i j hi hj (.inr h1)
    have e2 := tbl_0 a b (i - 1) j (by omega) hj (.inr h1)
    omega
  have hs := tbl_step a b i j (by omega) (by omega)
  simp only [swapB, costN, Bool.and_eq_true, decide_eq_true_eq] at hs
  split at hs
  · rename_i hsw
    split at hs
    · rename_i hc
      have : tbl a b i j = tbl a b (i - 1) (j - 1) ∨ tbl a b i j = tbl a b (i - 1) j + 1 ∨ tbl a b i j = tbl a b i (j - 1) + 1 ∨ tbl a b i j = tbl a b (i - 2) (j - 2) + 1 := by omega
      rcases this with h | h | h | h
      · exact .inl ⟨by omega, by omega, hc, h⟩
      · exact .inr (.inr (.inl ⟨by omega, h⟩))
      · exact .inr (.inr (.inr (.inl ⟨by omega, h⟩)))
      · exact .inr (.inr (.inr (.inr ⟨by omega, by omega, hsw.1.2, hsw.2, h⟩)))
    · have : tbl a b i j = tbl a b (i - 1) (j - 1) + 1 ∨ tbl a b i j = tbl a b (i - 1) j + 1 ∨ tbl a b i j = tbl a b i (j - 1) + 1 ∨ tbl a b i j = tbl a b (i - 2) (j - 2) + 1 := by omega
      rcases this with h | h | h | h
      · exact .inr (.inl ⟨by omega, by omega, h⟩)
      · exact .inr (.inr (.inl ⟨by omega, h⟩))
      · exact .inr (.inr (.inr (.inl ⟨by omega, h⟩)))
      · exact .inr (.inr (.inr (.inr ⟨by omega, by omega, hsw.1.2, hsw.2, h⟩)))
  · split at hs
    · rename_i hc
      have : tbl a b i j = tbl a b (i - 1) (j - 1) ∨ tbl a b i j = tbl a b (i - 1) j + 1 ∨ tbl a b i j = tbl a b i (j - 1) + 1 := by omega
      rcases this with h | h | h
      · exact .inl ⟨by omega, by omega, hc, h⟩
      · exact .inr (.inr (.inl ⟨by omega, h⟩))
      · exact .inr (.inr (.inr (.inl ⟨by omega, h⟩)))
    · have : tbl a b i j = tbl a b (i - 1) (j - 1) + 1 ∨ tbl a b i j = tbl a b (i - 1) j + 1 ∨ tbl a b i j = tbl a b i (j - 1) + 1 := by omega
      rcases this with h | h | h
      · exact .inr (.inl ⟨by omega, by omega, h⟩)
      · exact .inr (.inr (.inl ⟨by omega, h⟩))
      · exact .inr (.inr (.inr (.inl ⟨by omega, h⟩)))
theorem rev_get (l : List Cg) (i : Nat) (h : i < l.length) : l.reverse.getD i Cg.z = l.getD (l.length - 1 - i) Cg.z := by
  simp [List.getD_eq_getElem?_getD, List.getElem?_reverse h]
theorem iv (b : Str) (j : Nat) : 0 ≤ ((b.getD j 0).toNat : Int) ∧ ((b.getD j 0).toNat : Int) ≤ 255 := by have := (b.getD j 0).toNat_lt; omega
theorem scriptL_no {a b : Str} (h : 64 < (a.length : Int) ∨ 64 < (b.length : Int)) : (scriptL a b).length = 0 := by rw [scriptL, if_pos (by omega)]; rfl
theorem scriptL_yes {a b : Str} (h : ¬64 < (a.length : Int)) (h' : ¬64 < (b.length : Int)) : scriptL a b = script a b := by rw [scriptL, if_neg (by omega)]
theorem c0 (x y : Nat) : (x : Int) = y ↔ x = y := by omega
theorem c1 (x y : Nat) : (x : Int) = y + 1 ↔ x = y + 1 := by omega
theorem p0 (x : Nat) : 0 < (x : Int) ↔ 0 < x := by omega
section
variable {a b : Str} {i j : Nat} (n : Nat) (hi : i ≤ a.length) (hj : j ≤ b.length) (h0 : ¬(i = 0 ∧ j = 0))
/-- The four kinds of steps, and the fifth. -/
def keepP (a b : Str) (i j : Nat) : Prop := 0 < i ∧ 0 < j ∧ a.getD (i - 1) 0 = b.getD (j - 1) 0 ∧ tbl a b i j = tbl a b (i - 1) (j - 1)
def replP (a b : Str) (i j : Nat) : Prop := 0 < i ∧ 0 < j ∧ tbl a b i j = tbl a b (i - 1) (j - 1) + 1
def delP (a b : Str) (i j : Nat) : Prop := 0 < i ∧ tbl a b i j = tbl a b (i - 1) j + 1
def insP (a b : Str) (i j : Nat) : Prop := 0 < j ∧ tbl a b i j = tbl a b i (j - 1) + 1
include h0
theorem scr_keep (h : keepP a b i j) : scr a b (n + 1) i j = scr a b n (i - 1) (j - 1) := by
  rw [scr, if_neg h0]; exact if_pos h
theorem scr_repl (h1 : ¬keepP a b i j) (h : replP a b i j) : scr a b (n + 1) i j = scr a b n (i - 1) (j - 1) ++ [⟨3, (i - 1 : Nat), (b.getD (j - 1) 0).toNat⟩] := by
  rw [scr, if_neg h0]; exact (if_neg h1).trans (if_pos h)
theorem scr_del (h1 : ¬keepP a b i j) (h2 : ¬replP a b i j) (h : delP a b i j) : scr a b (n + 1) i j = scr a b n (i - 1) j ++ [⟨2, (i - 1 : Nat), 0⟩] := by
  rw [scr, if_neg h0]; exact (if_neg h1).trans ((if_neg h2).trans (if_pos h))
theorem scr_ins (h1 : ¬keepP a b i j) (h2 : ¬replP a b i j) (h3 : ¬delP a b i j) (h : insP a b i j) : scr a b (n + 1) i j = scr a b n i (j - 1) ++ [⟨1, i, (b.getD (j - 1) 0).toNat⟩] := by
  rw [scr, if_neg h0]; exact (if_neg h1).trans ((if_neg h2).trans ((if_neg h3).trans (if_pos h)))
theorem scr_swap (h1 : ¬keepP a b i j) (h2 : ¬replP a b i j) (h3 : ¬delP a b i j) (h4 : ¬insP a b i j) : scr a b (n + 1) i j = scr a b n (i - 2) (j - 2) ++ [⟨4, (i - 2 : Nat), 0⟩] := by
  rw [scr, if_neg h0]; exact (if_neg h1).trans ((if_neg h2).trans ((if_neg h3).trans (if_neg h4)))
include hi hj
theorem two_of (h1 : ¬keepP a b i j) (h2 : ¬replP a b i j) (h3 : ¬delP a b i j) (h4 : ¬insP a b i j) : 2 ≤ i ∧ 2 ≤ j := by
  rcases tbl_cases a b i j hi hj h0 with h | h | h | h | h
  · exact absurd h h1
  · exact absurd h h2
  · exact absurd h h3
  · exact absurd h h4
  · exact ⟨h.1, h.2.1⟩
end
theorem lone {α : Type} (F : α → List D) (z : α) (hF : ∀ (c : Prop) [Decidable c] (x y : α), iteL c (F x) (F y) = F (if c then x else y)) (l : List α) (x : α) : 1 + l.length = (x :: l).length ∧ ∀ q, q < (x :: l).length → iteL (q < 1) (selC [F x] q) (F (l.getD (q - 1) z)) = F ((x :: l).getD q z) := by
  refine ⟨by simp; omega, fun q _ => ?_⟩
  rw [show selC [F x] q = F x from rfl, hF]
  cases q with
  | zero => rfl
  | succ q => rw [if_neg (by omega)]; rfl
theorem ite_cg (c : Prop) [Decidable c] (x y : Cg) : iteL c (Cg.f x) (Cg.f y) = Cg.f (if c then x else y) := by
  show [i64 (if c then _ else _), i64 (if c then _ else _), i64 (if c then _ else _)] = _
  split <;> rfl
set_option maxHeartbeats 4000000 in
theorem rscript_ct (a b : Str) (ha : a.length ≤ 1000000000) (hb : b.length ≤ 1000000000) : Ct Try.prog 20 [.str a, .str b] fun r outs => r = .tup [cgs (scriptL a b), i64 (errL a b)] ∧ outs = [] := by
  refine .det (.of_W (fn := Try.f20) hΓ hm Try.func20 ord20 [] (by kernel_rfl) (Step.out ?_))
  repeat' first
    | (refine Step.mk ?_; conv => whnf)
    | (refine Vc.om ?_ ?_; first | omega | with_reducible rfl | with_reducible exact same_rfl | (simp only [bytes_2, bytes_3, bytes_4, bytes_5, bytes_9, bytes_12, bytes_21, bytes_22, bytes_25, bytes_29, bytes_31, bytes_40, bytes_41, bytes_43, bytes_45, bytes_46, bytes_47, bytes_48, bytes_49, bytes_52, bytes_53, bytes_60, bytes_63, bytes_67, bytes_75, bytes_79, true_and, and_true] <;> omega))
    | (refine NilB.mk fun b hb => Step.out ?_)
    | with_reducible trivial
    | exact noSh_bool _
    | exact noSh_lit _
    | exact noSh_int _ _
    | exact noSh_str _
    | with_reducible rfl
    | with_reducible exact same_rfl
    | (refine Wr.i64 ?_ ?_; omega)
    | (refine Wr.u8 ?_ ?_; omega)
    | (refine Wr.i32 ?_ ?_; omega)
    | (with_reducible refine Br.tt ?_)
    | (with_reducible refine Br.ff ?_)
    | (refine Br.dT ?_ ?_; omega)
    | (refine Br.dF ?_ ?_; omega)
    | (refine Br.d (fun h => ?_) (fun h => ?_))
    | (refine Br.swap ?_)
    | (refine Br.bnot ?_)
    | (refine Br.mk (fun h => Step.out ?_) (fun h => Step.out ?_))
    | (refine Two.mk (Step.out ?_) (Step.out ?_))
    | (refine Cp.mk fun q hq => Step.out ?_)
    | (refine Ovl.mk (by assumption) (Step.out ?_))
    | (refine CallOK.of_ct (Step.out ?_))
    | (refine CallQ.of_ct (Step.out ?_))
    | (refine Met.by (g := 40) (rtable_ct _ _ (by omega) (by omega)) ?_; rintro q outs ⟨rfl, rfl⟩)
    | (refine Vc.mk ?_ (Step.out ?_))
  · exact scriptL_no (.inl ‹_›)
  · rw [errL, if_pos (by omega)]
  · exact scriptL_no (.inr ‹_›)
  · rw [errL, if_pos (by omega)]
  · rename_i hla
    have hlb := h
    clear h
    refine CodeOK.loopW hΓ hm ord20 [] (by kernel_rfl) (α := Nat × Nat × Nat × List Cg) (fun z => [(0, .str a), (1, .str b), (6, tabD a b), (7, i64 z.2.1), (8, i64 z.2.2.1), (9, .own 0)]) (fun z => [(0, .arr 46 3 z.2.2.2.length fun q => Cg.f (z.2.2.2.getD q Cg.z))]) 1 (fun z => (z.2.1 ≤ a.length ∧ z.2.2.1 ≤ b.length ∧ z.2.1 + z.2.2.1 ≤ z.1 ∧ z.2.2.2.length + z.1 ≤ a.length + b.length) ∧ scr a b z.1 z.2.1 z.2.2.1 ++ z.2.2.2 = script a b) (fun z => z.1) ?_ ?_
    · refine Again.by (a.length + b.length, a.length, b.length, []) ⟨⟨Nat.le_refl _, Nat.le_refl _, Nat.le_refl _, by simp⟩, List.append_nil _⟩ ?_
      dsimp only
      repeat' first
        | (refine Step.mk ?_; conv => whnf)
        | (refine Vc.om ?_ ?_; first | omega | with_reducible rfl | with_reducible exact same_rfl | (simp only [bytes_2, bytes_3, bytes_4, bytes_5, bytes_9, bytes_12, bytes_21, bytes_22, bytes_25, bytes_29, bytes_31, bytes_40, bytes_41, bytes_43, bytes_45, bytes_46, bytes_47, bytes_48, bytes_49, bytes_52, bytes_53, bytes_60, bytes_63, bytes_67, bytes_75, bytes_79, true_and, and_true] <;> omega))
        | (refine NilB.mk fun b hb => Step.out ?_)
        | with_reducible trivial
        | exact noSh_bool _
        | exact noSh_lit _
        | exact noSh_int _ _
        | exact noSh_str _
        | with_reducible rfl
        | with_reducible exact same_rfl
        | (refine Wr.i64 ?_ ?_; omega)
        | (refine Wr.u8 ?_ ?_; omega)
        | (refine Wr.i32 ?_ ?_; omega)
        | (with_reducible refine Br.tt ?_)
        | (with_reducible refine Br.ff ?_)
        | (refine Br.dT ?_ ?_; omega)
        | (refine Br.dF ?_ ?_; omega)
        | (refine Br.d (fun h => ?_) (fun h => ?_))
        | (refine Br.swap ?_)
        | (refine Br.bnot ?_)
        | (refine Br.mk (fun h => Step.out ?_) (fun h => Step.out ?_))
        | (refine Two.mk (Step.out ?_) (Step.out ?_))
        | (refine Cp.mk fun q hq => Step.out ?_)
        | (refine Ovl.mk (by assumption) (Step.out ?_))
        | (refine CallOK.of_ct (Step.out ?_))
        | (refine CallQ.of_ct (Step.out ?_))
        | (refine Met.by (g := 40) (rtable_ct _ _ (by omega) (by omega)) ?_; rintro q outs ⟨rfl, rfl⟩)
        | (refine Vc.mk ?_ (Step.out ?_))
    · intro ⟨n, i, j, o⟩ ⟨⟨hi, hj, hn, ho⟩, hs⟩
      dsimp only at hi hj hn ho hs ⊢
      rcases Nat.eq_zero_or_pos (i + j) with hz | hz
      · obtain rfl : i = 0 := by omega
        obtain rfl : j = 0 := by omega
        rw [scr_end, List.nil_append] at hs
        rw [scriptL_yes hla hlb, ← hs]
        repeat' first
          | (refine Step.mk ?_; conv => whnf)
          | (refine Vc.om ?_ ?_; first | omega | with_reducible rfl | with_reducible exact same_rfl | (simp only [bytes_2, bytes_3, bytes_4, bytes_5, bytes_9, bytes_12, bytes_21, bytes_22, bytes_25, bytes_29, bytes_31, bytes_40, bytes_41, bytes_43, bytes_45, bytes_46, bytes_47, bytes_48, bytes_49, bytes_52, bytes_53, bytes_60, bytes_63, bytes_67, bytes_75, bytes_79, true_and, and_true] <;> omega))
          | (refine NilB.mk fun b hb => Step.out ?_)
          | with_reducible trivial
          | exact noSh_bool _
          | exact noSh_lit _
          | exact noSh_int _ _
          | exact noSh_str _
          | with_reducible rfl
          | with_reducible exact same_rfl
          | (refine Wr.i64 ?_ ?_; omega)
          | (refine Wr.u8 ?_ ?_; omega)
          | (refine Wr.i32 ?_ ?_; omega)
          | (with_reducible refine Br.tt ?_)
          | (with_reducible refine Br.ff ?_)
          | (refine Br.dT ?_ ?_; omega)
          | (refine Br.dF ?_ ?_; omega)
          | (refine Br.d (fun h => ?_) (fun h => ?_))
          | (refine Br.swap ?_)
          | (refine Br.bnot ?_)
          | (refine Br.mk (fun h => Step.out ?_) (fun h => Step.out ?_))
          | (refine Two.mk (Step.out ?_) (Step.out ?_))
          | (refine Cp.mk fun q hq => Step.out ?_)
          | (refine Ovl.mk (by assumption) (Step.out ?_))
          | (refine CallOK.of_ct (Step.out ?_))
          | (refine CallQ.of_ct (Step.out ?_))
          | (refine Met.by (g := 40) (rtable_ct _ _ (by omega) (by omega)) ?_; rintro q outs ⟨rfl, rfl⟩)
          | (refine Vc.mk ?_ (Step.out ?_))
        rw [errL, if_neg (by omega)]
      · obtain ⟨n, rfl⟩ : ∃ m, n = m + 1 := ⟨n - 1, by omega⟩
        have h1 := tbl_le a b ((i : Int) - 1).toNat ((j : Int) - 1).toNat
        have h2 := tbl_le a b ((i : Int) - 1).toNat (j : Int).toNat
        have h3 := tbl_le a b (i : Int).toNat ((j : Int) - 1).toNat
        have h4 := iv b ((j : Int) - 1).toNat
        repeat' first
          | (refine Step.mk ?_; conv => whnf)
          | (refine Vc.om ?_ ?_; first | omega | with_reducible rfl | with_reducible exact same_rfl | (simp only [bytes_2, bytes_3, bytes_4, bytes_5, bytes_9, bytes_12, bytes_21, bytes_22, bytes_25, bytes_29, bytes_31, bytes_40, bytes_41, bytes_43, bytes_45, bytes_46, bytes_47, bytes_48, bytes_49, bytes_52, bytes_53, bytes_60, bytes_63, bytes_67, bytes_75, bytes_79, true_and, and_true] <;> omega))
          | (refine NilB.mk fun b hb => Step.out ?_)
          | with_reducible trivial
          | exact noSh_bool _
          | exact noSh_lit _
          | exact noSh_int _ _
          | exact noSh_str _
          | with_reducible rfl
          | with_reducible exact same_rfl
          | (refine Wr.i64 ?_ ?_; omega)
          | (refine Wr.u8 ?_ ?_; omega)
          | (refine Wr.i32 ?_ ?_; omega)
          | (with_reducible refine Br.tt ?_)
          | (with_reducible refine Br.ff ?_)
          | (refine Br.dT ?_ ?_; omega)
          | (refine Br.dF ?_ ?_; omega)
          | (refine Br.d (fun h => ?_) (fun h => ?_))
          | (refine Br.swap ?_)
          | (refine Br.bnot ?_)
          | (refine Br.mk (fun h => Step.out ?_) (fun h => Step.out ?_))
          | (refine Two.mk (Step.out ?_) (Step.out ?_))
          | (refine Cp.mk fun q hq => Step.out ?_)
          | (refine Ovl.mk (by assumption) (Step.out ?_))
          | (refine CallOK.of_ct (Step.out ?_))
          | (refine CallQ.of_ct (Step.out ?_))
          | (refine Met.by (g := 40) (rtable_ct _ _ (by omega) (by omega)) ?_; rintro q outs ⟨rfl, rfl⟩)
          | (refine Vc.mk ?_ (Step.out ?_))
        all_goals clear h1 h2 h3
        all_goals simp only [sub1, Int.toNat_natCast, toN_eq, c0, c1, p0] at *
        all_goals first
          | focus
              have e := scr_keep n (a := a) (b := b) (i := i) (j := j) (by omega)  ⟨by omega, by omega, UInt8.toNat_inj.1 (by omega), by omega⟩
              refine Again.by (n, i - 1, j - 1, o) ⟨⟨⟨by dsimp only; omega, by dsimp only; omega, by dsimp only; omega, by simp; omega⟩, by dsimp only; rw [← hs, e]⟩, by dsimp only; omega⟩ ?_
              dsimp only
              repeat' first
                | (refine Step.mk ?_; conv => whnf)
                | (refine Vc.om ?_ ?_; first | omega | with_reducible rfl | with_reducible exact same_rfl | (simp only [bytes_2, bytes_3, bytes_4, bytes_5, bytes_9, bytes_12, bytes_21, bytes_22, bytes_25, bytes_29, bytes_31, bytes_40, bytes_41, bytes_43, bytes_45, bytes_46, bytes_47, bytes_48, bytes_49, bytes_52, bytes_53, bytes_60, bytes_63, bytes_67, bytes_75, bytes_79, true_and, and_true] <;> omega))
                | (refine NilB.mk fun b hb => Step.out ?_)
                | with_reducible trivial
                | exact noSh_bool _
                | exact noSh_lit _
                | exact noSh_int _ _
                | exact noSh_str _
                | with_reducible rfl
                | with_reducible exact same_rfl
                | (refine Wr.i64 ?_ ?_; omega)
                | (refine Wr.u8 ?_ ?_; omega)
                | (refine Wr.i32 ?_ ?_; omega)
                | (with_reducible refine Br.tt ?_)
                | (with_reducible refine Br.ff ?_)
                | (refine Br.dT ?_ ?_; omega)
                | (refine Br.dF ?_ ?_; omega)
                | (refine Br.d (fun h => ?_) (fun h => ?_))
                | (refine Br.swap ?_)
                | (refine Br.bnot ?_)
                | (refine Br.mk (fun h => Step.out ?_) (fun h => Step.out ?_))
                | (refine Two.mk (Step.out ?_) (Step.out ?_))
                | (refine Cp.mk fun q hq => Step.out ?_)
                | (refine Ovl.mk (by assumption) (Step.out ?_))
                | (refine CallOK.of_ct (Step.out ?_))
                | (refine CallQ.of_ct (Step.out ?_))
                | (refine Met.by (g := 40) (rtable_ct _ _ (by omega) (by omega)) ?_; rintro q outs ⟨rfl, rfl⟩)
                | (refine Vc.mk ?_ (Step.out ?_))
          | focus
              have e := scr_repl n (a := a) (b := b) (i := i) (j := j) (by omega) (fun ⟨q1, q2, q3, q4⟩ => by have q3 := congrArg UInt8.toNat q3; omega) ⟨by omega, by omega, by omega⟩
              rw [show (((i - 1 : Nat)) : Int) = (i : Int) - 1 by omega] at e
              refine Again.by (n, i - 1, j - 1, ⟨3, (i : Int) - 1, (b.getD (j - 1) 0).toNat⟩ :: o) ⟨⟨⟨by dsimp only; omega, by dsimp only; omega, by dsimp only; omega, by simp; omega⟩, by dsimp only; rw [← hs, e]; simp⟩, by dsimp only; omega⟩ ?_
              dsimp only
              repeat' first
                | (refine Step.mk ?_; conv => whnf)
                | (refine Vc.om ?_ ?_; first | omega | with_reducible rfl | with_reducible exact same_rfl | (simp only [bytes_2, bytes_3, bytes_4, bytes_5, bytes_9, bytes_12, bytes_21, bytes_22, bytes_25, bytes_29, bytes_31, bytes_40, bytes_41, bytes_43, bytes_45, bytes_46, bytes_47, bytes_48, bytes_49, bytes_52, bytes_53, bytes_60, bytes_63, bytes_67, bytes_75, bytes_79, true_and, and_true] <;> omega))
                | (refine NilB.mk fun b hb => Step.out ?_)
                | with_reducible trivial
                | exact noSh_bool _
                | exact noSh_lit _
                | exact noSh_int _ _
                | exact noSh_str _
                | with_reducible rfl
                | with_reducible exact same_rfl
                | (refine Wr.i64 ?_ ?_; omega)
                | (refine Wr.u8 ?_ ?_; omega)
                | (refine Wr.i32 ?_ ?_; omega)
                | (with_reducible refine Br.tt ?_)
                | (with_reducible refine Br.ff ?_)
                | (refine Br.dT ?_ ?_; omega)
                | (refine Br.dF ?_ ?_; omega)
                | (refine Br.d (fun h => ?_) (fun h => ?_))
                | (refine Br.swap ?_)
                | (refine Br.bnot ?_)
                | (refine Br.mk (fun h => Step.out ?_) (fun h => Step.out ?_))
                | (refine Two.mk (Step.out ?_) (Step.out ?_))
                | (refine Cp.mk fun q hq => Step.out ?_)
                | (refine Ovl.mk (by assumption) (Step.out ?_))
                | (refine CallOK.of_ct (Step.out ?_))
                | (refine CallQ.of_ct (Step.out ?_))
                | (refine Met.by (g := 40) (rtable_ct _ _ (by omega) (by omega)) ?_; rintro q outs ⟨rfl, rfl⟩)
                | (refine Vc.mk ?_ (Step.out ?_))
              all_goals exact lone Cg.f Cg.z ite_cg o _
          | focus
              have e := scr_del n (a := a) (b := b) (i := i) (j := j) (by omega) (fun ⟨q1, q2, q3, q4⟩ => by have q3 := congrArg UInt8.toNat q3; omega) (fun ⟨q1, q2, q3⟩ => by omega) ⟨by omega, by omega⟩
              rw [show (((i - 1 : Nat)) : Int) = (i : Int) - 1 by omega] at e
              refine Again.by (n, i - 1, j, ⟨2, (i : Int) - 1, 0⟩ :: o) ⟨⟨⟨by dsimp only; omega, by dsimp only; omega, by dsimp only; omega, by simp; omega⟩, by dsimp only; rw [← hs, e]; simp⟩, by dsimp only; omega⟩ ?_
              dsimp only
              repeat' first
                | (refine Step.mk ?_; conv => whnf)
                | (refine Vc.om ?_ ?_; first | omega | with_reducible rfl | with_reducible exact same_rfl | (simp only [bytes_2, bytes_3, bytes_4, bytes_5, bytes_9, bytes_12, bytes_21, bytes_22, bytes_25, bytes_29, bytes_31, bytes_40, bytes_41, bytes_43, bytes_45, bytes_46, bytes_47, bytes_48, bytes_49, bytes_52, bytes_53, bytes_60, bytes_63, bytes_67, bytes_75, bytes_79, true_and, and_true] <;> omega))
                | (refine NilB.mk fun b hb => Step.out ?_)
                | with_reducible trivial
                | exact noSh_bool _
                | exact noSh_lit _
                | exact noSh_int _ _
                | exact noSh_str _
                | with_reducible rfl
                | with_reducible exact same_rfl
                | (refine Wr.i64 ?_ ?_; omega)
                | (refine Wr.u8 ?_ ?_; omega)
                | (refine Wr.i32 ?_ ?_; omega)
                | (with_reducible refine Br.tt ?_)
                | (with_reducible refine Br.ff ?_)
                | (refine Br.dT ?_ ?_; omega)
                | (refine Br.dF ?_ ?_; omega)
                | (refine Br.d (fun h => ?_) (fun h => ?_))
                | (refine Br.swap ?_)
                | (refine Br.bnot ?_)
                | (refine Br.mk (fun h => Step.out ?_) (fun h => Step.out ?_))
                | (refine Two.mk (Step.out ?_) (Step.out ?_))
                | (refine Cp.mk fun q hq => Step.out ?_)
                | (refine Ovl.mk (by assumption) (Step.out ?_))
                | (refine CallOK.of_ct (Step.out ?_))
                | (refine CallQ.of_ct (Step.out ?_))
                | (refine Met.by (g := 40) (rtable_ct _ _ (by omega) (by omega)) ?_; rintro q outs ⟨rfl, rfl⟩)
                | (refine Vc.mk ?_ (Step.out ?_))
              all_goals exact lone Cg.f Cg.z ite_cg o _
          | focus
              have e := scr_ins n (a := a) (b := b) (i := i) (j := j) (by omega) (fun ⟨q1, q2, q3, q4⟩ => by have q3 := congrArg UInt8.toNat q3; omega) (fun ⟨q1, q2, q3⟩ => by omega) (fun ⟨q1, q2⟩ => by omega) ⟨by omega, by omega⟩
              refine Again.by (n, i, j - 1, ⟨1, i, (b.getD (j - 1) 0).toNat⟩ :: o) ⟨⟨⟨by dsimp only; omega, by dsimp only; omega, by dsimp only; omega, by simp; omega⟩, by dsimp only; rw [← hs, e]; simp⟩, by dsimp only; omega⟩ ?_
              dsimp only
              repeat' first
                | (refine Step.mk ?_; conv => whnf)
                | (refine Vc.om ?_ ?_; first | omega | with_reducible rfl | with_reducible exact same_rfl | (simp only [bytes_2, bytes_3, bytes_4, bytes_5, bytes_9, bytes_12, bytes_21, bytes_22, bytes_25, bytes_29, bytes_31, bytes_40, bytes_41, bytes_43, bytes_45, bytes_46, bytes_47, bytes_48, bytes_49, bytes_52, bytes_53, bytes_60, bytes_63, bytes_67, bytes_75, bytes_79, true_and, and_true] <;> omega))
                | (refine NilB.mk fun b hb => Step.out ?_)
                | with_reducible trivial
                | exact noSh_bool _
                | exact noSh_lit _
                | exact noSh_int _ _
                | exact noSh_str _
                | with_reducible rfl
                | with_reducible exact same_rfl
                | (refine Wr.i64 ?_ ?_; omega)
                | (refine Wr.u8 ?_ ?_; omega)
                | (refine Wr.i32 ?_ ?_; omega)
                | (with_reducible refine Br.tt ?_)
                | (with_reducible refine Br.ff ?_)
                | (refine Br.dT ?_ ?_; omega)
                | (refine Br.dF ?_ ?_; omega)
                | (refine Br.d (fun h => ?_) (fun h => ?_))
                | (refine Br.swap ?_)
                | (refine Br.bnot ?_)
                | (refine Br.mk (fun h => Step.out ?_) (fun h => Step.out ?_))
                | (refine Two.mk (Step.out ?_) (Step.out ?_))
                | (refine Cp.mk fun q hq => Step.out ?_)
                | (refine Ovl.mk (by assumption) (Step.out ?_))
                | (refine CallOK.of_ct (Step.out ?_))
                | (refine CallQ.of_ct (Step.out ?_))
                | (refine Met.by (g := 40) (rtable_ct _ _ (by omega) (by omega)) ?_; rintro q outs ⟨rfl, rfl⟩)
                | (refine Vc.mk ?_ (Step.out ?_))
              all_goals exact lone Cg.f Cg.z ite_cg o _
          | focus
              have e := scr_swap n (a := a) (b := b) (i := i) (j := j) (by omega) (fun ⟨q1, q2, q3, q4⟩ => by have q3 := congrArg UInt8.toNat q3; omega) (fun ⟨q1, q2, q3⟩ => by omega) (fun ⟨q1, q2⟩ => by omega) (fun ⟨q1, q2⟩ => by omega) 
              have e2 := two_of (a := a) (b := b) (i := i) (j := j) hi hj (by omega) (fun ⟨q1, q2, q3, q4⟩ => by have q3 := congrArg UInt8.toNat q3; omega) (fun ⟨q1, q2, q3⟩ => by omega) (fun ⟨q1, q2⟩ => by omega) (fun ⟨q1, q2⟩ => by omega)
              rw [show (((i - 2 : Nat)) : Int) = (i : Int) - 2 by omega] at e
              refine Again.by (n, i - 2, j - 2, ⟨4, (i : Int) - 2, 0⟩ :: o) ⟨⟨⟨by dsimp only; omega, by dsimp only; omega, by dsimp only; omega, by simp; omega⟩, by dsimp only; rw [← hs, e]; simp⟩, by dsimp only; omega⟩ ?_
              dsimp only
              repeat' first
                | (refine Step.mk ?_; conv => whnf)
                | (refine Vc.om ?_ ?_; first | omega | with_reducible rfl | with_reducible exact same_rfl | (simp only [bytes_2, bytes_3, bytes_4, bytes_5, bytes_9, bytes_12, bytes_21, bytes_22, bytes_25, bytes_29, bytes_31, bytes_40, bytes_41, bytes_43, bytes_45, bytes_46, bytes_47, bytes_48, bytes_49, bytes_52, bytes_53, bytes_60, bytes_63, bytes_67, bytes_75, bytes_79, true_and, and_true] <;> omega))
                | (refine NilB.mk fun b hb => Step.out ?_)
                | with_reducible trivial
                | exact noSh_bool _
                | exact noSh_lit _
                | exact noSh_int _ _
                | exact noSh_str _
                | with_reducible rfl
                | with_reducible exact same_rfl
                | (refine Wr.i64 ?_ ?_; omega)
                | (refine Wr.u8 ?_ ?_; omega)
                | (refine Wr.i32 ?_ ?_; omega)
                | (with_reducible refine Br.tt ?_)
                | (with_reducible refine Br.ff ?_)
                | (refine Br.dT ?_ ?_; omega)
                | (refine Br.dF ?_ ?_; omega)
                | (refine Br.d (fun h => ?_) (fun h => ?_))
                | (refine Br.swap ?_)
                | (refine Br.bnot ?_)
                | (refine Br.mk (fun h => Step.out ?_) (fun h => Step.out ?_))
                | (refine Two.mk (Step.out ?_) (Step.out ?_))
                | (refine Cp.mk fun q hq => Step.out ?_)
                | (refine Ovl.mk (by assumption) (Step.out ?_))
                | (refine CallOK.of_ct (Step.out ?_))
                | (refine CallQ.of_ct (Step.out ?_))
                | (refine Met.by (g := 40) (rtable_ct _ _ (by omega) (by omega)) ?_; rintro q outs ⟨rfl, rfl⟩)
                | (refine Vc.mk ?_ (Step.out ?_))
              all_goals exact lone Cg.f Cg.z ite_cg o _
theorem app1 {α : Type} (F : α → List D) (z : α) (hF : ∀ (c : Prop) [Decidable c] (x y : α), iteL c (F x) (F y) = F (if c then x else y)) (l : List α) (x : α) :
    l.length + 1 = (l ++ [x]).length ∧ ∀ i, i < (l ++ [x]).length → iteL (i < l.length) (F (l.getD i z)) (selC [F x] (i - l.length)) = F ((l ++ [x]).getD i z) := by
  refine ⟨by simp, fun i hi => ?_⟩
  have hi : i < l.length + 1 := by simpa using hi
  by_cases h : i < l.length
  · rw [show selC [F x] (i - l.length) = F x by rw [show i - l.length = 0 by omega]; rfl, hF, if_pos h, getD_app, if_pos h]
  · rw [show i = l.length by omega, Nat.sub_self, show selC [F x] 0 = F x from rfl, hF, if_neg (by omega), getD_app, if_neg (by omega), Nat.sub_self]; rfl
theorem setF (x y : Cg) : setL (Cg.f x) 0 (Cg.f y) = Cg.f y := rfl
/-- A list, turned around as far as k places from both ends. -/
def rv (o : List Cg) (k q : Nat) : Cg := if q < k ∨ o.length ≤ q + k then o.getD (o.length - 1 - q) Cg.z else o.getD q Cg.z
theorem rv_end (o : List Cg) (k q : Nat) (h1 : 2 * k ≤ o.length) (h2 : o.length ≤ 2 * k + 1) (hq : q < o.length) : rv o k q = o.reverse.getD q Cg.z := by
  rw [rev_get o q hq, rv]
  split
  · rfl
  · rw [show o.length - 1 - q = q by omega]
theorem rv_step (o : List Cg) (k : Nat) (h : 2 * k + 1 < o.length) (q : Nat) : rv o (k + 1) q = if q = k then rv o k (o.length - 1 - k) else if q = o.length - 1 - k then rv o k k else rv o k q := by
  unfold rv
  by_cases h1 : q = k
  · subst h1
    rw [if_pos (.inl (by omega)), if_pos rfl, if_neg (by omega)]
  · rw [if_neg h1]
    by_cases h2 : q = o.length - 1 - k
    · rw [if_pos (.inr (by omega)), if_pos h2, if_neg (by omega)]
      congr 1; omega
    · rw [if_neg h2]
      by_cases h3 : q < k ∨ o.length ≤ q + k
      · rw [if_pos h3, if_pos (by omega)]
      · rw [if_neg h3, if_neg (by omega)]
set_option maxHeartbeats 4000000 in
theorem script_ct (a b : Str) (ha : a.length ≤ 1000000000) (hb : b.length ≤ 1000000000) : Ct Try.prog 18 [.str a, .str b] fun r outs => r = .tup [cgs (scriptL a b), i64 (errL a b)] ∧ outs = [] := by
  refine .det (.of_W (fn := Try.f18) hΓ hm Try.func18 ord18 [] (by kernel_rfl) (Step.out ?_))
  repeat' first
    | (refine Step.mk ?_; conv => whnf)
    | (refine Vc.om ?_ ?_; first | omega | with_reducible rfl | with_reducible exact same_rfl | (simp only [bytes_2, bytes_3, bytes_4, bytes_5, bytes_9, bytes_12, bytes_21, bytes_22, bytes_25, bytes_29, bytes_31, bytes_40, bytes_41, bytes_43, bytes_45, bytes_46, bytes_47, bytes_48, bytes_49, bytes_52, bytes_53, bytes_60, bytes_63, bytes_67, bytes_75, bytes_79, true_and, and_true] <;> omega))
    | (refine NilB.mk fun b hb => Step.out ?_)
    | with_reducible trivial
    | exact noSh_bool _
    | exact noSh_lit _
    | exact noSh_int _ _
    | exact noSh_str _
    | with_reducible rfl
    | with_reducible exact same_rfl
    | (refine Wr.i64 ?_ ?_; omega)
    | (refine Wr.u8 ?_ ?_; omega)
    | (refine Wr.i32 ?_ ?_; omega)
    | (with_reducible refine Br.tt ?_)
    | (with_reducible refine Br.ff ?_)
    | (refine Br.dT ?_ ?_; omega)
    | (refine Br.dF ?_ ?_; omega)
    | (refine Br.d (fun h => ?_) (fun h => ?_))
    | (refine Br.swap ?_)
    | (refine Br.bnot ?_)
    | (refine Br.mk (fun h => Step.out ?_) (fun h => Step.out ?_))
    | (refine Two.mk (Step.out ?_) (Step.out ?_))
    | (refine Cp.mk fun q hq => Step.out ?_)
    | (refine Ovl.mk (by assumption) (Step.out ?_))
    | (refine CallOK.of_ct (Step.out ?_))
    | (refine CallQ.of_ct (Step.out ?_))
    | (refine Met.by (g := 35) (check_ct _ _ (by omega) (by omega)) ?_; rintro q outs ⟨rfl, rfl⟩)
    | (refine Met.by (g := 38) (table_ct _ _ (by omega) (by omega)) ?_; rintro q outs ⟨rfl, rfl⟩)
    | (refine Vc.mk ?_ (Step.out ?_))
  · have hla : ¬64 < (a.length : Int) := by split at h <;> omega
    have hlb : ¬64 < (b.length : Int) := by split at h <;> omega
    clear h
    refine CodeOK.loopW hΓ hm ord18 [] (by kernel_rfl) (α := Nat × Nat × Nat × List Cg) (fun z => [(0, .str a), (1, .str b), (7, tabD a b), (8, .own 0), (9, i64 z.2.1), (10, i64 z.2.2.1)]) (fun z => [(0, .arr 46 3 z.2.2.2.length fun q => Cg.f (z.2.2.2.getD q Cg.z))]) 1 (fun z => (z.2.1 ≤ a.length ∧ z.2.2.1 ≤ b.length ∧ z.2.1 + z.2.2.1 ≤ z.1 ∧ z.2.2.2.length + z.1 ≤ a.length + b.length) ∧ scr a b z.1 z.2.1 z.2.2.1 ++ z.2.2.2.reverse = script a b) (fun z => z.1) ?_ ?_
    · refine Again.by (a.length + b.length, a.length, b.length, []) ⟨⟨Nat.le_refl _, Nat.le_refl _, Nat.le_refl _, by simp⟩, List.append_nil _⟩ ?_
      dsimp only
      repeat' first
        | (refine Step.mk ?_; conv => whnf)
        | (refine Vc.om ?_ ?_; first | omega | with_reducible rfl | with_reducible exact same_rfl | (simp only [bytes_2, bytes_3, bytes_4, bytes_5, bytes_9, bytes_12, bytes_21, bytes_22, bytes_25, bytes_29, bytes_31, bytes_40, bytes_41, bytes_43, bytes_45, bytes_46, bytes_47, bytes_48, bytes_49, bytes_52, bytes_53, bytes_60, bytes_63, bytes_67, bytes_75, bytes_79, true_and, and_true] <;> omega))
        | (refine NilB.mk fun b hb => Step.out ?_)
        | with_reducible trivial
        | exact noSh_bool _
        | exact noSh_lit _
        | exact noSh_int _ _
        | exact noSh_str _
        | with_reducible rfl
        | with_reducible exact same_rfl
        | (refine Wr.i64 ?_ ?_; omega)
        | (refine Wr.u8 ?_ ?_; omega)
        | (refine Wr.i32 ?_ ?_; omega)
        | (with_reducible refine Br.tt ?_)
        | (with_reducible refine Br.ff ?_)
        | (refine Br.dT ?_ ?_; omega)
        | (refine Br.dF ?_ ?_; omega)
        | (refine Br.d (fun h => ?_) (fun h => ?_))
        | (refine Br.swap ?_)
        | (refine Br.bnot ?_)
        | (refine Br.mk (fun h => Step.out ?_) (fun h => Step.out ?_))
        | (refine Two.mk (Step.out ?_) (Step.out ?_))
        | (refine Cp.mk fun q hq => Step.out ?_)
        | (refine Ovl.mk (by assumption) (Step.out ?_))
        | (refine CallOK.of_ct (Step.out ?_))
        | (refine CallQ.of_ct (Step.out ?_))
        | (refine Met.by (g := 35) (check_ct _ _ (by omega) (by omega)) ?_; rintro q outs ⟨rfl, rfl⟩)
        | (refine Met.by (g := 38) (table_ct _ _ (by omega) (by omega)) ?_; rintro q outs ⟨rfl, rfl⟩)
        | (refine Vc.mk ?_ (Step.out ?_))
    · intro ⟨n, i, j, o⟩ ⟨⟨hi, hj, hn, ho⟩, hs⟩
      dsimp only at hi hj hn ho hs ⊢
      rcases Nat.eq_zero_or_pos (i + j) with hz | hz
      · obtain rfl : i = 0 := by omega
        obtain rfl : j = 0 := by omega
        rw [scr_end, List.nil_append] at hs
        rw [scriptL_yes hla hlb, ← hs]
        repeat' first
          | ((refine CallOK.inl (f := 39) (fn := Try.f39) hΓ hm Try.func39 ord39 [] (by kernel_rfl) (fun V => ?_)))
          | (refine Step.mk ?_; conv => whnf)
          | (refine Vc.om ?_ ?_; first | omega | with_reducible rfl | with_reducible exact same_rfl | (simp only [bytes_2, bytes_3, bytes_4, bytes_5, bytes_9, bytes_12, bytes_21, bytes_22, bytes_25, bytes_29, bytes_31, bytes_40, bytes_41, bytes_43, bytes_45, bytes_46, bytes_47, bytes_48, bytes_49, bytes_52, bytes_53, bytes_60, bytes_63, bytes_67, bytes_75, bytes_79, true_and, and_true] <;> omega))
          | (refine NilB.mk fun b hb => Step.out ?_)
          | with_reducible trivial
          | exact noSh_bool _
          | exact noSh_lit _
          | exact noSh_int _ _
          | exact noSh_str _
          | with_reducible rfl
          | with_reducible exact same_rfl
          | (refine Wr.i64 ?_ ?_; omega)
          | (refine Wr.u8 ?_ ?_; omega)
          | (refine Wr.i32 ?_ ?_; omega)
          | (with_reducible refine Br.tt ?_)
          | (with_reducible refine Br.ff ?_)
          | (refine Br.dT ?_ ?_; omega)
          | (refine Br.dF ?_ ?_; omega)
          | (refine Br.d (fun h => ?_) (fun h => ?_))
          | (refine Br.swap ?_)
          | (refine Br.bnot ?_)
          | (refine Br.mk (fun h => Step.out ?_) (fun h => Step.out ?_))
          | (refine Two.mk (Step.out ?_) (Step.out ?_))
          | (refine Cp.mk fun q hq => Step.out ?_)
          | (refine Ovl.mk (by assumption) (Step.out ?_))
          | (refine CallOK.of_ct (Step.out ?_))
          | (refine CallQ.of_ct (Step.out ?_))
          | (refine Met.by (g := 35) (check_ct _ _ (by omega) (by omega)) ?_; rintro q outs ⟨rfl, rfl⟩)
          | (refine Met.by (g := 38) (table_ct _ _ (by omega) (by omega)) ?_; rintro q outs ⟨rfl, rfl⟩)
          | (refine Vc.mk ?_ (Step.out ?_))
        refine CodeOK.loopW hΓ hm ord39 [] (by kernel_rfl) (α := Nat) (fun k => [(0, .own 0), (2, i64 k), (3, i64 ((o.length : Int) - 1 - k))]) (fun k => [(0, .arr 46 3 o.length fun q => Cg.f (rv o k q)), (1, .ghs V [(8, .own 0)])]) 2 (fun k => 2 * k ≤ o.length) (fun k => o.length - k) ?_ ?_
        · refine Again.by 0 (Nat.zero_le _) ?_
          repeat' first
            | (refine Step.mk ?_; conv => whnf)
            | (refine Vc.om ?_ ?_; first | omega | with_reducible rfl | with_reducible exact same_rfl | (simp only [bytes_2, bytes_3, bytes_4, bytes_5, bytes_9, bytes_12, bytes_21, bytes_22, bytes_25, bytes_29, bytes_31, bytes_40, bytes_41, bytes_43, bytes_45, bytes_46, bytes_47, bytes_48, bytes_49, bytes_52, bytes_53, bytes_60, bytes_63, bytes_67, bytes_75, bytes_79, true_and, and_true] <;> omega))
            | (refine NilB.mk fun b hb => Step.out ?_)
            | with_reducible trivial
            | exact noSh_bool _
            | exact noSh_lit _
            | exact noSh_int _ _
            | exact noSh_str _
            | with_reducible rfl
            | with_reducible exact same_rfl
            | (refine Wr.i64 ?_ ?_; omega)
            | (refine Wr.u8 ?_ ?_; omega)
            | (refine Wr.i32 ?_ ?_; omega)
            | (with_reducible refine Br.tt ?_)
            | (with_reducible refine Br.ff ?_)
            | (refine Br.dT ?_ ?_; omega)
            | (refine Br.dF ?_ ?_; omega)
            | (refine Br.d (fun h => ?_) (fun h => ?_))
            | (refine Br.swap ?_)
            | (refine Br.bnot ?_)
            | (refine Br.mk (fun h => Step.out ?_) (fun h => Step.out ?_))
            | (refine Two.mk (Step.out ?_) (Step.out ?_))
            | (refine Cp.mk fun q hq => Step.out ?_)
            | (refine Ovl.mk (by assumption) (Step.out ?_))
            | (refine CallOK.of_ct (Step.out ?_))
            | (refine CallQ.of_ct (Step.out ?_))
            | (refine Met.by (g := 35) (check_ct _ _ (by omega) (by omega)) ?_; rintro q outs ⟨rfl, rfl⟩)
            | (refine Met.by (g := 38) (table_ct _ _ (by omega) (by omega)) ?_; rintro q outs ⟨rfl, rfl⟩)
            | (refine Vc.mk ?_ (Step.out ?_))
          all_goals refine ⟨rfl, fun q hq => ?_⟩
          all_goals
            show Cg.f (o.getD q Cg.z) = Cg.f (rv o 0 q)
            rw [rv, if_neg (by omega)]
        · intro k hk
          repeat' first
            | (refine Step.mk ?_; conv => whnf)
            | (refine Vc.om ?_ ?_; first | omega | with_reducible rfl | with_reducible exact same_rfl | (simp only [bytes_2, bytes_3, bytes_4, bytes_5, bytes_9, bytes_12, bytes_21, bytes_22, bytes_25, bytes_29, bytes_31, bytes_40, bytes_41, bytes_43, bytes_45, bytes_46, bytes_47, bytes_48, bytes_49, bytes_52, bytes_53, bytes_60, bytes_63, bytes_67, bytes_75, bytes_79, true_and, and_true] <;> omega))
            | (refine NilB.mk fun b hb => Step.out ?_)
            | with_reducible trivial
            | exact noSh_bool _
            | exact noSh_lit _
            | exact noSh_int _ _
            | exact noSh_str _
            | with_reducible rfl
            | with_reducible exact same_rfl
            | (refine Wr.i64 ?_ ?_; omega)
            | (refine Wr.u8 ?_ ?_; omega)
            | (refine Wr.i32 ?_ ?_; omega)
            | (with_reducible refine Br.tt ?_)
            | (with_reducible refine Br.ff ?_)
            | (refine Br.dT ?_ ?_; omega)
            | (refine Br.dF ?_ ?_; omega)
            | (refine Br.d (fun h => ?_) (fun h => ?_))
            | (refine Br.swap ?_)
            | (refine Br.bnot ?_)
            | (refine Br.mk (fun h => Step.out ?_) (fun h => Step.out ?_))
            | (refine Two.mk (Step.out ?_) (Step.out ?_))
            | (refine Cp.mk fun q hq => Step.out ?_)
            | (refine Ovl.mk (by assumption) (Step.out ?_))
            | (refine CallOK.of_ct (Step.out ?_))
            | (refine CallQ.of_ct (Step.out ?_))
            | (refine Met.by (g := 35) (check_ct _ _ (by omega) (by omega)) ?_; rintro q outs ⟨rfl, rfl⟩)
            | (refine Met.by (g := 38) (table_ct _ _ (by omega) (by omega)) ?_; rintro q outs ⟨rfl, rfl⟩)
            | (refine Vc.mk ?_ (Step.out ?_))
          all_goals try
            refine Again.by (k + 1) ⟨by omega, by omega⟩ ?_
            repeat' first
              | (refine Step.mk ?_; conv => whnf)
              | (refine Vc.om ?_ ?_; first | omega | with_reducible rfl | with_reducible exact same_rfl | (simp only [bytes_2, bytes_3, bytes_4, bytes_5, bytes_9, bytes_12, bytes_21, bytes_22, bytes_25, bytes_29, bytes_31, bytes_40, bytes_41, bytes_43, bytes_45, bytes_46, bytes_47, bytes_48, bytes_49, bytes_52, bytes_53, bytes_60, bytes_63, bytes_67, bytes_75, bytes_79, true_and, and_true] <;> omega))
              | (refine NilB.mk fun b hb => Step.out ?_)
              | with_reducible trivial
              | exact noSh_bool _
              | exact noSh_lit _
              | exact noSh_int _ _
              | exact noSh_str _
              | with_reducible rfl
              | with_reducible exact same_rfl
              | (refine Wr.i64 ?_ ?_; omega)
              | (refine Wr.u8 ?_ ?_; omega)
              | (refine Wr.i32 ?_ ?_; omega)
              | (with_reducible refine Br.tt ?_)
              | (with_reducible refine Br.ff ?_)
              | (refine Br.dT ?_ ?_; omega)
              | (refine Br.dF ?_ ?_; omega)
              | (refine Br.d (fun h => ?_) (fun h => ?_))
              | (refine Br.swap ?_)
              | (refine Br.bnot ?_)
              | (refine Br.mk (fun h => Step.out ?_) (fun h => Step.out ?_))
              | (refine Two.mk (Step.out ?_) (Step.out ?_))
              | (refine Cp.mk fun q hq => Step.out ?_)
              | (refine Ovl.mk (by assumption) (Step.out ?_))
              | (refine CallOK.of_ct (Step.out ?_))
              | (refine CallQ.of_ct (Step.out ?_))
              | (refine Met.by (g := 35) (check_ct _ _ (by omega) (by omega)) ?_; rintro q outs ⟨rfl, rfl⟩)
              | (refine Met.by (g := 38) (table_ct _ _ (by omega) (by omega)) ?_; rintro q outs ⟨rfl, rfl⟩)
              | (refine Vc.mk ?_ (Step.out ?_))
            refine ⟨rfl, fun q hq => ?_⟩
            show iteL (q = _) (setL (iteL (_ = _) (setL (Cg.f (rv o k _)) 0 (Cg.f (rv o k _))) (Cg.f (rv o k _))) 0 (Cg.f (rv o k _))) (iteL (q = _) (setL (Cg.f (rv o k _)) 0 (Cg.f (rv o k _))) (Cg.f (rv o k q))) = Cg.f (rv o (k + 1) q)
            rw [show ((o.length : Int) - 1 - k).toNat = o.length - 1 - k by omega, Int.toNat_natCast]
            simp only [setF, ite_cg]
            rw [rv_step o k (by omega)]
            congr 1
            by_cases e1 : q = k
            · rw [if_neg (by omega), if_pos e1, if_pos e1]
            · rw [if_neg e1, if_neg e1]
            done
          all_goals first
            | (refine ⟨by simp, fun q hq => ?_⟩
               show Cg.f (rv o k q) = _
               rw [rv_end o k q (by omega) (by omega) (by simpa using hq)]
               done)
            | (rw [errL, if_neg (by omega)]; done)
            | skip
      · obtain ⟨n, rfl⟩ : ∃ m, n = m + 1 := ⟨n - 1, by omega⟩
        have h1 := tbl_le a b ((i : Int) - 1).toNat ((j : Int) - 1).toNat
        have h2 := tbl_le a b ((i : Int) - 1).toNat (j : Int).toNat
        have h3 := tbl_le a b (i : Int).toNat ((j : Int) - 1).toNat
        have h4 := iv b ((j : Int) - 1).toNat
        repeat' first
          | (refine Step.mk ?_; conv => whnf)
          | (refine Vc.om ?_ ?_; first | omega | with_reducible rfl | with_reducible exact same_rfl | (simp only [bytes_2, bytes_3, bytes_4, bytes_5, bytes_9, bytes_12, bytes_21, bytes_22, bytes_25, bytes_29, bytes_31, bytes_40, bytes_41, bytes_43, bytes_45, bytes_46, bytes_47, bytes_48, bytes_49, bytes_52, bytes_53, bytes_60, bytes_63, bytes_67, bytes_75, bytes_79, true_and, and_true] <;> omega))
          | (refine NilB.mk fun b hb => Step.out ?_)
          | with_reducible trivial
          | exact noSh_bool _
          | exact noSh_lit _
          | exact noSh_int _ _
          | exact noSh_str _
          | with_reducible rfl
          | with_reducible exact same_rfl
          | (refine Wr.i64 ?_ ?_; omega)
          | (refine Wr.u8 ?_ ?_; omega)
          | (refine Wr.i32 ?_ ?_; omega)
          | (with_reducible refine Br.tt ?_)
          | (with_reducible refine Br.ff ?_)
          | (refine Br.dT ?_ ?_; omega)
          | (refine Br.dF ?_ ?_; omega)
          | (refine Br.d (fun h => ?_) (fun h => ?_))
          | (refine Br.swap ?_)
          | (refine Br.bnot ?_)
          | (refine Br.mk (fun h => Step.out ?_) (fun h => Step.out ?_))
          | (refine Two.mk (Step.out ?_) (Step.out ?_))
          | (refine Cp.mk fun q hq => Step.out ?_)
          | (refine Ovl.mk (by assumption) (Step.out ?_))
          | (refine CallOK.of_ct (Step.out ?_))
          | (refine CallQ.of_ct (Step.out ?_))
          | (refine Met.by (g := 35) (check_ct _ _ (by omega) (by omega)) ?_; rintro q outs ⟨rfl, rfl⟩)
          | (refine Met.by (g := 38) (table_ct _ _ (by omega) (by omega)) ?_; rintro q outs ⟨rfl, rfl⟩)
          | (refine Vc.mk ?_ (Step.out ?_))
        all_goals clear h1 h2 h3
        all_goals simp only [sub1, Int.toNat_natCast, toN_eq, c0, c1, p0] at *
        all_goals first
          | focus
              have e := scr_keep n (a := a) (b := b) (i := i) (j := j) (by omega)  ⟨by omega, by omega, UInt8.toNat_inj.1 (by omega), by omega⟩
              refine Again.by (n, i - 1, j - 1, o) ⟨⟨⟨by dsimp only; omega, by dsimp only; omega, by dsimp only; omega, by simp; omega⟩, by dsimp only; rw [← hs, e]⟩, by dsimp only; omega⟩ ?_
              dsimp only
              repeat' first
                | (refine Step.mk ?_; conv => whnf)
                | (refine Vc.om ?_ ?_; first | omega | with_reducible rfl | with_reducible exact same_rfl | (simp only [bytes_2, bytes_3, bytes_4, bytes_5, bytes_9, bytes_12, bytes_21, bytes_22, bytes_25, bytes_29, bytes_31, bytes_40, bytes_41, bytes_43, bytes_45, bytes_46, bytes_47, bytes_48, bytes_49, bytes_52, bytes_53, bytes_60, bytes_63, bytes_67, bytes_75, bytes_79, true_and, and_true] <;> omega))
                | (refine NilB.mk fun b hb => Step.out ?_)
                | with_reducible trivial
                | exact noSh_bool _
                | exact noSh_lit _
                | exact noSh_int _ _
                | exact noSh_str _
                | with_reducible rfl
                | with_reducible exact same_rfl
                | (refine Wr.i64 ?_ ?_; omega)
                | (refine Wr.u8 ?_ ?_; omega)
                | (refine Wr.i32 ?_ ?_; omega)
                | (with_reducible refine Br.tt ?_)
                | (with_reducible refine Br.ff ?_)
                | (refine Br.dT ?_ ?_; omega)
                | (refine Br.dF ?_ ?_; omega)
                | (refine Br.d (fun h => ?_) (fun h => ?_))
                | (refine Br.swap ?_)
                | (refine Br.bnot ?_)
                | (refine Br.mk (fun h => Step.out ?_) (fun h => Step.out ?_))
                | (refine Two.mk (Step.out ?_) (Step.out ?_))
                | (refine Cp.mk fun q hq => Step.out ?_)
                | (refine Ovl.mk (by assumption) (Step.out ?_))
                | (refine CallOK.of_ct (Step.out ?_))
                | (refine CallQ.of_ct (Step.out ?_))
                | (refine Met.by (g := 35) (check_ct _ _ (by omega) (by omega)) ?_; rintro q outs ⟨rfl, rfl⟩)
                | (refine Met.by (g := 38) (table_ct _ _ (by omega) (by omega)) ?_; rintro q outs ⟨rfl, rfl⟩)
                | (refine Vc.mk ?_ (Step.out ?_))
          | focus
              have e := scr_repl n (a := a) (b := b) (i := i) (j := j) (by omega) (fun ⟨q1, q2, q3, q4⟩ => by have q3 := congrArg UInt8.toNat q3; omega) ⟨by omega, by omega, by omega⟩
              rw [show (((i - 1 : Nat)) : Int) = (i : Int) - 1 by omega] at e
              refine Again.by (n, i - 1, j - 1, o ++ [⟨3, (i : Int) - 1, (b.getD (j - 1) 0).toNat⟩]) ⟨⟨⟨by dsimp only; omega, by dsimp only; omega, by dsimp only; omega, by simp; omega⟩, by dsimp only; rw [← hs, e]; simp⟩, by dsimp only; omega⟩ ?_
              dsimp only
              repeat' first
                | (refine Step.mk ?_; conv => whnf)
                | (refine Vc.om ?_ ?_; first | omega | with_reducible rfl | with_reducible exact same_rfl | (simp only [bytes_2, bytes_3, bytes_4, bytes_5, bytes_9, bytes_12, bytes_21, bytes_22, bytes_25, bytes_29, bytes_31, bytes_40, bytes_41, bytes_43, bytes_45, bytes_46, bytes_47, bytes_48, bytes_49, bytes_52, bytes_53, bytes_60, bytes_63, bytes_67, bytes_75, bytes_79, true_and, and_true] <;> omega))
                | (refine NilB.mk fun b hb => Step.out ?_)
                | with_reducible trivial
                | exact noSh_bool _
                | exact noSh_lit _
                | exact noSh_int _ _
                | exact noSh_str _
                | with_reducible rfl
                | with_reducible exact same_rfl
                | (refine Wr.i64 ?_ ?_; omega)
                | (refine Wr.u8 ?_ ?_; omega)
                | (refine Wr.i32 ?_ ?_; omega)
                | (with_reducible refine Br.tt ?_)
                | (with_reducible refine Br.ff ?_)
                | (refine Br.dT ?_ ?_; omega)
                | (refine Br.dF ?_ ?_; omega)
                | (refine Br.d (fun h => ?_) (fun h => ?_))
                | (refine Br.swap ?_)
                | (refine Br.bnot ?_)
                | (refine Br.mk (fun h => Step.out ?_) (fun h => Step.out ?_))
                | (refine Two.mk (Step.out ?_) (Step.out ?_))
                | (refine Cp.mk fun q hq => Step.out ?_)
                | (refine Ovl.mk (by assumption) (Step.out ?_))
                | (refine CallOK.of_ct (Step.out ?_))
                | (refine CallQ.of_ct (Step.out ?_))
                | (refine Met.by (g := 35) (check_ct _ _ (by omega) (by omega)) ?_; rintro q outs ⟨rfl, rfl⟩)
                | (refine Met.by (g := 38) (table_ct _ _ (by omega) (by omega)) ?_; rintro q outs ⟨rfl, rfl⟩)
                | (refine Vc.mk ?_ (Step.out ?_))
              all_goals exact app1 Cg.f Cg.z ite_cg o _
          | focus
              have e := scr_del n (a := a) (b := b) (i := i) (j := j) (by omega) (fun ⟨q1, q2, q3, q4⟩ => by have q3 := congrArg UInt8.toNat q3; omega) (fun ⟨q1, q2, q3⟩ => by omega) ⟨by omega, by omega⟩
              rw [show (((i - 1 : Nat)) : Int) = (i : Int) - 1 by omega] at e
              refine Again.by (n, i - 1, j, o ++ [⟨2, (i : Int) - 1, 0⟩]) ⟨⟨⟨by dsimp only; omega, by dsimp only; omega, by dsimp only; omega, by simp; omega⟩, by dsimp only; rw [← hs, e]; simp⟩, by dsimp only; omega⟩ ?_
              dsimp only
              repeat' first
                | (refine Step.mk ?_; conv => whnf)
                | (refine Vc.om ?_ ?_; first | omega | with_reducible rfl | with_reducible exact same_rfl | (simp only [bytes_2, bytes_3, bytes_4, bytes_5, bytes_9, bytes_12, bytes_21, bytes_22, bytes_25, bytes_29, bytes_31, bytes_40, bytes_41, bytes_43, bytes_45, bytes_46, bytes_47, bytes_48, bytes_49, bytes_52, bytes_53, bytes_60, bytes_63, bytes_67, bytes_75, bytes_79, true_and, and_true] <;> omega))
                | (refine NilB.mk fun b hb => Step.out ?_)
                | with_reducible trivial
                | exact noSh_bool _
                | exact noSh_lit _
                | exact noSh_int _ _
                | exact noSh_str _
                | with_reducible rfl
                | with_reducible exact same_rfl
                | (refine Wr.i64 ?_ ?_; omega)
                | (refine Wr.u8 ?_ ?_; omega)
                | (refine Wr.i32 ?_ ?_; omega)
                | (with_reducible refine Br.tt ?_)
                | (with_reducible refine Br.ff ?_)
                | (refine Br.dT ?_ ?_; omega)
                | (refine Br.dF ?_ ?_; omega)
                | (refine Br.d (fun h => ?_) (fun h => ?_))
                | (refine Br.swap ?_)
                | (refine Br.bnot ?_)
                | (refine Br.mk (fun h => Step.out ?_) (fun h => Step.out ?_))
                | (refine Two.mk (Step.out ?_) (Step.out ?_))
                | (refine Cp.mk fun q hq => Step.out ?_)
                | (refine Ovl.mk (by assumption) (Step.out ?_))
                | (refine CallOK.of_ct (Step.out ?_))
                | (refine CallQ.of_ct (Step.out ?_))
                | (refine Met.by (g := 35) (check_ct _ _ (by omega) (by omega)) ?_; rintro q outs ⟨rfl, rfl⟩)
                | (refine Met.by (g := 38) (table_ct _ _ (by omega) (by omega)) ?_; rintro q outs ⟨rfl, rfl⟩)
                | (refine Vc.mk ?_ (Step.out ?_))
              all_goals exact app1 Cg.f Cg.z ite_cg o _
          | focus
              have e := scr_ins n (a := a) (b := b) (i := i) (j := j) (by omega) (fun ⟨q1, q2, q3, q4⟩ => by have q3 := congrArg UInt8.toNat q3; omega) (fun ⟨q1, q2, q3⟩ => by omega) (fun ⟨q1, q2⟩ => by omega) ⟨by omega, by omega⟩
              refine Again.by (n, i, j - 1, o ++ [⟨1, i, (b.getD (j - 1) 0).toNat⟩]) ⟨⟨⟨by dsimp only; omega, by dsimp only; omega, by dsimp only; omega, by simp; omega⟩, by dsimp only; rw [← hs, e]; simp⟩, by dsimp only; omega⟩ ?_
              dsimp only
              repeat' first
                | (refine Step.mk ?_; conv => whnf)
                | (refine Vc.om ?_ ?_; first | omega | with_reducible rfl | with_reducible exact same_rfl | (simp only [bytes_2, bytes_3, bytes_4, bytes_5, bytes_9, bytes_12, bytes_21, bytes_22, bytes_25, bytes_29, bytes_31, bytes_40, bytes_41, bytes_43, bytes_45, bytes_46, bytes_47, bytes_48, bytes_49, bytes_52, bytes_53, bytes_60, bytes_63, bytes_67, bytes_75, bytes_79, true_and, and_true] <;> omega))
                | (refine NilB.mk fun b hb => Step.out ?_)
                | with_reducible trivial
                | exact noSh_bool _
                | exact noSh_lit _
                | exact noSh_int _ _
                | exact noSh_str _
                | with_reducible rfl
                | with_reducible exact same_rfl
                | (refine Wr.i64 ?_ ?_; omega)
                | (refine Wr.u8 ?_ ?_; omega)
                | (refine Wr.i32 ?_ ?_; omega)
                | (with_reducible refine Br.tt ?_)
                | (with_reducible refine Br.ff ?_)
                | (refine Br.dT ?_ ?_; omega)
                | (refine Br.dF ?_ ?_; omega)
                | (refine Br.d (fun h => ?_) (fun h => ?_))
                | (refine Br.swap ?_)
                | (refine Br.bnot ?_)
                | (refine Br.mk (fun h => Step.out ?_) (fun h => Step.out ?_))
                | (refine Two.mk (Step.out ?_) (Step.out ?_))
                | (refine Cp.mk fun q hq => Step.out ?_)
                | (refine Ovl.mk (by assumption) (Step.out ?_))
                | (refine CallOK.of_ct (Step.out ?_))
                | (refine CallQ.of_ct (Step.out ?_))
                | (refine Met.by (g := 35) (check_ct _ _ (by omega) (by omega)) ?_; rintro q outs ⟨rfl, rfl⟩)
                | (refine Met.by (g := 38) (table_ct _ _ (by omega) (by omega)) ?_; rintro q outs ⟨rfl, rfl⟩)
                | (refine Vc.mk ?_ (Step.out ?_))
              all_goals exact app1 Cg.f Cg.z ite_cg o _
          | focus
              have e := scr_swap n (a := a) (b := b) (i := i) (j := j) (by omega) (fun ⟨q1, q2, q3, q4⟩ => by have q3 := congrArg UInt8.toNat q3; omega) (fun ⟨q1, q2, q3⟩ => by omega) (fun ⟨q1, q2⟩ => by omega) (fun ⟨q1, q2⟩ => by omega) 
              have e2 := two_of (a := a) (b := b) (i := i) (j := j) hi hj (by omega) (fun ⟨q1, q2, q3, q4⟩ => by have q3 := congrArg UInt8.toNat q3; omega) (fun ⟨q1, q2, q3⟩ => by omega) (fun ⟨q1, q2⟩ => by omega) (fun ⟨q1, q2⟩ => by omega)
              rw [show (((i - 2 : Nat)) : Int) = (i : Int) - 2 by omega] at e
              refine Again.by (n, i - 2, j - 2, o ++ [⟨4, (i : Int) - 2, 0⟩]) ⟨⟨⟨by dsimp only; omega, by dsimp only; omega, by dsimp only; omega, by simp; omega⟩, by dsimp only; rw [← hs, e]; simp⟩, by dsimp only; omega⟩ ?_
              dsimp only
              repeat' first
                | (refine Step.mk ?_; conv => whnf)
                | (refine Vc.om ?_ ?_; first | omega | with_reducible rfl | with_reducible exact same_rfl | (simp only [bytes_2, bytes_3, bytes_4, bytes_5, bytes_9, bytes_12, bytes_21, bytes_22, bytes_25, bytes_29, bytes_31, bytes_40, bytes_41, bytes_43, bytes_45, bytes_46, bytes_47, bytes_48, bytes_49, bytes_52, bytes_53, bytes_60, bytes_63, bytes_67, bytes_75, bytes_79, true_and, and_true] <;> omega))
                | (refine NilB.mk fun b hb => Step.out ?_)
                | with_reducible trivial
                | exact noSh_bool _
                | exact noSh_lit _
                | exact noSh_int _ _
                | exact noSh_str _
                | with_reducible rfl
                | with_reducible exact same_rfl
                | (refine Wr.i64 ?_ ?_; omega)
                | (refine Wr.u8 ?_ ?_; omega)
                | (refine Wr.i32 ?_ ?_; omega)
                | (with_reducible refine Br.tt ?_)
                | (with_reducible refine Br.ff ?_)
                | (refine Br.dT ?_ ?_; omega)
                | (refine Br.dF ?_ ?_; omega)
                | (refine Br.d (fun h => ?_) (fun h => ?_))
                | (refine Br.swap ?_)
                | (refine Br.bnot ?_)
                | (refine Br.mk (fun h => Step.out ?_) (fun h => Step.out ?_))
                | (refine Two.mk (Step.out ?_) (Step.out ?_))
                | (refine Cp.mk fun q hq => Step.out ?_)
                | (refine Ovl.mk (by assumption) (Step.out ?_))
                | (refine CallOK.of_ct (Step.out ?_))
                | (refine CallQ.of_ct (Step.out ?_))
                | (refine Met.by (g := 35) (check_ct _ _ (by omega) (by omega)) ?_; rintro q outs ⟨rfl, rfl⟩)
                | (refine Met.by (g := 38) (table_ct _ _ (by omega) (by omega)) ?_; rintro q outs ⟨rfl, rfl⟩)
                | (refine Vc.mk ?_ (Step.out ?_))
              all_goals exact app1 Cg.f Cg.z ite_cg o _
  · exact scriptL_no (by split at h <;> omega)
  · rfl
end Kx
