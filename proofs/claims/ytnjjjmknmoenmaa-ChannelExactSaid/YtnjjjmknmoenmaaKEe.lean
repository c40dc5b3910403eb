/-
  recordlinkref39: Check.
  No condition beyond those written in each theorem.
-/
import Derived.Test.YtnjjjmknmoenmaaKEd
open Go Sx Go.Proofs
set_option linter.unusedSimpArgs false
set_option linter.unusedVariables false
namespace Kx
theorem chk_2 {c : Ch} (h : c.base < 1 ∨ 1048576 < c.base) : c.chk = 2 := by rw [Ch.chk, if_pos h]
theorem chk_big {c : Ch} (h : ¬(c.base < 1 ∨ 1048576 < c.base)) (h1 : c.bigB = true) : c.chk = 1 := by rw [Ch.chk, if_neg h, if_pos (by rw [h1, Bool.true_or])]
theorem chk_long {c : Ch} (h : ¬(c.base < 1 ∨ 1048576 < c.base)) (h1 : c.longB = true) : c.chk = 1 := by rw [Ch.chk, if_neg h, if_pos (by rw [h1, Bool.or_true])]
theorem chk_50 {c : Ch} (h : ¬(c.base < 1 ∨ 1048576 < c.base)) (h1 : c.bigB = false) (h2 : c.longB = false) (h3 : c.stateB = false) : c.chk = 50 := by rw [Ch.chk, if_neg h, if_neg (by rw [h1, h2]; simp), if_neg (by rw [h3]; simp)]
theorem chk_0 {c : Ch} (h : ¬(c.base < 1 ∨ 1048576 < c.base)) (h1 : c.bigB = false) (h2 : c.longB = false) (h3 : c.stateB = true) : c.chk = 0 := by rw [Ch.chk, if_neg h, if_neg (by rw [h1, h2]; simp), if_pos h3]
def lw (s : Str) : Bool := decide (60000 < s.length)
def lp (p : Pk) : Bool := decide (60000 < p.2.length)
def tb (c : Ch) (p : Pk) : Bool := decide (p.1 < 1) || !c.right p
def kb (c : Ch) (n : Int) : Bool := decide (n < 1) || decide (c.exp < n)
theorem rpay_ct (c : Ch) (hc : c.ok) (n : Int) (h : c.base ≤ n) (h' : n < c.base + c.wait.length) : Ct Try.prog 51 [c.d, i64 n] fun r outs => r = .str (c.pay n) ∧ outs = [] := by
  obtain ⟨h1, h2, h3, h4, h5, h6⟩ := hc
  refine .det (.of_W (fn := Try.f51) hΓ hm Try.func51 [] [] (by kernel_rfl) (Step.out ?_))
  repeat' first
    | (refine Step.mk ?_; conv => whnf)
    | (refine Vc.om ?_ ?_; first | omega | with_reducible rfl | with_reducible exact same_rfl)
    | with_reducible trivial
    | (refine Wr.i64 ?_ ?_; omega)
    | (refine Two.mk (Step.out ?_) (Step.out ?_))
  all_goals rfl
theorem right_F1 {c : Ch} {p : Pk} (h : c.reach ≤ p.1) : c.right p = false := by rw [Ch.right, decide_eq_false (by omega), Bool.false_and]
theorem right_F2 {c : Ch} {p : Pk} (h : c.base ≤ p.1) (h1 : ¬c.pay p.1 = p.2) : c.right p = false := by rw [Ch.right, decide_eq_false h1, decide_eq_false (show ¬p.1 < c.base by omega)]; simp
theorem right_T1 {c : Ch} {p : Pk} (h : p.1 < c.reach) (h1 : p.1 < c.base) : c.right p = true := by rw [Ch.right, decide_eq_true h1, decide_eq_true h]; rfl
theorem right_T2 {c : Ch} {p : Pk} (h : p.1 < c.reach) (h1 : c.pay p.1 = p.2) : c.right p = true := by rw [Ch.right, decide_eq_true h1, decide_eq_true h]; simp
theorem long_w {c : Ch} (h : c.wait.any lw = true) : c.longB = true := by
  have : (c.wait.any fun s => decide (60000 < s.length)) = true := h
  rw [Ch.longB, this, Bool.true_or]
theorem long_t {c : Ch} (h : c.there.any lp = true) : c.longB = true := by
  have : (c.there.any fun p => decide (60000 < p.2.length)) = true := h
  rw [Ch.longB, List.any_append, this, Bool.true_or, Bool.or_true]
theorem long_h {c : Ch} (h : c.held.any lp = true) : c.longB = true := by
  have : (c.held.any fun p => decide (60000 < p.2.length)) = true := h
  rw [Ch.longB, List.any_append, this, Bool.or_true, Bool.or_true]
theorem long_F {c : Ch} (h : c.wait.any lw = false) (h1 : c.there.any lp = false) (h2 : c.held.any lp = false) : c.longB = false := by
  have e : (c.wait.any fun s => decide (60000 < s.length)) = false := h
  have e1 : (c.there.any fun p => decide (60000 < p.2.length)) = false := h1
  have e2 : (c.held.any fun p => decide (60000 < p.2.length)) = false := h2
  rw [Ch.longB, List.any_append, e, e1, e2]; rfl
theorem stateB_F0 {c : Ch} (h : 1048576 < c.base + c.wait.length ∨ c.exp < c.base ∨ c.reach < c.exp) : c.stateB = false := by
  rw [Ch.stateB]
  rcases h with h | h | h
  · rw [decide_eq_false (show ¬c.base + c.wait.length ≤ 1048576 by omega)]; simp
  · rw [decide_eq_false (show ¬c.base ≤ c.exp by omega)]; simp
  · rw [decide_eq_false (show ¬c.exp ≤ c.reach by omega)]; simp
theorem stateB_Ft {c : Ch} (h : c.there.any (tb c) = true) : c.stateB = false := by
  have e : (c.there.any fun p => decide (p.1 < 1) || !c.right p) = true := h
  rw [Ch.stateB, e]; simp
theorem stateB_Fk {c : Ch} (h : c.back.any (kb c) = true) : c.stateB = false := by
  have e : (c.back.any fun n => decide (n < 1) || decide (c.exp < n)) = true := h
  rw [Ch.stateB, e]; simp
theorem stateB_T {c : Ch} (h : ¬(1048576 < c.base + c.wait.length ∨ c.exp < c.base ∨ c.reach < c.exp)) (hh : c.heldB c.exp c.held = true) (ht : c.there.any (tb c) = false) (hk : c.back.any (kb c) = false) : c.stateB = true := by
  have e : (c.there.any fun p => decide (p.1 < 1) || !c.right p) = false := ht
  have e1 : (c.back.any fun n => decide (n < 1) || decide (c.exp < n)) = false := hk
  rw [Ch.stateB, e, e1, hh, decide_eq_true (show c.base + c.wait.length ≤ 1048576 by omega), decide_eq_true (show c.base ≤ c.exp by omega), decide_eq_true (show c.exp ≤ c.reach by omega)]; rfl
theorem any_stepT {α : Type} {p : α → Bool} {l : List α} {z : α} {i : Nat} (h : i < l.length) (hv : l.any p = (l.drop i).any p) (ht : p (l.getD (i : Int).toNat z) = true) : l.any p = true := by
  rw [Int.toNat_natCast] at ht; rw [hv, any_step p l z i h, ht, Bool.true_or]
theorem any_stepF {α : Type} {p : α → Bool} {l : List α} {z : α} {i : Nat} (h : i < l.length) (hv : l.any p = (l.drop i).any p) (ht : p (l.getD (i : Int).toNat z) = false) : l.any p = (l.drop (i + 1)).any p := by
  rw [Int.toNat_natCast] at ht; rw [hv, any_step p l z i h, ht, Bool.false_or]
theorem any_stepE {α : Type} {p : α → Bool} {l : List α} {i : Nat} (h : ¬(i : Int) < l.length) (hi : i ≤ l.length) (hv : l.any p = (l.drop i).any p) : l.any p = false := by
  rw [hv, show i = l.length by omega, List.drop_length, List.any_nil]
theorem rcheck_ct (c : Ch) (hc : c.ok) : Ct Try.prog 24 [c.d] fun r outs => r = i64 c.chk ∧ outs = [] := by
  have hc' := hc
  obtain ⟨h1, h2, h3, h4, h5, h6⟩ := hc
  have hrr : c.reach = c.base + min (c.wait.length : Int) 4 := rfl
  refine .det (.of_W (fn := Try.f24) hΓ hm Try.func24 ord24 [] (by kernel_rfl) (Step.out ?_))
  repeat' first
    | (refine Step.mk ?_; conv => whnf)
    | with_reducible trivial
    | (refine Br.d (fun h => ?_) (fun h => ?_))
    | (refine Br.swap ?_)
    | (refine Two.mk (Step.out ?_) (Step.out ?_))
  all_goals try first | exact (chk_2 (by omega)).symm | exact (chk_big (by omega) (by simp [Ch.bigB]; omega)).symm
  have hb : ¬(c.base < 1 ∨ 1048576 < c.base) := by omega
  have hg : c.bigB = false := by simp [Ch.bigB]; omega
  refine CodeOK.loopW hΓ hm ord24 [] (by kernel_rfl) (α := Nat) (fun i => [(1, .loc 0 0), (3, i64 i)]) (fun i => [(0, .var c.l)]) 1 (fun i => i ≤ c.wait.length ∧ c.wait.any lw = (c.wait.drop i).any lw) (fun i => c.wait.length - i) ?_ ?_
  · refine Again.by 0 ⟨Nat.zero_le _, rfl⟩ ?_
    repeat' first
      | (refine Step.mk ?_; conv => whnf)
      | (refine Vc.om ?_ ?_; first | omega | with_reducible rfl | with_reducible exact same_rfl)
      | with_reducible trivial
  intro i ⟨hi, hv⟩
  repeat' first
    | (refine Step.mk ?_; conv => whnf)
    | (refine Vc.om ?_ ?_; first | omega | with_reducible rfl | with_reducible exact same_rfl)
    | with_reducible trivial
    | (refine Wr.i64 ?_ ?_; omega)
    | (refine Br.d (fun h => ?_) (fun h => ?_))
    | (refine Two.mk (Step.out ?_) (Step.out ?_))
  · exact (chk_long hb (long_w (any_stepT (z := []) (by omega) hv (decide_eq_true (by omega))))).symm
  · refine Again.by (i + 1) ⟨⟨by omega, any_stepF (z := []) (by omega) hv (decide_eq_false (by omega))⟩, by omega⟩ ?_
    repeat' first
      | (refine Step.mk ?_; conv => whnf)
      | (refine Vc.om ?_ ?_; first | omega | with_reducible rfl | with_reducible exact same_rfl)
      | with_reducible trivial
  have hw := any_stepE ‹_› hi hv
  clear hv hi
  refine CodeOK.loopW hΓ hm ord24 [] (by kernel_rfl) (α := Nat) (fun i => [(1, .loc 0 0), (4, i64 i)]) (fun i => [(0, .var c.l)]) 1 (fun i => i ≤ c.there.length ∧ c.there.any lp = (c.there.drop i).any lp) (fun i => c.there.length - i) ?_ ?_
  · refine Again.by 0 ⟨Nat.zero_le _, rfl⟩ ?_
    repeat' first
      | (refine Step.mk ?_; conv => whnf)
      | (refine Vc.om ?_ ?_; first | omega | with_reducible rfl | with_reducible exact same_rfl)
      | with_reducible trivial
  intro i ⟨hi, hv⟩
  repeat' first
    | (refine Step.mk ?_; conv => whnf)
    | (refine Vc.om ?_ ?_; first | omega | with_reducible rfl | with_reducible exact same_rfl)
    | with_reducible trivial
    | (refine Wr.i64 ?_ ?_; omega)
    | (refine Br.d (fun h => ?_) (fun h => ?_))
    | (refine Two.mk (Step.out ?_) (Step.out ?_))
  · exact (chk_long hb (long_t (any_stepT (z := (0, [])) (by omega) hv (decide_eq_true (by omega))))).symm
  · refine Again.by (i + 1) ⟨⟨by omega, any_stepF (z := (0, [])) (by omega) hv (decide_eq_false (by omega))⟩, by omega⟩ ?_
    repeat' first
      | (refine Step.mk ?_; conv => whnf)
      | (refine Vc.om ?_ ?_; first | omega | with_reducible rfl | with_reducible exact same_rfl)
      | with_reducible trivial
  have ht := any_stepE ‹_› hi hv
  clear hv hi
  refine CodeOK.loopW hΓ hm ord24 [] (by kernel_rfl) (α := Nat) (fun i => [(1, .loc 0 0), (5, i64 i)]) (fun i => [(0, .var c.l)]) 1 (fun i => i ≤ c.held.length ∧ c.held.any lp = (c.held.drop i).any lp) (fun i => c.held.length - i) ?_ ?_
  · refine Again.by 0 ⟨Nat.zero_le _, rfl⟩ ?_
    repeat' first
      | (refine Step.mk ?_; conv => whnf)
      | (refine Vc.om ?_ ?_; first | omega | with_reducible rfl | with_reducible exact same_rfl)
      | with_reducible trivial
  intro i ⟨hi, hv⟩
  repeat' first
    | (refine Step.mk ?_; conv => whnf)
    | (refine Vc.om ?_ ?_; first | omega | with_reducible rfl | with_reducible exact same_rfl)
    | with_reducible trivial
    | (refine Wr.i64 ?_ ?_; omega)
    | (refine Br.d (fun h => ?_) (fun h => ?_))
    | (refine Br.swap ?_)
    | (refine Two.mk (Step.out ?_) (Step.out ?_))
  · exact (chk_long hb (long_h (any_stepT (z := (0, [])) (by omega) hv (decide_eq_true (by omega))))).symm
  · refine Again.by (i + 1) ⟨⟨by omega, any_stepF (z := (0, [])) (by omega) hv (decide_eq_false (by omega))⟩, by omega⟩ ?_
    repeat' first
      | (refine Step.mk ?_; conv => whnf)
      | (refine Vc.om ?_ ?_; first | omega | with_reducible rfl | with_reducible exact same_rfl)
      | with_reducible trivial
  all_goals have hh := any_stepE (show ¬(i : Int) < c.held.length by assumption) hi hv
  all_goals clear hv hi
  all_goals have hl := long_F hw ht hh
  all_goals try exact (chk_50 hb hg hl (stateB_F0 (by omega))).symm
  have hs : ¬(1048576 < c.base + c.wait.length ∨ c.exp < c.base ∨ c.reach < c.exp) := by omega
  refine CodeOK.loopW hΓ hm ord24 [] (by kernel_rfl) (α := Nat) (fun i => [(1, .loc 0 0), (6, i64 c.reach), (7, i64 i)]) (fun i => [(0, .var c.l)]) 1 (fun i => i ≤ c.held.length ∧ c.heldB c.exp c.held = c.heldB (mAt c i) (c.held.drop i)) (fun i => c.held.length - i) ?_ ?_
  · refine Again.by 0 ⟨Nat.zero_le _, rfl⟩ ?_
    repeat' first
      | (refine Step.mk ?_; conv => whnf)
      | (refine Vc.om ?_ ?_; first | omega | with_reducible rfl | with_reducible exact same_rfl)
      | with_reducible trivial
  intro i ⟨hi, hv⟩
  repeat' first
    | (refine Step.mk ?_; conv => whnf)
    | (refine Vc.om ?_ ?_; first | omega | with_reducible rfl | with_reducible exact same_rfl)
    | with_reducible trivial
    | (refine Wr.i64 ?_ ?_; omega)
    | (refine Br.d (fun h => ?_) (fun h => ?_))
    | (refine Br.swap ?_)
    | (refine Br.bnot ?_)
    | (refine Two.mk (Step.out ?_) (Step.out ?_))
    | (refine CallQ.of_ct (Step.out ?_))
    | (refine Met.by (g := 51) (rpay_ct _ (by assumption) _ (by omega) (by omega)) ?_; rintro q outs ⟨rfl, rfl⟩)
  · exact (chk_50 hb hg hl (stateB_F (hv.trans (held_F1 c i _ (by omega) ‹_›)))).symm
  · exact (chk_50 hb hg hl (stateB_F (hv.trans (held_F3 c i _ (by omega) (right_F1 ‹_›))))).symm
  · exact (chk_50 hb hg hl (stateB_F (hv.trans (held_F2 c i (by omega) (by omega) ‹_›)))).symm
  · refine Again.by (i + 1) ⟨⟨by omega, hv.trans (held_T c i (by omega) ‹_› (fun h0 => ‹_›) (right_T2 (by omega) (Eq.symm ‹_›)))⟩, by omega⟩ ?_
    repeat' first
      | (refine Step.mk ?_; conv => whnf)
      | (refine Vc.om ?_ ?_; first | omega | with_reducible rfl | with_reducible exact same_rfl)
      | with_reducible trivial
  · refine Again.by (i + 1) ⟨⟨by omega, hv.trans (held_T c i (by omega) ‹_› (fun h0 => absurd h0 ‹_›) (right_T2 (by omega) (Eq.symm ‹_›)))⟩, by omega⟩ ?_
    repeat' first
      | (refine Step.mk ?_; conv => whnf)
      | (refine Vc.om ?_ ?_; first | omega | with_reducible rfl | with_reducible exact same_rfl)
      | with_reducible trivial
  · exact (chk_50 hb hg hl (stateB_F (hv.trans (held_F3 c i _ (by omega) (right_F2 (by omega) (Ne.symm ‹_›)))))).symm
  have hhb : c.heldB c.exp c.held = true := by rw [hv, show i = c.held.length by omega, List.drop_length]; rfl
  clear hv hi
  refine CodeOK.loopW hΓ hm ord24 [] (by kernel_rfl) (α := Nat) (fun i => [(1, .loc 0 0), (6, i64 c.reach), (9, i64 i)]) (fun i => [(0, .var c.l)]) 1 (fun i => i ≤ c.there.length ∧ c.there.any (tb c) = (c.there.drop i).any (tb c)) (fun i => c.there.length - i) ?_ ?_
  · refine Again.by 0 ⟨Nat.zero_le _, rfl⟩ ?_
    repeat' first
      | (refine Step.mk ?_; conv => whnf)
      | (refine Vc.om ?_ ?_; first | omega | with_reducible rfl | with_reducible exact same_rfl)
      | with_reducible trivial
  intro i ⟨hi, hv⟩
  repeat' first
    | (refine Step.mk ?_; conv => whnf)
    | (refine Vc.om ?_ ?_; first | omega | with_reducible rfl | with_reducible exact same_rfl)
    | with_reducible trivial
    | (refine Wr.i64 ?_ ?_; omega)
    | (refine Br.d (fun h => ?_) (fun h => ?_))
    | (refine Br.swap ?_)
    | (refine Br.bnot ?_)
    | (refine Two.mk (Step.out ?_) (Step.out ?_))
    | (refine CallQ.of_ct (Step.out ?_))
    | (refine Met.by (g := 51) (rpay_ct _ (by assumption) _ (by omega) (by omega)) ?_; rintro q outs ⟨rfl, rfl⟩)
  all_goals try exact (chk_50 hb hg hl (stateB_Ft (any_stepT (z := (0, [])) (by omega) hv (by simp only [tb, Bool.or_eq_true, decide_eq_true_eq, Bool.not_eq_true']; first | exact .inl (by omega) | exact .inr (right_F1 (by omega)) | exact .inr (right_F2 (by omega) (Ne.symm ‹_›)))))).symm
  all_goals try
    refine Again.by (i + 1) ⟨⟨by omega, any_stepF (z := (0, [])) (by omega) hv (by simp only [tb, Bool.or_eq_false_iff, decide_eq_false_iff_not, Bool.not_eq_false']; exact ⟨by omega, by first | exact right_T1 (by omega) (by omega) | exact right_T2 (by omega) (Eq.symm ‹_›)⟩)⟩, by omega⟩ ?_
    repeat' first
      | (refine Step.mk ?_; conv => whnf)
      | (refine Vc.om ?_ ?_; first | omega | with_reducible rfl | with_reducible exact same_rfl)
      | with_reducible trivial
  have htb := any_stepE (show ¬(i : Int) < c.there.length by assumption) hi hv
  clear hv hi
  refine CodeOK.loopW hΓ hm ord24 [] (by kernel_rfl) (α := Nat) (fun i => [(1, .loc 0 0), (11, i64 i)]) (fun i => [(0, .var c.l)]) 1 (fun i => i ≤ c.back.length ∧ c.back.any (kb c) = (c.back.drop i).any (kb c)) (fun i => c.back.length - i) ?_ ?_
  · refine Again.by 0 ⟨Nat.zero_le _, rfl⟩ ?_
    repeat' first
      | (refine Step.mk ?_; conv => whnf)
      | (refine Vc.om ?_ ?_; first | omega | with_reducible rfl | with_reducible exact same_rfl)
      | with_reducible trivial
  intro i ⟨hi, hv⟩
  repeat' first
    | (refine Step.mk ?_; conv => whnf)
    | (refine Vc.om ?_ ?_; first | omega | with_reducible rfl | with_reducible exact same_rfl)
    | with_reducible trivial
    | (refine Wr.i64 ?_ ?_; omega)
    | (refine Br.d (fun h => ?_) (fun h => ?_))
    | (refine Br.swap ?_)
    | (refine Two.mk (Step.out ?_) (Step.out ?_))
  all_goals try exact (chk_50 hb hg hl (stateB_Fk (any_stepT (z := 0) (by omega) hv (by simp only [kb, Bool.or_eq_true, decide_eq_true_eq]; omega)))).symm
  · refine Again.by (i + 1) ⟨⟨by omega, any_stepF (z := 0) (by omega) hv (by simp only [kb, Bool.or_eq_false_iff, decide_eq_false_iff_not]; omega)⟩, by omega⟩ ?_
    repeat' first
      | (refine Step.mk ?_; conv => whnf)
      | (refine Vc.om ?_ ?_; first | omega | with_reducible rfl | with_reducible exact same_rfl)
      | with_reducible trivial
  have hkb := any_stepE (show ¬(i : Int) < c.back.length by assumption) hi hv
  exact (chk_0 hb hg hl (stateB_T hs hhb htb hkb)).symm
end Kx
