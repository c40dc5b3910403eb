/-
  The deck: New, Word, Next; Few.
  No condition beyond those written in each theorem.
-/
import Derived.Test.YtnjjjmknmoenmaaKP
open Go Sx Go.Proofs
set_option linter.unusedSimpArgs false
set_option linter.unusedVariables false
namespace Kx
/-- A deck: its list, where it stands, its state. -/
structure Dk where
  l : List Int
  at_ : Int
  st : Int
  h0 : 0 ≤ at_
  hl : l.length ≤ 400
def Dk.ls (d : Dk) : List D := [ints d.l, i64 d.at_, u64 d.st]
def Dk.b (d : Dk) : D := .fbox d.ls
theorem few_ct (l : List Int) : Ct Try.prog 10 [ints l] fun r outs => r = .bool (decide (l.length ≤ 400)) ∧ outs = [] := by
  refine .det (.of_W (fn := Try.f10) hΓ hm Try.func10 [] [] (by kernel_rfl) (Step.out ?_))
  repeat' first
    | (refine Step.mk ?_; conv => whnf)
    | with_reducible trivial
    | (refine Two.mk (Step.out ?_) (Step.out ?_))
  all_goals first
    | trivial
    | exact hb h
    | with_reducible rfl
    | with_reducible exact same_rfl
    | omega
    | ((simp only [decide_eq_decide]; omega))
theorem new_ct (l : List Int) (hl : l.length ≤ 400) : Ct Try.prog 11 [ints l] fun r outs => ∃ d : Dk, d.l = l ∧ r = d.b ∧ outs = [] := by
  refine .some (.of_W (fn := Try.f11) hΓ hm Try.func11 [] [] (by kernel_rfl) (Step.out ?_))
  repeat' first
    | (refine Step.mk ?_; conv => whnf)
  refine Lf.by ⟨l, 0, 11400714819323198485, by omega, hl⟩ rfl ?_
  repeat' first
    | (refine Step.mk ?_; conv => whnf)
    | with_reducible trivial
    | with_reducible exact same_rfl
    | (refine Two.mk (Step.out ?_) (Step.out ?_))
  all_goals first
    | trivial
    | exact hb h
    | with_reducible rfl
    | with_reducible exact same_rfl
    | omega
theorem word_end (d : Dk) (x a s : Int) (hx : 0 ≤ x ∧ x ≤ 18446744073709551615) (ha : 0 ≤ a) :
    Lf2 (fun y (_ : Dk) => 0 ≤ y ∧ y ≤ 18446744073709551615) fun y z => Two (wkD (u64 y) (u64 x) false) (wkL [z.b] [.fbox [ints d.l, i64 a, u64 s]] false) := by
  refine Lf2.by x ⟨d.l, a, s, ha, d.hl⟩ hx ?_
  repeat' first
    | (refine Step.mk ?_; conv => whnf)
    | with_reducible trivial
    | with_reducible exact same_rfl
    | (refine Two.mk (Step.out ?_) (Step.out ?_))
theorem word_ct (d : Dk) : Ct Try.prog 53 [d.b] fun r outs => ∃ x d', (0 ≤ x ∧ x ≤ 18446744073709551615) ∧ r = u64 x ∧ outs = [Dk.b d'] := by
  have h0 := d.h0
  have hl := d.hl
  refine .some2 (.of_W (fn := Try.f53) hΓ hm Try.func53 ord53 [] (by kernel_rfl) (Step.out ?_))
  repeat' first
    | (refine Step.mk ?_; conv => whnf)
    | (refine Vc.om ?_ ?_; first | omega | with_reducible rfl | with_reducible exact same_rfl)
    | (refine Wr.i64 ?_ ?_; omega)
    | (refine Wr.raw ?_)
    | (refine Br.d (fun h => ?_) (fun h => ?_))
  · refine word_end d _ _ _ ?_ ?_
    · exact wu_in _
    · omega
  · refine word_end d _ _ _ ?_ ?_
    · exact wu_in _
    · omega
theorem half (x : Int) : x.fdiv (2 ^ min (Int.toNat 1) IntKind.u64.bits) = x / 2 := by
  rw [Int.fdiv_eq_ediv_of_nonneg _ (by decide)]; rfl
theorem tmod_bd (x n : Int) (h0 : 0 ≤ x) (h1 : ¬n < 1) : 0 ≤ x.tmod n ∧ (n < 1 → x.tmod n = 0) ∧ (1 ≤ n → x.tmod n < n) := by
  rw [Int.tmod_eq_emod_of_nonneg h0]
  exact ⟨Int.emod_nonneg _ (by omega), fun h => absurd h h1, fun h => Int.emod_lt_of_pos _ (by omega)⟩
theorem next_ct (d : Dk) (n : Int) : Ct Try.prog 27 [d.b, i64 n] fun r outs => ∃ x d', (0 ≤ x ∧ (n < 1 → x = 0) ∧ (1 ≤ n → x < n)) ∧ r = i64 x ∧ outs = [Dk.b d'] := by
  refine .some2 (.of_W (fn := Try.f27) hΓ hm Try.func27 [] [] (by kernel_rfl) (Step.out ?_))
  repeat' first
    | (refine Step.mk ?_; conv => whnf)
    | (refine Vc.om ?_ ?_; first | omega | with_reducible rfl | with_reducible exact same_rfl)
    | (refine Wr.i64 ?_ ?_; omega)
    | (rw [half])
    | (refine Br.d (fun h => ?_) (fun h => ?_))
    | (refine CallOK.io1 (g := 53) (Step.out ?_))
    | (refine Met.by (g := 53) (word_ct _) ?_; rintro q outs ⟨x, d, hx, rfl, rfl⟩)
  · refine Lf2.by 0 d ⟨Int.le_refl 0, fun _ => rfl, fun _ => by omega⟩ ?_
    repeat' first
      | (refine Step.mk ?_; conv => whnf)
      | with_reducible trivial
      | with_reducible exact same_rfl
      | (refine Two.mk (Step.out ?_) (Step.out ?_))
  · refine Lf2.by _ d (tmod_bd (x / 2) n (by omega) h) ?_
    repeat' first
      | (refine Step.mk ?_; conv => whnf)
      | with_reducible trivial
      | with_reducible exact same_rfl
      | (refine Two.mk (Step.out ?_) (Step.out ?_))
end Kx
