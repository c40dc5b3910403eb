/-
  Results that are only read from then on.
  No condition beyond those written in each theorem.
-/
import Derived.Test.YtnjjjmknmoenmaaKFf
open Go Sx Go.Proofs
set_option linter.unusedSimpArgs false
set_option linter.unusedVariables false
namespace Kx
theorem o_toD {g : FuncId} {args : List D} {x : Ch} {e : Int} (H : Ct Try.prog g args fun r outs => r = .tup [x.o, i64 e] ∧ outs = []) : Ct Try.prog g args fun r outs => r = .tup [x.d, i64 e] ∧ outs = [] := Ct.det (H.mono fun r outs h => by
  obtain ⟨rfl, rfl⟩ := h
  refine Two.mk ?_ ?_
  all_goals
    conv => whnf
    repeat' first
      | (refine Step.mk ?_; conv => whnf)
      | with_reducible trivial
      | with_reducible exact same_rfl
      | (refine Two.mk (Step.out ?_) (Step.out ?_))
  all_goals rfl)
theorem q_toD {g : FuncId} {args : List D} {x : Ch} {e : Int} (H : Ct Try.prog g args fun r outs => r = .tup [x.q, i64 e] ∧ outs = []) : Ct Try.prog g args fun r outs => r = .tup [x.d, i64 e] ∧ outs = [] := Ct.det (H.mono fun r outs h => by
  obtain ⟨rfl, rfl⟩ := h
  refine Two.mk ?_ ?_
  all_goals
    conv => whnf
    repeat' first
      | (refine Step.mk ?_; conv => whnf)
      | with_reducible trivial
      | with_reducible exact same_rfl
      | (refine Two.mk (Step.out ?_) (Step.out ?_))
  all_goals rfl)
end Kx
