/-
  recordlinkref39: equal channels; results whose lists are owned.
  No condition beyond those written in each theorem.
-/
import Derived.Test.YtnjjjmknmoenmaaKEk
open Go Sx Go.Proofs
set_option linter.unusedSimpArgs false
set_option linter.unusedVariables false
namespace Kx
/-- Short lists. -/
structure Ch.ln (c : Ch) : Prop where
  w : c.wait.length ≤ 1000000
  t : c.there.length ≤ 1000000
  h : c.held.length ≤ 1000000
  k : c.back.length ≤ 1000000
theorem packets_ct (l : List Pk) (hl : l.length ≤ 1000000) : Ct Try.prog 49 [pks l, pks l] fun q outs => q = .bool true ∧ outs = [] := by
  refine .det (.of_W (fn := Try.f49) hΓ hm Try.func49 ord49 [] (by kernel_rfl) (Step.out ?_))
  repeat' first
    | (refine Step.mk ?_; conv => whnf)
    | (refine Br.dT ?_ ?_; omega)
    | (refine Br.bnot ?_)
  refine CodeOK.loopW hΓ hm ord49 [] (by kernel_rfl) (α := Nat) (fun i => [(0, pks l), (1, pks l), (5, i64 i)]) (fun i => []) 0 (fun i => i ≤ l.length) (fun i => l.length - i) ?_ ?_
  · refine Again.by 0 (Nat.zero_le _) ?_
    repeat' first
      | (refine Step.mk ?_; conv => whnf)
      | (refine Vc.om ?_ ?_; first | omega | with_reducible rfl | with_reducible exact same_rfl)
      | with_reducible trivial
  · intro i hi
    repeat' first
      | (refine Step.mk ?_; conv => whnf)
      | (refine Vc.om ?_ ?_; first | omega | with_reducible rfl | with_reducible exact same_rfl)
      | with_reducible trivial
      | (refine Wr.i64 ?_ ?_; omega)
      | (refine Br.d (fun h => ?_) (fun h => ?_))
      | (refine Br.bnot ?_)
      | (refine Two.mk (Step.out ?_) (Step.out ?_))
    all_goals try exact absurd (And.intro rfl rfl) h
    refine Again.by (i + 1) ⟨by omega, by omega⟩ ?_
    repeat' first
      | (refine Step.mk ?_; conv => whnf)
      | (refine Vc.om ?_ ?_; first | omega | with_reducible rfl | with_reducible exact same_rfl)
      | with_reducible trivial
theorem same_ct (c : Ch) (h : c.ln) : Ct Try.prog 21 [c.d, c.d] fun q outs => q = .bool true ∧ outs = [] := by
  obtain ⟨h1, h2, h3, h4⟩ := h
  refine .det (.of_W (fn := Try.f21) hΓ hm Try.func21 ord21 [] (by kernel_rfl) (Step.out ?_))
  repeat' first
    | (refine Step.mk ?_; conv => whnf)
    | (with_reducible refine Br.tt ?_)
    | (refine Br.dT ?_ ?_; omega)
    | (refine Br.swap ?_)
    | (refine Br.bnot ?_)
    | (refine CallOK.of_ct (Step.out ?_))
    | (refine Met.by (g := 49) (packets_ct _ (by omega)) ?_; rintro q outs ⟨rfl, rfl⟩)
  refine CodeOK.loopW hΓ hm ord21 [] (by kernel_rfl) (α := Nat) (fun i => [(2, .loc 0 0), (3, .loc 1 0), (5, i64 i)]) (fun i => [(0, .var c.l), (1, .var c.l)]) 2 (fun i => i ≤ c.wait.length) (fun i => c.wait.length - i) ?_ ?_
  · refine Again.by 0 (Nat.zero_le _) ?_
    repeat' first
      | (refine Step.mk ?_; conv => whnf)
      | (refine Vc.om ?_ ?_; first | omega | with_reducible rfl | with_reducible exact same_rfl)
      | with_reducible trivial
  · intro i hi
    repeat' first
      | (refine Step.mk ?_; conv => whnf)
      | (refine Vc.om ?_ ?_; first | omega | with_reducible rfl | with_reducible exact same_rfl)
      | with_reducible trivial
      | (refine Wr.i64 ?_ ?_; omega)
      | (refine Br.d (fun h => ?_) (fun h => ?_))
      | (refine Br.bnot ?_)
    · refine Again.by (i + 1) ⟨by omega, by omega⟩ ?_
      repeat' first
        | (refine Step.mk ?_; conv => whnf)
        | (refine Vc.om ?_ ?_; first | omega | with_reducible rfl | with_reducible exact same_rfl)
        | with_reducible trivial
    · refine CodeOK.loopW hΓ hm ord21 [] (by kernel_rfl) (α := Nat) (fun i => [(2, .loc 0 0), (3, .loc 1 0), (6, i64 i)]) (fun i => [(0, .var c.l), (1, .var c.l)]) 2 (fun i => i ≤ c.back.length) (fun i => c.back.length - i) ?_ ?_
      · refine Again.by 0 (Nat.zero_le _) ?_
        repeat' first
          | (refine Step.mk ?_; conv => whnf)
          | (refine Vc.om ?_ ?_; first | omega | with_reducible rfl | with_reducible exact same_rfl)
          | with_reducible trivial
      · intro i hi
        repeat' first
          | (refine Step.mk ?_; conv => whnf)
          | (refine Vc.om ?_ ?_; first | omega | with_reducible rfl | with_reducible exact same_rfl)
          | with_reducible trivial
          | (refine Wr.i64 ?_ ?_; omega)
          | (refine Br.dT ?_ ?_; omega)
          | (refine Br.d (fun h => ?_) (fun h => ?_))
          | (refine Br.bnot ?_)
          | (refine Two.mk (Step.out ?_) (Step.out ?_))
        refine Again.by (i + 1) ⟨by omega, by omega⟩ ?_
        repeat' first
          | (refine Step.mk ?_; conv => whnf)
          | (refine Vc.om ?_ ?_; first | omega | with_reducible rfl | with_reducible exact same_rfl)
          | with_reducible trivial
end Kx
