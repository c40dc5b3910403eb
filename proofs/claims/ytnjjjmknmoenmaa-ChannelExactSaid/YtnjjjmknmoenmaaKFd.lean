/-
  recordlinkplay: Channel, what it deals owned; BentChannel.
  No condition beyond those written in each theorem.
-/
import Derived.Test.YtnjjjmknmoenmaaKFc
open Go Sx Go.Proofs
set_option linter.unusedSimpArgs false
set_option linter.unusedVariables false
namespace Kx
theorem rnewQ_ct : Ct Try.prog 22 [] fun r outs => r = .agg [i64 1, i64 1, .nil, .nil, .nil, .nil] ∧ outs = [] := by
  refine .det (.of_W (fn := Try.f22) hΓ hm Try.func22 [] [] (by kernel_rfl) (Step.out ?_))
  repeat' first
    | (refine Step.mk ?_; conv => whnf)
    | with_reducible trivial
    | (refine Two.mk (Step.out ?_) (Step.out ?_))
theorem channelQ_ct (d : Dk) : Ct Try.prog 12 [d.b] fun r outs => ∃ (x : Ch) (d' : Dk), x.good ∧ r = x.q ∧ outs = [Dk.b d'] := by
  refine .some2 (.of_W (fn := Try.f12) hΓ hm Try.func12 ord12 [] (by kernel_rfl) (Step.out ?_))
  repeat' first
    | (refine Step.mk ?_; conv => whnf)
    | (refine CallOK.io1 (g := 27) (Step.out ?_))
    | (refine CallOK.of_ct (Step.out ?_))
    | (refine Met.by (g := 22) (rnewQ_ct) ?_; rintro q outs ⟨rfl, rfl⟩)
    | (refine Met.by (g := 27) (next_ct _ _) ?_; rintro q outs ⟨x, d, hx, rfl, rfl⟩)
  refine CodeOK.loopW hΓ hm ord12 [] (by kernel_rfl) (α := Ch × Dk × Int) (fun z => [(0, .loc 0 0), (2, .loc 1 0), (3, .loc 2 0), (4, i64 z.2.2)]) (fun z => [(0, .var z.2.1.ls), (1, .var [i64 0, i64 0, .nil, .nil, .nil, .nil]), (2, .var [i64 z.1.base, i64 z.1.exp, .own 3, .own 4, .own 5, .own 6]), (3, .oar 9 1 z.1.wait.length fun j => [.str (z.1.wait.getD j [])]), (4, .arr 43 2 z.1.there.length fun j => pkF (z.1.there.getD j (0, []))), (5, .oar 43 2 z.1.held.length fun j => pkF (z.1.held.getD j (0, []))), (6, .arr 3 1 z.1.back.length fun j => [i64 (z.1.back.getD j 0)])]) 7 (fun z => z.1.good ∧ 0 ≤ z.2.2 ∧ z.2.2 ≤ 40) (fun z => z.2.2.toNat) ?_ ?_
  · refine Again.by (Ch.new, d, x) ⟨new_good, by dsimp only; omega, by dsimp only; omega⟩ ?_
    dsimp only
    repeat' first
      | (refine Step.mk ?_; conv => whnf)
      | (refine Vc.om ?_ ?_; first | omega | with_reducible rfl | with_reducible exact same_rfl)
      | with_reducible trivial
      | (refine Vc.mk ?_ (Step.out ?_))
  · intro ⟨c, d, n⟩ ⟨hv, hn0, hn1⟩
    dsimp only at hv hn0 hn1 ⊢
    repeat' first
      | (refine Step.mk ?_; conv => whnf)
      | (refine Wr.i64 ?_ ?_; omega)
      | (refine Br.d (fun h => ?_) (fun h => ?_))
      | (refine Two.mk (Step.out ?_) (Step.out ?_))
      | (refine CallOK.mv1 (g := 18) (Step.out ?_))
      | (refine CallOK.io1 (g := 39) (Step.out ?_))
      | (refine Met.by (g := 18) (cmoveQ_ct _ _ (by assumption) _) ?_; rintro q outs ⟨y, d, hy, rfl, rfl⟩)
      | (refine Met.by (g := 39) (payload_ct _) ?_; rintro q outs ⟨x, d, hx, rfl, rfl⟩)
    all_goals first
      | (refine Again.by (y.1, d, n - 1) ⟨⟨hy.g, by dsimp only; omega, by dsimp only; omega⟩, by dsimp only; omega⟩ ?_)
      | (refine Lf2.by c d hv ?_)
    all_goals try dsimp only
    all_goals
      repeat' first
        | (refine Step.mk ?_; conv => whnf)
        | (refine Vc.om ?_ ?_; first | omega | with_reducible rfl | with_reducible exact same_rfl)
        | with_reducible trivial
        | with_reducible exact same_rfl
        | (refine Two.mk (Step.out ?_) (Step.out ?_))
theorem range_ct (d : Dk) (a n : Int) (ha : -1000 ≤ a ∧ a ≤ 1000) (hn : -1000 ≤ n ∧ n ≤ 1000) : Ct Try.prog 50 [d.b, i64 a, i64 n] fun r outs => ∃ x d', (-5000 ≤ x ∧ x ≤ 5000) ∧ r = i64 x ∧ outs = [Dk.b d'] := by
  refine .some2 (.of_W (fn := Try.f50) hΓ hm Try.func50 [] [] (by kernel_rfl) (Step.out ?_))
  repeat' first
    | (refine Step.mk ?_; conv => whnf)
    | (refine Wr.i64 ?_ ?_; omega)
    | (refine CallOK.io1 (g := 27) (Step.out ?_))
    | (refine Met.by (g := 27) (next_ct _ _) ?_; rintro q outs ⟨x, d, hx, rfl, rfl⟩)
  have hb : x ≤ 3000 := by
    rcases Int.lt_or_le (n - a + 1) 1 with h | h
    · have := hx.2.1 h; omega
    · have := hx.2.2 h; omega
  refine Lf2.by (a + x) d ⟨by omega, by omega⟩ ?_
  repeat' first
    | (refine Step.mk ?_; conv => whnf)
    | with_reducible trivial
    | with_reducible exact same_rfl
    | (refine Two.mk (Step.out ?_) (Step.out ?_))
end Kx
