/-
  recordlinkplay: BentChannel.
  No condition beyond those written in each theorem.
-/
import Derived.Test.YtnjjjmknmoenmaaKFd
open Go Sx Go.Proofs
set_option linter.unusedSimpArgs false
set_option linter.unusedVariables false
namespace Kx
theorem Ch.good.lens {c : Ch} (g : c.good) : (1 ≤ c.base ∧ c.base ≤ 1048576) ∧ (0 ≤ c.exp ∧ c.exp ≤ 2000000) ∧ c.wait.length ≤ 16 ∧ c.there.length ≤ 16 ∧ c.held.length ≤ 16 ∧ c.back.length ≤ 16 := by
  have h1 := g.b1; have h2 := g.b2; have h3 := g.e1; have h4 := g.e2
  have hr : c.reach = c.base + min (c.wait.length : Int) 4 := rfl
  exact ⟨⟨h1, by omega⟩, ⟨by omega, by omega⟩, g.w, g.t, g.h, g.k⟩
theorem ok_mk {c : Ch} (h1 : -10000 ≤ c.base ∧ c.base ≤ 2000000) (h2 : c.wait.length ≤ 100 ∧ c.there.length ≤ 100 ∧ c.held.length ≤ 100 ∧ c.back.length ≤ 100) : c.ok := ⟨by omega, by omega, by omega, by omega, by omega, by omega⟩
theorem channelL_ct (d : Dk) : Ct Try.prog 12 [d.b] fun r outs => ∃ (x : Ch) (d' : Dk), (x.good ∧ (1 ≤ x.base ∧ x.base ≤ 1048576) ∧ (0 ≤ x.exp ∧ x.exp ≤ 2000000) ∧ x.wait.length ≤ 16 ∧ x.there.length ≤ 16 ∧ x.held.length ≤ 16 ∧ x.back.length ≤ 16) ∧ r = x.q ∧ outs = [Dk.b d'] :=
  (channelQ_ct d).mono fun _ _ ⟨x, d', g, h⟩ => ⟨x, d', ⟨g, g.lens⟩, h⟩
theorem next1_ct (d : Dk) (n : Int) (h : 1 ≤ n) : Ct Try.prog 27 [d.b, i64 n] fun r outs => ∃ x d', (0 ≤ x ∧ x < n) ∧ r = i64 x ∧ outs = [Dk.b d'] :=
  (next_ct d n).mono fun _ _ ⟨x, d', h1, h2⟩ => ⟨x, d', ⟨h1.1, h1.2.2 h⟩, h2⟩
theorem app2 (l : List Pk) (x : Pk) : l.length + 1 = (l ++ [x]).length ∧ ∀ i, i < (l ++ [x]).length → iteL (i < l.length) (pkF (l.getD i (0, []))) (selC [pkF x] (i - l.length)) = pkF ((l ++ [x]).getD i (0, [])) := app1 pkF (0, []) pkF_same l x
set_option maxHeartbeats 4000000 in
theorem bent_ct (d : Dk) : Ct Try.prog 23 [d.b] fun r outs => ∃ (x : Ch) (d' : Dk), x.ok ∧ r = x.d ∧ outs = [Dk.b d'] := by
  refine .some2 (.of_W (fn := Try.f23) hΓ hm Try.func23 ord23 [] (by kernel_rfl) (Step.out ?_))
  repeat' first
    | (refine Step.mk ?_; conv => whnf)
    | (refine Vc.om ?_ ?_; first | omega | with_reducible rfl | with_reducible exact same_rfl)
    | (refine Vc.om ?_ ?_; (simp only [bytes_2, bytes_3, bytes_4, bytes_5, bytes_9, bytes_12, bytes_21, bytes_22, bytes_25, bytes_27, bytes_28, bytes_29, bytes_30, bytes_33, bytes_42, bytes_43, bytes_47, bytes_51, bytes_52, bytes_53, bytes_57, bytes_58, bytes_59, bytes_73, bytes_91, bytes_104, bytes_108, true_and, and_true] <;> omega))
    | with_reducible trivial
    | (refine Wr.i64 ?_ ?_; omega)
    | (refine Br.d (fun h => ?_) (fun h => ?_))
    | (refine Two.mk (Step.out ?_) (Step.out ?_))
    | (refine CallOK.io1 (g := 12) (Step.out ?_))
    | (refine CallOK.io1 (g := 27) (Step.out ?_))
    | (refine CallOK.io1 (g := 39) (Step.out ?_))
    | (refine CallOK.io1 (g := 50) (Step.out ?_))
    | (refine Met.by (g := 12) (channelL_ct _) ?_; rintro q outs ⟨c, d, ⟨hg, hlb, hle, hlw, hlt, hlh, hlk⟩, rfl, rfl⟩)
    | (refine Met.by (g := 27) (next1_ct _ _ (by omega)) ?_; rintro q outs ⟨x, d, hx, rfl, rfl⟩)
    | (refine Met.by (g := 39) (payload_ct _) ?_; rintro q outs ⟨x, d, hx, rfl, rfl⟩)
    | (refine Met.by (g := 50) (range_ct _ _ _ (by omega) (by omega)) ?_; rintro q outs ⟨x, d, hx, rfl, rfl⟩)
  all_goals first
    | (have hk : _ = (0 : Int) := h; refine Lf2.by (⟨x, c.exp, c.wait, c.there, c.held, c.back⟩ : Ch) d (ok_mk (by dsimp only; omega) (by dsimp only; omega)) ?_)
    | (have hk : _ = (1 : Int) := h; refine Lf2.by (⟨c.base, c.exp + x, c.wait, c.there, c.held, c.back⟩ : Ch) d (ok_mk (by dsimp only; omega) (by dsimp only; omega)) ?_)
    | (have hk : _ = (2 : Int) := h; refine Lf2.by (⟨c.base, c.exp, c.wait, c.there, c.held, c.back ++ [x]⟩ : Ch) d (ok_mk (by dsimp only; omega) (by simp only [List.length_append, List.length_singleton]; omega)) ?_)
    | (have hk : _ = (3 : Int) := h; rename_i v _ hv; refine Lf2.by (⟨c.base, c.exp, c.wait, c.there ++ [(v, x)], c.held, c.back⟩ : Ch) d (ok_mk (by dsimp only; omega) (by simp only [List.length_append, List.length_singleton]; omega)) ?_)
    | (have hk : _ = (4 : Int) := h; rename_i v _ hv; refine Lf2.by (⟨c.base, c.exp, c.wait, c.there, c.held ++ [(c.exp + v, x)], c.back⟩ : Ch) d (ok_mk (by dsimp only; omega) (by simp only [List.length_append, List.length_singleton]; omega)) ?_)
    | (have hk : 0 < (_ : Int) := h; refine Lf2.by (⟨c.base, c.exp, c.wait.drop (Int.toNat 1), c.there, c.held, c.back⟩ : Ch) d (ok_mk (by dsimp only; omega) (by simp only [List.length_drop]; omega)) ?_)
    | (have hk : _ = (6 : Int) := h; rename_i v _ hv; refine Lf2.by (⟨1048576 - v, 1048576 - x, c.wait, c.there, c.held, c.back⟩ : Ch) d (ok_mk (by dsimp only; omega) (by dsimp only; omega)) ?_)
    | (refine Lf2.by c d hg.ok ?_)
  all_goals
    repeat' first
      | (refine Step.mk ?_; conv => whnf)
      | with_reducible trivial
      | with_reducible exact same_rfl
      | (refine Two.mk (Step.out ?_) (Step.out ?_))
  all_goals first
    | exact ⟨rfl, fun _ _ => rfl⟩
    | exact app1 inF 0 inF_same _ _
    | exact app2 _ _
    | exact cut_strQ _ _
    | rfl
end Kx
