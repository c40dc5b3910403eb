/-
  The moves, what they return owned.
  No condition beyond those written in each theorem.
-/
import Derived.Test.YtnjjjmknmoenmaaKFb
open Go Sx Go.Proofs
set_option linter.unusedSimpArgs false
set_option linter.unusedVariables false
namespace Kx
theorem cut_strQ (l : List Str) (n : Int) : l.length - n.toNat = (l.drop n.toNat).length ∧ ∀ i, i < (l.drop n.toNat).length → [D.str (l.getD (i + n.toNat) [])] = [D.str ((l.drop n.toNat).getD i [])] := by
  refine ⟨by simp, fun i _ => ?_⟩
  simp only [List.getD_eq_getElem?_getD, List.getElem?_drop, Nat.add_comm]
theorem rbackQ_ct (c : Ch) (hc : c.ok) (i : Int) : Ct Try.prog 33 [c.d, i64 i] fun r outs => r = .tup [(c.backM i).1.q, i64 (c.backM i).2] ∧ outs = [] := by
  have hc' := hc
  obtain ⟨h1, h2, h3, h4, h5, h6⟩ := hc
  have hl := rloseB_ct c hc' i
  unfold Ch.backM
  split
  · rename_i he
    rw [Ch.loseB, if_pos he] at hl
    refine .det (.of_W (fn := Try.f33) hΓ hm Try.func33 [] [] (by kernel_rfl) (Step.out ?_))
    repeat' first
      | (refine Step.mk ?_; conv => whnf)
      | with_reducible trivial
      | (refine Br.dF ?_ ?_; omega)
      | (refine Met.by hl ?_; rintro q outs ⟨rfl, rfl⟩)
      | (refine Br.bnot ?_)
      | (refine Two.mk (Step.out ?_) (Step.out ?_))
      | (refine CallOK.of_ct (Step.out ?_))
    all_goals rfl
  · rename_i he
    rw [Ch.loseB, if_neg he] at hl
    have he := Classical.not_not.1 he
    obtain ⟨e0, e1, e2⟩ := Ch.err0 he
    have g := Ch.good_of e0
    obtain ⟨k, rfl⟩ := Int.eq_ofNat_of_zero_le e1
    have gk := g.kr (c.back.getD (k : Int).toNat 0) (getD_mem (by omega))
    have hr : c.reach = c.base + min (c.wait.length : Int) 4 := rfl
    have ge := g.e2
    rw [Ch.ack]
    split
    · rename_i hb
      have hb : c.base < c.back.getD (k : Int).toNat 0 := hb
      refine .det (.of_W (fn := Try.f33) hΓ hm Try.func33 [] [5] (by kernel_rfl) (Step.out ?_))
      repeat' first
        | (refine Step.mk ?_; conv => whnf)
        | (refine Vc.om ?_ ?_; first | omega | with_reducible rfl | with_reducible exact same_rfl)
        | (refine Br.dT ?_ ?_; omega)
        | (refine Met.by hl ?_; rintro q outs ⟨rfl, rfl⟩)
        | (refine Br.bnot ?_)
        | (refine CallOK.of_ct (Step.out ?_))
      refine CodeOK.cutW hΓ hm [] [] (by kernel_rfl) (α := Unit) (fun z => [(4, .loc 0 0), (6, .loc 1 0), (8, i64 (c.back.getD (k : Int).toNat 0)), (27, .bool (decide (c.base < c.back.getD (k : Int).toNat 0)))]) (fun z => [(0, .var [i64 0, i64 0, .nil, .nil, .nil, .nil]), (1, .var [i64 c.base, i64 c.exp, .own 2, .own 3, .own 4, .own 5]), (2, .oar 9 1 c.wait.length fun j => [.str (c.wait.getD j [])]), (3, .arr 43 2 c.there.length fun j => pkF (c.there.getD j (0, []))), (4, .arr 43 2 c.held.length fun j => pkF (c.held.getD j (0, []))), (5, .arr 3 1 (c.back.take (k : Int).toNat ++ c.back.drop ((k : Int).toNat + 1)).length fun j => [i64 ((c.back.take (k : Int).toNat ++ c.back.drop ((k : Int).toNat + 1)).getD j 0)])]) 6 (fun z => True) ?_ ?_
      · repeat' first
          | (refine Step.mk ?_; conv => whnf)
        refine Again.by () trivial ?_
        repeat' first
          | (refine Step.mk ?_; conv => whnf)
          | (refine Vc.om ?_ ?_; first | omega | with_reducible rfl | with_reducible exact same_rfl)
          | with_reducible trivial
      · intro _ _
        repeat' first
          | (refine Step.mk ?_; conv => whnf)
          | (refine Vc.om ?_ ?_; first | omega | with_reducible rfl | with_reducible exact same_rfl)
          | with_reducible trivial
          | with_reducible exact same_rfl
          | (refine Wr.i64 ?_ ?_; omega)
          | (refine Br.dT ?_ ?_; omega)
          | (refine Two.mk (Step.out ?_) (Step.out ?_))
        all_goals exact cut_strQ _ _
    · rename_i hb
      have hb : ¬c.base < c.back.getD (k : Int).toNat 0 := hb
      refine .det (.of_W (fn := Try.f33) hΓ hm Try.func33 [] [] (by kernel_rfl) (Step.out ?_))
      repeat' first
        | (refine Step.mk ?_; conv => whnf)
        | (refine Vc.om ?_ ?_; first | omega | with_reducible rfl | with_reducible exact same_rfl)
        | with_reducible trivial
        | with_reducible exact same_rfl
        | (refine Br.dT ?_ ?_; omega)
        | (refine Br.dF ?_ ?_; omega)
        | (refine Met.by hl ?_; rintro q outs ⟨rfl, rfl⟩)
        | (refine Br.bnot ?_)
        | (refine Two.mk (Step.out ?_) (Step.out ?_))
        | (refine CallOK.of_ct (Step.out ?_))
      all_goals exact ⟨rfl, fun _ _ => rfl⟩
theorem noSh_q (c : Ch) : noSh c.q := ⟨trivial, trivial, fun _ _ => ⟨trivial, trivial⟩, noSh_pks _, fun _ _ => ⟨trivial, trivial, trivial⟩, noSh_ints _, trivial⟩
theorem noSh_q2 (c : Ch) (e : Int) : noSh (.tup [c.q, i64 e]) := ⟨noSh_q c, trivial, trivial⟩
theorem noSh_q3 (c : Ch) (l : List Str) (e : Int) : noSh (.tup [c.q, strsO 9 l, i64 e]) := ⟨noSh_q c, noSh_strs _, trivial, trivial⟩
set_option maxHeartbeats 2000000 in
theorem cmoveQ_ct (d : Dk) (c : Ch) (g : c.good) (p : Str) : Ct Try.prog 18 [d.b, c.q, .str p] fun r outs => ∃ (y : Ch × List Str) (d' : Dk), Step39 c y.1 ∧ r = .tup [y.1.q, strs y.2, .any] ∧ outs = [Dk.b d'] := by
  have ho := g.ok
  refine .some2 (.of_W (fn := Try.f18) hΓ hm Try.func18 [] [] (by kernel_rfl) (Step.out ?_))
  repeat' first
    | (refine Step.mk ?_; conv => whnf)
    | (refine Br.dT ?_ ?_; omega)
    | (exact noSh_cz _ _)
    | (exact noSh_q3 _ _ _)
    | (refine Br.d (fun h => ?_) (fun h => ?_))
    | (refine Br.bnot ?_)
    | (refine CallOK.io1 (g := 27) (Step.out ?_))
    | (refine CallOK.of_ct (Step.out ?_))
    | (refine Met.by (g := 26) (roffer_ct _ (by assumption) _) ?_; rintro q outs ⟨rfl, rfl⟩)
    | (refine Met.by (g := 27) (next_ct _ _) ?_; rintro q outs ⟨x, d, hx, rfl, rfl⟩)
    | (refine Met.by (g := 28) (rsend_ct _ (by assumption) _) ?_; rintro q outs ⟨rfl, rfl⟩)
    | (refine Met.by (g := 30) (rlose_ct _ (by assumption) _) ?_; rintro q outs ⟨rfl, rfl⟩)
    | (refine Met.by (g := 32) (rrepeat_ct _ (by assumption) _) ?_; rintro q outs ⟨rfl, rfl⟩)
    | (refine Met.by (g := 33) (rbackQ_ct _ (by assumption) _) ?_; rintro q outs ⟨rfl, rfl⟩)
    | (refine Met.by (g := 35) (rloseB_ct _ (by assumption) _) ?_; rintro q outs ⟨rfl, rfl⟩)
    | (refine Met.by (g := 36) (rdeliverQ_ct _ (by assumption) _) ?_; rintro q outs ⟨rfl, rfl⟩)
    | (refine Vc.mk ?_ (Step.out ?_))
  all_goals first
    | (refine Lf2.by ((c.offer p).1, []) d (offer_step g (pair0 ‹(c.offer p).2 = 0›)).1 ?_)
    | (refine Lf2.by ((c.send x).1, []) d (send_step g (pair0 ‹(c.send x).2 = 0›)).1 ?_)
    | (refine Lf2.by ((c.lose x).1, []) d (lose_step g (pair0 ‹(c.lose x).2 = 0›)).1 ?_)
    | (refine Lf2.by ((c.repeat x).1, []) d (repeat_step g (pair0 ‹(c.repeat x).2 = 0›)).1 ?_)
    | (refine Lf2.by ((c.loseB x).1, []) d (loseB_step g (pair0 ‹(c.loseB x).2 = 0›)).1 ?_)
    | (refine Lf2.by ((c.backM x).1, []) d (back_step g (pair0 ‹(c.backM x).2 = 0›)).1 ?_)
    | (refine Lf2.by ((c.deliver x).1, (c.deliver x).2.1) d (deliver_step g (trip0 ‹(c.deliver x).2.2 = 0›)).1 ?_)
    | (refine Lf2.by ((c, []) : Ch × List Str) d ?_ ?_; · exact step_refl g)
  all_goals
    repeat' first
      | (refine Step.mk ?_; conv => whnf)
      | with_reducible trivial
      | with_reducible exact same_rfl
      | (refine Two.mk (Step.out ?_) (Step.out ?_))
  all_goals rfl
end Kx
