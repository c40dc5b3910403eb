/-
  channel: New, Idle; the deck's payloads; recordlinkplay: ChannelMove, Channel.
  No condition beyond those written in each theorem.
-/
import Derived.Test.YtnjjjmknmoenmaaKEi
open Go Sx Go.Proofs
set_option linter.unusedSimpArgs false
set_option linter.unusedVariables false
namespace Kx
@[reducible] def Ch.new : Ch := ⟨1, 1, [], [], [], []⟩
theorem new_good : Ch.new.good := by
  refine good_mk (by decide) (by decide) (by decide) (by decide) (by decide) (by decide) (by decide) ?_ ?_ ?_ ?_ .nil ?_ ?_ <;> intro _ h <;> cases h
theorem cnew_ct : Ct Try.prog 17 [] fun r outs => r = Ch.new.d ∧ outs = [] := by
  refine .det (.of_W (fn := Try.f17) hΓ hm Try.func17 [] [] (by kernel_rfl) (Step.out ?_))
  repeat' first
    | (refine Step.mk ?_; conv => whnf)
    | with_reducible trivial
    | (refine Two.mk (Step.out ?_) (Step.out ?_))
theorem rnew_ct : Ct Try.prog 22 [] fun r outs => r = Ch.new.d ∧ outs = [] := by
  refine .det (.of_W (fn := Try.f22) hΓ hm Try.func22 [] [] (by kernel_rfl) (Step.out ?_))
  repeat' first
    | (refine Step.mk ?_; conv => whnf)
    | with_reducible trivial
    | (refine Two.mk (Step.out ?_) (Step.out ?_))
def Ch.idle (c : Ch) : Bool := decide (c.chk = 0) && decide (c.wait.length = 0)
theorem idle_ct (c : Ch) (hc : c.ok) : Ct Try.prog 13 [c.d] fun r outs => r = .bool c.idle ∧ outs = [] := by
  have hc' := hc
  obtain ⟨h1, h2, h3, h4, h5, h6⟩ := hc
  refine .det (.of_W (fn := Try.f13) hΓ hm Try.func13 [] [] (by kernel_rfl) (Step.out ?_))
  repeat' first
    | (refine Step.mk ?_; conv => whnf)
    | with_reducible trivial
    | (refine Br.d (fun h => ?_) (fun h => ?_))
    | (refine Two.mk (Step.out ?_) (Step.out ?_))
    | (refine CallOK.of_ct (Step.out ?_))
    | (refine Met.by (g := 19) (check_ct _ (by assumption)) ?_; rintro q outs ⟨rfl, rfl⟩)
  · rw [Ch.idle, decide_eq_true h, Bool.true_and, decide_eq_decide]; omega
  · rw [Ch.idle, decide_eq_false h]; rfl
theorem ridle_ct (c : Ch) (hc : c.ok) : Ct Try.prog 25 [c.d] fun r outs => r = .bool c.idle ∧ outs = [] := by
  have hc' := hc
  obtain ⟨h1, h2, h3, h4, h5, h6⟩ := hc
  refine .det (.of_W (fn := Try.f25) hΓ hm Try.func25 [] [] (by kernel_rfl) (Step.out ?_))
  repeat' first
    | (refine Step.mk ?_; conv => whnf)
    | with_reducible trivial
    | (refine Br.d (fun h => ?_) (fun h => ?_))
    | (refine Two.mk (Step.out ?_) (Step.out ?_))
    | (refine CallOK.of_ct (Step.out ?_))
    | (refine Met.by (g := 24) (rcheck_ct _ (by assumption)) ?_; rintro q outs ⟨rfl, rfl⟩)
  · rw [Ch.idle, decide_eq_true h, Bool.true_and, decide_eq_decide]; omega
  · rw [Ch.idle, decide_eq_false h]; rfl
theorem pick_ct (d : Dk) (l : List Str) (h1 : 1 ≤ l.length) (h2 : l.length ≤ 1000) : Ct Try.prog 56 [d.b, strs l] fun r outs => ∃ x d', x ∈ l ∧ r = .str x ∧ outs = [Dk.b d'] := by
  refine .some2 (.of_W (fn := Try.f56) hΓ hm Try.func56 [] [] (by kernel_rfl) (Step.out ?_))
  repeat' first
    | (refine Step.mk ?_; conv => whnf)
    | (refine Vc.om ?_ ?_; first | omega | with_reducible rfl | with_reducible exact same_rfl)
    | (refine CallOK.io1 (g := 27) (Step.out ?_))
    | (refine Met.by (g := 27) (next_ct _ _) ?_; rintro q outs ⟨x, d, hx, rfl, rfl⟩)
  refine Lf2.by (l.getD x.toNat []) d (getD_mem (by omega)) ?_
  repeat' first
    | (refine Step.mk ?_; conv => whnf)
    | with_reducible trivial
    | with_reducible exact same_rfl
    | (refine Two.mk (Step.out ?_) (Step.out ?_))
theorem dk_wk (d : Dk) : ioEq [d.b] [d.b] = true ∧ wkD d.b d.b false := ⟨rfl, ⟨⟨rfl, fun _ _ => rfl⟩, rfl, rfl, trivial⟩⟩
theorem picks_ct (d : Dk) (l : List Str) (h1 : 1 ≤ l.length) (h2 : l.length ≤ 1000) : Ct Try.prog 56 [d.b, .tab 1 l.length fun i => selC (l.map fun s => [D.str s]) i] fun r outs => ∃ x d', x ∈ l ∧ r = .str x ∧ outs = [Dk.b d'] :=
  .lit2 l (dk_wk d) (pick_ct d l h1 h2)
theorem payload_ct (d : Dk) : Ct Try.prog 39 [d.b] fun r outs => ∃ x d', True ∧ r = .str x ∧ outs = [Dk.b d'] := by
  refine .some2 (.of_W (fn := Try.f39) hΓ hm Try.func39 [] [] (by kernel_rfl) (Step.out ?_))
  repeat' first
    | (refine Step.mk ?_; conv => whnf)
    | (refine Met.by (picks_ct d [[], [97], [98,99], [97,10,98], [0,255], [112,117,98,108,105,115,104,32,51]] (by decide) (by decide)) ?_; rintro q outs ⟨x, d, hx, rfl, rfl⟩)
    | (refine CallOK.io1F (g := 56) (Step.out ?_))
  refine Lf2.by x d trivial ?_
  repeat' first
    | (refine Step.mk ?_; conv => whnf)
    | with_reducible trivial
    | with_reducible exact same_rfl
    | (refine Two.mk (Step.out ?_) (Step.out ?_))
theorem noSh_cz (c : Ch) (e : Int) : noSh (.tup [c.o, i64 e]) := ⟨⟨trivial, trivial, noSh_strs _, noSh_pks _, noSh_pks _, noSh_ints _, trivial⟩, trivial, trivial⟩
theorem pair0 {α : Type} {y : α × Int} (h : y.2 = 0) : y = (y.1, 0) := by rw [← h]
theorem trip0 {α β : Type} {y : α × β × Int} (h : y.2.2 = 0) : y = (y.1, y.2.1, 0) := by rw [← h]
theorem step_refl {c : Ch} (g : c.good) : Step39 c c := ⟨g, Int.le_refl _, Int.le_refl _, .inl rfl⟩
theorem cmove_ct (d : Dk) (c : Ch) (g : c.good) (p : Str) : Ct Try.prog 18 [d.b, c.d, .str p] fun r outs => ∃ (y : Ch × List Str) (d' : Dk), Step39 c y.1 ∧ r = .tup [y.1.d, strs y.2, .any] ∧ outs = [Dk.b d'] := by
  have ho := g.ok
  refine .some2 (.of_W (fn := Try.f18) hΓ hm Try.func18 [] [] (by kernel_rfl) (Step.out ?_))
  repeat' first
    | (refine Step.mk ?_; conv => whnf)
    | (refine Br.dT ?_ ?_; omega)
    | (refine Br.d (fun h => ?_) (fun h => ?_))
    | (refine Br.bnot ?_)
    | (refine CallOK.ctF (g := 26) (Step.out ?_))
    | (refine CallOK.io1 (g := 27) (Step.out ?_))
    | (refine CallOK.ctF (g := 28) (Step.out ?_))
    | (refine CallOK.ctF (g := 30) (Step.out ?_))
    | (refine CallOK.ctF (g := 32) (Step.out ?_))
    | (refine CallOK.ctF (g := 33) (Step.out ?_))
    | (refine CallOK.ctF (g := 35) (Step.out ?_))
    | (refine CallOK.ctF (g := 36) (Step.out ?_))
    | (refine Met.by (g := 26) (roffer_ct _ (by assumption) _) ?_; rintro q outs ⟨rfl, rfl⟩)
    | (refine Met.by (g := 27) (next_ct _ _) ?_; rintro q outs ⟨x, d, hx, rfl, rfl⟩)
    | (refine Met.by (g := 28) (rsend_ct _ (by assumption) _) ?_; rintro q outs ⟨rfl, rfl⟩)
    | (refine Met.by (g := 30) (rlose_ct _ (by assumption) _) ?_; rintro q outs ⟨rfl, rfl⟩)
    | (refine Met.by (g := 32) (rrepeat_ct _ (by assumption) _) ?_; rintro q outs ⟨rfl, rfl⟩)
    | (refine Met.by (g := 33) (rback_ct _ (by assumption) _) ?_; rintro q outs ⟨rfl, rfl⟩)
    | (refine Met.by (g := 35) (rloseB_ct _ (by assumption) _) ?_; rintro q outs ⟨rfl, rfl⟩)
    | (refine Met.by (g := 36) (rdeliver_ct _ (by assumption) _) ?_; rintro q outs ⟨rfl, rfl⟩)
  all_goals first
    | (refine Lf2.by ((c.offer p).1, []) d (offer_step g (pair0 ‹(c.offer p).2 = 0›)).1 ?_)
    | (refine Lf2.by ((c.send x).1, []) d (send_step g (pair0 ‹(c.send x).2 = 0›)).1 ?_)
    | (refine Lf2.by ((c.lose x).1, []) d (lose_step g (pair0 ‹(c.lose x).2 = 0›)).1 ?_)
    | (refine Lf2.by ((c.repeat x).1, []) d (repeat_step g (pair0 ‹(c.repeat x).2 = 0›)).1 ?_)
    | (refine Lf2.by ((c.loseB x).1, []) d (loseB_step g (pair0 ‹(c.loseB x).2 = 0›)).1 ?_)
    | (refine Lf2.by ((c.backM x).1, []) d (back_step g (pair0 ‹(c.backM x).2 = 0›)).1 ?_)
    | (refine Lf2.by ((c.deliver x).1, (c.deliver x).2.1) d (deliver_step g (trip0 ‹(c.deliver x).2.2 = 0›)).1 ?_)
    | (refine Lf2.by ((c, []) : Ch × List Str) d ?_ ?_; · exact step_refl g)
  all_goals
    repeat' first
      | (refine Step.mk ?_; conv => whnf)
      | with_reducible trivial
      | with_reducible exact same_rfl
      | (refine Two.mk (Step.out ?_) (Step.out ?_))
  all_goals rfl
theorem channel_ct (d : Dk) : Ct Try.prog 12 [d.b] fun r outs => ∃ (x : Ch) (d' : Dk), x.good ∧ r = x.d ∧ outs = [Dk.b d'] := by
  refine .some2 (.of_W (fn := Try.f12) hΓ hm Try.func12 ord12 [] (by kernel_rfl) (Step.out ?_))
  repeat' first
    | (refine Step.mk ?_; conv => whnf)
    | (refine CallOK.io1 (g := 27) (Step.out ?_))
    | (refine CallOK.of_ct (Step.out ?_))
    | (refine Met.by (g := 22) (rnew_ct) ?_; rintro q outs ⟨rfl, rfl⟩)
    | (refine Met.by (g := 27) (next_ct _ _) ?_; rintro q outs ⟨x, d, hx, rfl, rfl⟩)
  refine CodeOK.loopW hΓ hm ord12 [] (by kernel_rfl) (α := Ch × Dk × Int) (fun z => [(0, .loc 0 0), (2, .loc 1 0), (3, .loc 2 0), (4, i64 z.2.2)]) (fun z => [(0, .var z.2.1.ls), (1, .var [i64 0, i64 0, .nil, .nil, .nil, .nil]), (2, .var z.1.l)]) 3 (fun z => z.1.good ∧ 0 ≤ z.2.2 ∧ z.2.2 ≤ 40) (fun z => z.2.2.toNat) ?_ ?_
  · refine Again.by (Ch.new, d, x) ⟨new_good, by dsimp only; omega, by dsimp only; omega⟩ ?_
    dsimp only
    repeat' first
      | (refine Step.mk ?_; conv => whnf)
      | (refine Vc.om ?_ ?_; first | omega | with_reducible rfl | with_reducible exact same_rfl)
      | with_reducible trivial
  · intro ⟨c, d, n⟩ ⟨hv, hn0, hn1⟩
    dsimp only at hv hn0 hn1 ⊢
    repeat' first
      | (refine Step.mk ?_; conv => whnf)
      | (refine Wr.i64 ?_ ?_; omega)
      | (refine Br.d (fun h => ?_) (fun h => ?_))
      | (refine Two.mk (Step.out ?_) (Step.out ?_))
      | (refine CallOK.io1F (g := 18) (Step.out ?_))
      | (refine CallOK.io1 (g := 39) (Step.out ?_))
      | (refine Met.by (g := 18) (cmove_ct _ _ (by assumption) _) ?_; rintro q outs ⟨y, d, hy, rfl, rfl⟩)
      | (refine Met.by (g := 39) (payload_ct _) ?_; rintro q outs ⟨x, d, hx, rfl, rfl⟩)
    all_goals first
      | (refine Again.by (y.1, d, n - 1) ⟨⟨hy.g, by dsimp only; omega, by dsimp only; omega⟩, by dsimp only; omega⟩ ?_)
      | (refine Lf2.by c d hv ?_)
    all_goals try dsimp only
    all_goals
      repeat' first
        | (refine Step.mk ?_; conv => whnf)
        | (refine Vc.om ?_ ?_; first | omega | with_reducible rfl | with_reducible exact same_rfl)
        | with_reducible trivial
        | with_reducible exact same_rfl
        | (refine Two.mk (Step.out ?_) (Step.out ?_))
theorem mod_bd (a n : Int) (h : 1 ≤ n) : 0 ≤ a.tmod n + n ∧ a.tmod n + n ≤ 2 * n := by
  rw [Int.tmod_eq_emod]
  have h1 := Int.emod_nonneg a (show n ≠ 0 by omega)
  have h2 := Int.emod_lt_of_pos a (show 0 < n by omega)
  split <;> omega
theorem mod_ct (a n : Int) (h : 1 ≤ n ∧ n ≤ 1000) : Ct Try.prog 38 [i64 a, i64 n] fun r outs => ∃ x, (0 ≤ x ∧ x < n) ∧ r = i64 x ∧ outs = [] := by
  have hb := mod_bd a n h.1
  have hb2 := tmod_bd (a.tmod n + n) n hb.1 (by omega)
  refine .some (.of_W (fn := Try.f38) hΓ hm Try.func38 [] [] (by kernel_rfl) (Step.out ?_))
  repeat' first
    | (refine Step.mk ?_; conv => whnf)
    | (refine Vc.om ?_ ?_; first | omega | with_reducible rfl | with_reducible exact same_rfl)
    | (refine Wr.i64 ?_ ?_; omega)
    | (refine Br.dF ?_ ?_; omega)
  refine Lf.by ((a.tmod n + n).tmod n) ⟨hb2.1, hb2.2.2 h.1⟩ ?_
  repeat' first
    | (refine Step.mk ?_; conv => whnf)
    | with_reducible trivial
    | (refine Two.mk (Step.out ?_) (Step.out ?_))
end Kx
