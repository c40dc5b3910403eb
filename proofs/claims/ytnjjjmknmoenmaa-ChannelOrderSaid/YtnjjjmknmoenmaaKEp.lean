/-
  The law ChannelEnds: the walk.
  No condition beyond those written in each theorem.
-/
import Derived.Test.YtnjjjmknmoenmaaKEo
open Go Sx Go.Proofs
set_option linter.unusedSimpArgs false
set_option linter.unusedVariables false
namespace Kx
theorem idleg_ct (c : Ch) (g : c.good) : Ct Try.prog 13 [c.d] fun r outs => r = .bool (decide (c.wait.length = 0)) ∧ outs = [] := by
  have := idle_ct c g.ok
  rw [idle_good g] at this
  exact this
theorem ends_ct (l : List Int) : Ct Try.prog 3 [ints l] fun r outs => r = .bool true ∧ outs = [] := by
  refine .det (.of_W (fn := Try.f3) hΓ hm Try.func3 [] [] (by kernel_rfl) (Step.out ?_))
  repeat' first
    | (refine Step.mk ?_; conv => whnf)
    | (refine Vc.om ?_ ?_; first | omega | with_reducible rfl | with_reducible exact same_rfl | (simp only [bytes_2, bytes_3, bytes_4, bytes_5, bytes_9, bytes_12, bytes_21, bytes_22, bytes_25, bytes_27, bytes_28, bytes_29, bytes_30, bytes_33, bytes_42, bytes_43, bytes_47, bytes_51, bytes_52, bytes_53, bytes_57, bytes_58, bytes_59, bytes_73, bytes_91, bytes_104, bytes_108, bytes_111, true_and, and_true] <;> omega))
    | (refine NilB.mk fun b hb => Step.out ?_)
    | with_reducible trivial
    | exact noSh_bool _
    | exact noSh_lit _
    | exact noSh_int _ _
    | exact noSh_str _
    | with_reducible rfl
    | with_reducible exact same_rfl
    | (refine Wr.i64 ?_ ?_; omega)
    | (refine Wr.u8 ?_ ?_; omega)
    | (refine Wr.i32 ?_ ?_; omega)
    | (with_reducible refine Br.tt ?_)
    | (with_reducible refine Br.ff ?_)
    | (refine Br.dT ?_ ?_; omega)
    | (refine Br.dF ?_ ?_; omega)
    | (refine Vc.om ?_ ?_; focus (have := hg.base; have := hg.b1; have := hg.e1; have := hg.e2; have := hg.reach; have := hg.w; omega; done))
    | (refine Wr.i64 ?_ ?_; focus (have := hg.base; have := hg.b1; have := hg.e1; have := hg.e2; have := hg.reach; have := hg.w; omega; done))
    | (refine Wr.u8 ?_ ?_; focus (have := hg.base; have := hg.b1; have := hg.e1; have := hg.e2; have := hg.reach; have := hg.w; omega; done))
    | (refine Br.dT ?_ ?_; focus (have := hg.base; have := hg.b1; have := hg.e1; have := hg.e2; have := hg.reach; have := hg.w; omega; done))
    | (refine Br.dF ?_ ?_; focus (have := hg.base; have := hg.b1; have := hg.e1; have := hg.e2; have := hg.reach; have := hg.w; omega; done))
    | (refine Br.d (fun h => ?_) (fun h => ?_))
    | (refine Br.swap ?_)
    | (refine Br.bnot ?_)
    | (refine Br.mk (fun h => Step.out ?_) (fun h => Step.out ?_))
    | (refine Two.mk (Step.out ?_) (Step.out ?_))
    | (refine Cp.mk fun q hq => Step.out ?_)
    | (refine Ovl.mk (by assumption) (Step.out ?_))
    | (refine CallOK.io1 (g := 12) (Step.out ?_))
    | (refine CallOK.ctF (g := 13) (Step.out ?_))
    | (refine CallOK.ctF (g := 14) (Step.out ?_))
    | (refine CallOK.ctF (g := 15) (Step.out ?_))
    | (refine CallOK.ctF (g := 16) (Step.out ?_))
    | (refine CallOK.of_ct (Step.out ?_))
    | (refine CallQ.of_ct (Step.out ?_))
    | (refine Met.by (g := 9) (awake_ct) ?_; rintro q outs ⟨rfl, rfl⟩)
    | (refine Met.by (g := 10) (few_ct _) ?_; rintro q outs ⟨rfl, rfl⟩)
    | (refine Met.by (g := 11) (new_ct _ (by assumption)) ?_; rintro q outs ⟨d, hd, rfl, rfl⟩)
    | (refine Met.by (g := 12) (channel_ct _) ?_; rintro q outs ⟨c, d, hg, rfl, rfl⟩)
    | (refine Met.by (g := 13) (idle_ct _ (by assumption)) ?_; rintro q outs ⟨rfl, rfl⟩)
    | (refine Met.by (g := 14) (deliver_ct _ (by assumption) _) ?_; rintro q outs ⟨rfl, rfl⟩)
    | (refine Met.by (g := 15) (back_ct _ (by assumption) _) ?_; rintro q outs ⟨rfl, rfl⟩)
    | (refine Met.by (g := 16) (send_ct _ (by assumption) _) ?_; rintro q outs ⟨rfl, rfl⟩)
    | (refine Vc.mk ?_ (Step.out ?_))
  have q1 := hg.base; have q2 := hg.b1; have q3 := hg.e1; have q4 := hg.e2; have q5 := hg.reach; have q6 := hg.w; have q7 := hg.b2
  generalize hN : c.base + (c.wait.length : Int) = N
  generalize hE : c.exp = e0
  refine CodeOK.loopW hΓ hm [] [] (by kernel_rfl) (α := (Ch × Int) × Nat) (fun z => [(4, .loc 0 0), (5, i64 (N - e0)), (6, i64 z.1.2), (7, i64 z.2)]) (fun z => [(0, .var z.1.1.l)]) 1 (fun z => z.2 ≤ 100 ∧ Hd N e0 z.2 z.1) (fun z => 100 - z.2) ?_ ?_
  · refine Again.by ((c, 0), 0) ⟨by dsimp only; omega, ⟨hg, by dsimp only; omega, by dsimp only; omega⟩, .inl rfl⟩ ?_
    repeat' first
      | (refine Step.mk ?_; conv => whnf)
      | (refine Vc.om ?_ ?_; first | omega | with_reducible rfl | with_reducible exact same_rfl | (simp only [bytes_2, bytes_3, bytes_4, bytes_5, bytes_9, bytes_12, bytes_21, bytes_22, bytes_25, bytes_27, bytes_28, bytes_29, bytes_30, bytes_33, bytes_42, bytes_43, bytes_47, bytes_51, bytes_52, bytes_53, bytes_57, bytes_58, bytes_59, bytes_73, bytes_91, bytes_104, bytes_108, bytes_111, true_and, and_true] <;> omega))
      | (refine NilB.mk fun b hb => Step.out ?_)
      | with_reducible trivial
      | exact noSh_bool _
      | exact noSh_lit _
      | exact noSh_int _ _
      | exact noSh_str _
      | with_reducible rfl
      | with_reducible exact same_rfl
      | (refine Wr.i64 ?_ ?_; omega)
      | (refine Wr.u8 ?_ ?_; omega)
      | (refine Wr.i32 ?_ ?_; omega)
      | (with_reducible refine Br.tt ?_)
      | (with_reducible refine Br.ff ?_)
      | (refine Br.dT ?_ ?_; omega)
      | (refine Br.dF ?_ ?_; omega)
      | (refine Br.d (fun h => ?_) (fun h => ?_))
      | (refine Br.swap ?_)
      | (refine Br.bnot ?_)
      | (refine Br.mk (fun h => Step.out ?_) (fun h => Step.out ?_))
      | (refine Two.mk (Step.out ?_) (Step.out ?_))
      | (refine Cp.mk fun q hq => Step.out ?_)
      | (refine Ovl.mk (by assumption) (Step.out ?_))
      | (refine CallOK.io1 (g := 12) (Step.out ?_))
      | (refine CallOK.ctF (g := 13) (Step.out ?_))
      | (refine CallOK.ctF (g := 14) (Step.out ?_))
      | (refine CallOK.ctF (g := 15) (Step.out ?_))
      | (refine CallOK.ctF (g := 16) (Step.out ?_))
      | (refine CallOK.of_ct (Step.out ?_))
      | (refine CallQ.of_ct (Step.out ?_))
      | (refine Met.by (g := 9) (awake_ct) ?_; rintro q outs ⟨rfl, rfl⟩)
      | (refine Met.by (g := 10) (few_ct _) ?_; rintro q outs ⟨rfl, rfl⟩)
      | (refine Met.by (g := 11) (new_ct _ (by assumption)) ?_; rintro q outs ⟨d, hd, rfl, rfl⟩)
      | (refine Met.by (g := 12) (channel_ct _) ?_; rintro q outs ⟨c, d, hg, rfl, rfl⟩)
      | (refine Met.by (g := 13) (idle_ct _ (by assumption)) ?_; rintro q outs ⟨rfl, rfl⟩)
      | (refine Met.by (g := 14) (deliver_ct _ (by assumption) _) ?_; rintro q outs ⟨rfl, rfl⟩)
      | (refine Met.by (g := 15) (back_ct _ (by assumption) _) ?_; rintro q outs ⟨rfl, rfl⟩)
      | (refine Met.by (g := 16) (send_ct _ (by assumption) _) ?_; rintro q outs ⟨rfl, rfl⟩)
      | (refine Vc.mk ?_ (Step.out ?_))
    all_goals first
      | omega
      | rfl
      | exact ⟨rfl, fun _ _ => rfl⟩
  · rintro ⟨⟨c, got⟩, k⟩ ⟨hk, hd⟩
    have g := hd.1.g
    have hgot := hd.1.a
    have hnn := hd.1.n
    dsimp only at hk g hgot hnn hd ⊢
    have r1 := g.e1; have r2 := g.e2; have r3 := g.reach; have r4 := g.w; have r5 := g.b2; have r6 := g.b1; have r7 := g.t; have r8 := g.k
    repeat' first
      | (refine Step.mk ?_; conv => whnf)
      | (refine Vc.om ?_ ?_; first | omega | with_reducible rfl | with_reducible exact same_rfl | (simp only [bytes_2, bytes_3, bytes_4, bytes_5, bytes_9, bytes_12, bytes_21, bytes_22, bytes_25, bytes_27, bytes_28, bytes_29, bytes_30, bytes_33, bytes_42, bytes_43, bytes_47, bytes_51, bytes_52, bytes_53, bytes_57, bytes_58, bytes_59, bytes_73, bytes_91, bytes_104, bytes_108, bytes_111, true_and, and_true] <;> omega))
      | (refine NilB.mk fun b hb => Step.out ?_)
      | with_reducible trivial
      | exact noSh_bool _
      | exact noSh_lit _
      | exact noSh_int _ _
      | exact noSh_str _
      | with_reducible rfl
      | with_reducible exact same_rfl
      | (refine Wr.i64 ?_ ?_; omega)
      | (refine Wr.u8 ?_ ?_; omega)
      | (refine Wr.i32 ?_ ?_; omega)
      | (with_reducible refine Br.tt ?_)
      | (with_reducible refine Br.ff ?_)
      | (refine Br.dT ?_ ?_; omega)
      | (refine Br.dF ?_ ?_; omega)
      | (refine Met.by (idleg_ct _ g) ?_; rintro q outs ⟨rfl, rfl⟩)
      | (refine Br.d (fun h => ?_) (fun h => ?_))
      | (refine Br.swap ?_)
      | (refine Br.bnot ?_)
      | (refine Br.mk (fun h => Step.out ?_) (fun h => Step.out ?_))
      | (refine Two.mk (Step.out ?_) (Step.out ?_))
      | (refine Cp.mk fun q hq => Step.out ?_)
      | (refine Ovl.mk (by assumption) (Step.out ?_))
      | (refine CallOK.io1 (g := 12) (Step.out ?_))
      | (refine CallOK.ctF (g := 13) (Step.out ?_))
      | (refine CallOK.ctF (g := 14) (Step.out ?_))
      | (refine CallOK.ctF (g := 15) (Step.out ?_))
      | (refine CallOK.ctF (g := 16) (Step.out ?_))
      | (refine CallOK.of_ct (Step.out ?_))
      | (refine CallQ.of_ct (Step.out ?_))
      | (refine Met.by (g := 9) (awake_ct) ?_; rintro q outs ⟨rfl, rfl⟩)
      | (refine Met.by (g := 10) (few_ct _) ?_; rintro q outs ⟨rfl, rfl⟩)
      | (refine Met.by (g := 11) (new_ct _ (by assumption)) ?_; rintro q outs ⟨d, hd, rfl, rfl⟩)
      | (refine Met.by (g := 12) (channel_ct _) ?_; rintro q outs ⟨c, d, hg, rfl, rfl⟩)
      | (refine Met.by (g := 13) (idle_ct _ (by assumption)) ?_; rintro q outs ⟨rfl, rfl⟩)
      | (refine Met.by (g := 14) (deliver_ct _ (by assumption) _) ?_; rintro q outs ⟨rfl, rfl⟩)
      | (refine Met.by (g := 15) (back_ct _ (by assumption) _) ?_; rintro q outs ⟨rfl, rfl⟩)
      | (refine Met.by (g := 16) (send_ct _ (by assumption) _) ?_; rintro q outs ⟨rfl, rfl⟩)
      | (refine Vc.mk ?_ (Step.out ?_))
    · exact decide_eq_true (en_done hd ‹_›)
    · refine CodeOK.loopW hΓ hm [] [] (by kernel_rfl) (α := Ch × Int) (fun z => [(4, .loc 0 0), (5, i64 (N - e0)), (6, i64 z.2), (7, i64 k)]) (fun z => [(0, .var z.1.l)]) 1 (fun z => H1 N e0 k z) (fun z => z.1.there.length) ?_ ?_
      · refine Again.by (c, got) (hd_h1 hd (by dsimp only; omega)) ?_
        dsimp only
        repeat' first
          | (refine Step.mk ?_; conv => whnf)
          | (refine Vc.om ?_ ?_; first | omega | with_reducible rfl | with_reducible exact same_rfl | (simp only [bytes_2, bytes_3, bytes_4, bytes_5, bytes_9, bytes_12, bytes_21, bytes_22, bytes_25, bytes_27, bytes_28, bytes_29, bytes_30, bytes_33, bytes_42, bytes_43, bytes_47, bytes_51, bytes_52, bytes_53, bytes_57, bytes_58, bytes_59, bytes_73, bytes_91, bytes_104, bytes_108, bytes_111, true_and, and_true] <;> omega))
          | (refine NilB.mk fun b hb => Step.out ?_)
          | with_reducible trivial
          | exact noSh_bool _
          | exact noSh_lit _
          | exact noSh_int _ _
          | exact noSh_str _
          | with_reducible rfl
          | with_reducible exact same_rfl
          | (refine Wr.i64 ?_ ?_; omega)
          | (refine Wr.u8 ?_ ?_; omega)
          | (refine Wr.i32 ?_ ?_; omega)
          | (with_reducible refine Br.tt ?_)
          | (with_reducible refine Br.ff ?_)
          | (refine Br.dT ?_ ?_; omega)
          | (refine Br.dF ?_ ?_; omega)
          | (refine Br.d (fun h => ?_) (fun h => ?_))
          | (refine Br.swap ?_)
          | (refine Br.bnot ?_)
          | (refine Br.mk (fun h => Step.out ?_) (fun h => Step.out ?_))
          | (refine Two.mk (Step.out ?_) (Step.out ?_))
          | (refine Cp.mk fun q hq => Step.out ?_)
          | (refine Ovl.mk (by assumption) (Step.out ?_))
          | (refine CallOK.io1 (g := 12) (Step.out ?_))
          | (refine CallOK.ctF (g := 13) (Step.out ?_))
          | (refine CallOK.ctF (g := 14) (Step.out ?_))
          | (refine CallOK.ctF (g := 15) (Step.out ?_))
          | (refine CallOK.ctF (g := 16) (Step.out ?_))
          | (refine CallOK.of_ct (Step.out ?_))
          | (refine CallQ.of_ct (Step.out ?_))
          | (refine Met.by (g := 9) (awake_ct) ?_; rintro q outs ⟨rfl, rfl⟩)
          | (refine Met.by (g := 10) (few_ct _) ?_; rintro q outs ⟨rfl, rfl⟩)
          | (refine Met.by (g := 11) (new_ct _ (by assumption)) ?_; rintro q outs ⟨d, hd, rfl, rfl⟩)
          | (refine Met.by (g := 12) (channel_ct _) ?_; rintro q outs ⟨c, d, hg, rfl, rfl⟩)
          | (refine Met.by (g := 13) (idle_ct _ (by assumption)) ?_; rintro q outs ⟨rfl, rfl⟩)
          | (refine Met.by (g := 14) (deliver_ct _ (by assumption) _) ?_; rintro q outs ⟨rfl, rfl⟩)
          | (refine Met.by (g := 15) (back_ct _ (by assumption) _) ?_; rintro q outs ⟨rfl, rfl⟩)
          | (refine Met.by (g := 16) (send_ct _ (by assumption) _) ?_; rintro q outs ⟨rfl, rfl⟩)
          | (refine Vc.mk ?_ (Step.out ?_))
      · rintro ⟨c, got⟩ hz
        have g := hz.1.g
        have hgot := hz.1.a
        have hnn := hz.1.n
        dsimp only at g hgot hnn hz ⊢
        have r1 := g.e1; have r2 := g.e2; have r3 := g.reach; have r4 := g.w; have r5 := g.b2; have r6 := g.b1; have r7 := g.t; have r8 := g.k
        have ho := g.ok
        have hi := fun (h : (0 : Int) < c.there.length) => deliver_in (i := (c.there.length : Int) - 1) g (by omega) (by omega)
        have hs := fun (h : (0 : Int) < c.there.length) => (deliver_step g (trip0 (hi h))).2.2.2.1
        have hs2 := fun (h : (0 : Int) < c.there.length) => (deliver_step g (trip0 (hi h))).1.g
        repeat' first
          | (refine Step.mk ?_; conv => whnf)
          | (refine Vc.om ?_ ?_; first | omega | with_reducible rfl | with_reducible exact same_rfl | (simp only [bytes_2, bytes_3, bytes_4, bytes_5, bytes_9, bytes_12, bytes_21, bytes_22, bytes_25, bytes_27, bytes_28, bytes_29, bytes_30, bytes_33, bytes_42, bytes_43, bytes_47, bytes_51, bytes_52, bytes_53, bytes_57, bytes_58, bytes_59, bytes_73, bytes_91, bytes_104, bytes_108, bytes_111, true_and, and_true] <;> omega))
          | (refine NilB.mk fun b hb => Step.out ?_)
          | with_reducible trivial
          | exact noSh_bool _
          | exact noSh_lit _
          | exact noSh_int _ _
          | exact noSh_str _
          | with_reducible rfl
          | with_reducible exact same_rfl
          | (refine Wr.i64 ?_ ?_; omega)
          | (refine Wr.u8 ?_ ?_; omega)
          | (refine Wr.i32 ?_ ?_; omega)
          | (with_reducible refine Br.tt ?_)
          | (with_reducible refine Br.ff ?_)
          | (refine Br.dT ?_ ?_; omega)
          | (refine Br.dF ?_ ?_; omega)
          | (refine Vc.om ?_ ?_; focus (have hi := hi ‹_›; omega; done))
          | (refine Wr.i64 ?_ ?_; focus (have hi := hi ‹_›; omega; done))
          | (refine Wr.u8 ?_ ?_; focus (have hi := hi ‹_›; omega; done))
          | (refine Br.dT ?_ ?_; focus (have hi := hi ‹_›; omega; done))
          | (refine Br.dF ?_ ?_; focus (have hi := hi ‹_›; omega; done))
          | (refine Vc.om ?_ ?_; focus (have h2 := hs2 ‹_›; have h3 := hs ‹_›; have := h2.e2; have := h2.reach; have := h2.w; have := h2.base; have := h2.e1; have := h2.b1; omega; done))
          | (refine Wr.i64 ?_ ?_; focus (have h2 := hs2 ‹_›; have h3 := hs ‹_›; have := h2.e2; have := h2.reach; have := h2.w; have := h2.base; have := h2.e1; have := h2.b1; omega; done))
          | (refine Wr.u8 ?_ ?_; focus (have h2 := hs2 ‹_›; have h3 := hs ‹_›; have := h2.e2; have := h2.reach; have := h2.w; have := h2.base; have := h2.e1; have := h2.b1; omega; done))
          | (refine Br.dT ?_ ?_; focus (have h2 := hs2 ‹_›; have h3 := hs ‹_›; have := h2.e2; have := h2.reach; have := h2.w; have := h2.base; have := h2.e1; have := h2.b1; omega; done))
          | (refine Br.dF ?_ ?_; focus (have h2 := hs2 ‹_›; have h3 := hs ‹_›; have := h2.e2; have := h2.reach; have := h2.w; have := h2.base; have := h2.e1; have := h2.b1; omega; done))
          | (refine Br.d (fun h => ?_) (fun h => ?_))
          | (refine Br.swap ?_)
          | (refine Br.bnot ?_)
          | (refine Br.mk (fun h => Step.out ?_) (fun h => Step.out ?_))
          | (refine Two.mk (Step.out ?_) (Step.out ?_))
          | (refine Cp.mk fun q hq => Step.out ?_)
          | (refine Ovl.mk (by assumption) (Step.out ?_))
          | (refine CallOK.io1 (g := 12) (Step.out ?_))
          | (refine CallOK.ctF (g := 13) (Step.out ?_))
          | (refine CallOK.ctF (g := 14) (Step.out ?_))
          | (refine CallOK.ctF (g := 15) (Step.out ?_))
          | (refine CallOK.ctF (g := 16) (Step.out ?_))
          | (refine CallOK.of_ct (Step.out ?_))
          | (refine CallQ.of_ct (Step.out ?_))
          | (refine Met.by (g := 9) (awake_ct) ?_; rintro q outs ⟨rfl, rfl⟩)
          | (refine Met.by (g := 10) (few_ct _) ?_; rintro q outs ⟨rfl, rfl⟩)
          | (refine Met.by (g := 11) (new_ct _ (by assumption)) ?_; rintro q outs ⟨d, hd, rfl, rfl⟩)
          | (refine Met.by (g := 12) (channel_ct _) ?_; rintro q outs ⟨c, d, hg, rfl, rfl⟩)
          | (refine Met.by (g := 13) (idle_ct _ (by assumption)) ?_; rintro q outs ⟨rfl, rfl⟩)
          | (refine Met.by (g := 14) (deliver_ct _ (by assumption) _) ?_; rintro q outs ⟨rfl, rfl⟩)
          | (refine Met.by (g := 15) (back_ct _ (by assumption) _) ?_; rintro q outs ⟨rfl, rfl⟩)
          | (refine Met.by (g := 16) (send_ct _ (by assumption) _) ?_; rintro q outs ⟨rfl, rfl⟩)
          | (refine Vc.mk ?_ (Step.out ?_))
        · refine Again.by ((c.deliver ((c.there.length : Int) - 1)).1, got + ((c.deliver ((c.there.length : Int) - 1)).2.1.length : Int)) (en_deliver hz (by dsimp only; omega)) ?_
          dsimp only
          repeat' first
            | (refine Step.mk ?_; conv => whnf)
            | (refine Vc.om ?_ ?_; first | omega | with_reducible rfl | with_reducible exact same_rfl | (simp only [bytes_2, bytes_3, bytes_4, bytes_5, bytes_9, bytes_12, bytes_21, bytes_22, bytes_25, bytes_27, bytes_28, bytes_29, bytes_30, bytes_33, bytes_42, bytes_43, bytes_47, bytes_51, bytes_52, bytes_53, bytes_57, bytes_58, bytes_59, bytes_73, bytes_91, bytes_104, bytes_108, bytes_111, true_and, and_true] <;> omega))
            | (refine NilB.mk fun b hb => Step.out ?_)
            | with_reducible trivial
            | exact noSh_bool _
            | exact noSh_lit _
            | exact noSh_int _ _
            | exact noSh_str _
            | with_reducible rfl
            | with_reducible exact same_rfl
            | (refine Wr.i64 ?_ ?_; omega)
            | (refine Wr.u8 ?_ ?_; omega)
            | (refine Wr.i32 ?_ ?_; omega)
            | (with_reducible refine Br.tt ?_)
            | (with_reducible refine Br.ff ?_)
            | (refine Br.dT ?_ ?_; omega)
            | (refine Br.dF ?_ ?_; omega)
            | (refine Br.d (fun h => ?_) (fun h => ?_))
            | (refine Br.swap ?_)
            | (refine Br.bnot ?_)
            | (refine Br.mk (fun h => Step.out ?_) (fun h => Step.out ?_))
            | (refine Two.mk (Step.out ?_) (Step.out ?_))
            | (refine Cp.mk fun q hq => Step.out ?_)
            | (refine Ovl.mk (by assumption) (Step.out ?_))
            | (refine CallOK.io1 (g := 12) (Step.out ?_))
            | (refine CallOK.ctF (g := 13) (Step.out ?_))
            | (refine CallOK.ctF (g := 14) (Step.out ?_))
            | (refine CallOK.ctF (g := 15) (Step.out ?_))
            | (refine CallOK.ctF (g := 16) (Step.out ?_))
            | (refine CallOK.of_ct (Step.out ?_))
            | (refine CallQ.of_ct (Step.out ?_))
            | (refine Met.by (g := 9) (awake_ct) ?_; rintro q outs ⟨rfl, rfl⟩)
            | (refine Met.by (g := 10) (few_ct _) ?_; rintro q outs ⟨rfl, rfl⟩)
            | (refine Met.by (g := 11) (new_ct _ (by assumption)) ?_; rintro q outs ⟨d, hd, rfl, rfl⟩)
            | (refine Met.by (g := 12) (channel_ct _) ?_; rintro q outs ⟨c, d, hg, rfl, rfl⟩)
            | (refine Met.by (g := 13) (idle_ct _ (by assumption)) ?_; rintro q outs ⟨rfl, rfl⟩)
            | (refine Met.by (g := 14) (deliver_ct _ (by assumption) _) ?_; rintro q outs ⟨rfl, rfl⟩)
            | (refine Met.by (g := 15) (back_ct _ (by assumption) _) ?_; rintro q outs ⟨rfl, rfl⟩)
            | (refine Met.by (g := 16) (send_ct _ (by assumption) _) ?_; rintro q outs ⟨rfl, rfl⟩)
            | (refine Vc.mk ?_ (Step.out ?_))
        · have hz := h1_h2 hz (by dsimp only; omega)
          refine CodeOK.loopW hΓ hm [] [] (by kernel_rfl) (α := Ch × Int) (fun z => [(4, .loc 0 0), (5, i64 (N - e0)), (6, i64 z.2), (7, i64 k)]) (fun z => [(0, .var z.1.l)]) 1 (fun z => H2 N e0 k z) (fun z => z.1.back.length) ?_ ?_
          · refine Again.by (c, got) hz ?_
            dsimp only
            repeat' first
              | (refine Step.mk ?_; conv => whnf)
              | (refine Vc.om ?_ ?_; first | omega | with_reducible rfl | with_reducible exact same_rfl | (simp only [bytes_2, bytes_3, bytes_4, bytes_5, bytes_9, bytes_12, bytes_21, bytes_22, bytes_25, bytes_27, bytes_28, bytes_29, bytes_30, bytes_33, bytes_42, bytes_43, bytes_47, bytes_51, bytes_52, bytes_53, bytes_57, bytes_58, bytes_59, bytes_73, bytes_91, bytes_104, bytes_108, bytes_111, true_and, and_true] <;> omega))
              | (refine NilB.mk fun b hb => Step.out ?_)
              | with_reducible trivial
              | exact noSh_bool _
              | exact noSh_lit _
              | exact noSh_int _ _
              | exact noSh_str _
              | with_reducible rfl
              | with_reducible exact same_rfl
              | (refine Wr.i64 ?_ ?_; omega)
              | (refine Wr.u8 ?_ ?_; omega)
              | (refine Wr.i32 ?_ ?_; omega)
              | (with_reducible refine Br.tt ?_)
              | (with_reducible refine Br.ff ?_)
              | (refine Br.dT ?_ ?_; omega)
              | (refine Br.dF ?_ ?_; omega)
              | (refine Br.d (fun h => ?_) (fun h => ?_))
              | (refine Br.swap ?_)
              | (refine Br.bnot ?_)
              | (refine Br.mk (fun h => Step.out ?_) (fun h => Step.out ?_))
              | (refine Two.mk (Step.out ?_) (Step.out ?_))
              | (refine Cp.mk fun q hq => Step.out ?_)
              | (refine Ovl.mk (by assumption) (Step.out ?_))
              | (refine CallOK.io1 (g := 12) (Step.out ?_))
              | (refine CallOK.ctF (g := 13) (Step.out ?_))
              | (refine CallOK.ctF (g := 14) (Step.out ?_))
              | (refine CallOK.ctF (g := 15) (Step.out ?_))
              | (refine CallOK.ctF (g := 16) (Step.out ?_))
              | (refine CallOK.of_ct (Step.out ?_))
              | (refine CallQ.of_ct (Step.out ?_))
              | (refine Met.by (g := 9) (awake_ct) ?_; rintro q outs ⟨rfl, rfl⟩)
              | (refine Met.by (g := 10) (few_ct _) ?_; rintro q outs ⟨rfl, rfl⟩)
              | (refine Met.by (g := 11) (new_ct _ (by assumption)) ?_; rintro q outs ⟨d, hd, rfl, rfl⟩)
              | (refine Met.by (g := 12) (channel_ct _) ?_; rintro q outs ⟨c, d, hg, rfl, rfl⟩)
              | (refine Met.by (g := 13) (idle_ct _ (by assumption)) ?_; rintro q outs ⟨rfl, rfl⟩)
              | (refine Met.by (g := 14) (deliver_ct _ (by assumption) _) ?_; rintro q outs ⟨rfl, rfl⟩)
              | (refine Met.by (g := 15) (back_ct _ (by assumption) _) ?_; rintro q outs ⟨rfl, rfl⟩)
              | (refine Met.by (g := 16) (send_ct _ (by assumption) _) ?_; rintro q outs ⟨rfl, rfl⟩)
              | (refine Vc.mk ?_ (Step.out ?_))
          · clear hz hgot hnn
            rintro ⟨c, got⟩ hz
            have g := hz.1.g
            have hgot := hz.1.a
            have hnn := hz.1.n
            dsimp only at g hgot hnn hz ⊢
            have r1 := g.e1; have r2 := g.e2; have r3 := g.reach; have r4 := g.w; have r5 := g.b2; have r6 := g.b1; have r7 := g.t; have r8 := g.k
            have ho := g.ok
            have hi := fun (h : (0 : Int) < c.back.length) => back_in (i := (c.back.length : Int) - 1) g (by omega) (by omega)
            have hsd := fun (h : (0 : Int) < c.wait.length) => send_in g (by omega) (by rw [hz.2.1]; decide)
            repeat' first
              | (refine Step.mk ?_; conv => whnf)
              | (refine Vc.om ?_ ?_; first | omega | with_reducible rfl | with_reducible exact same_rfl | (simp only [bytes_2, bytes_3, bytes_4, bytes_5, bytes_9, bytes_12, bytes_21, bytes_22, bytes_25, bytes_27, bytes_28, bytes_29, bytes_30, bytes_33, bytes_42, bytes_43, bytes_47, bytes_51, bytes_52, bytes_53, bytes_57, bytes_58, bytes_59, bytes_73, bytes_91, bytes_104, bytes_108, bytes_111, true_and, and_true] <;> omega))
              | (refine NilB.mk fun b hb => Step.out ?_)
              | with_reducible trivial
              | exact noSh_bool _
              | exact noSh_lit _
              | exact noSh_int _ _
              | exact noSh_str _
              | with_reducible rfl
              | with_reducible exact same_rfl
              | (refine Wr.i64 ?_ ?_; omega)
              | (refine Wr.u8 ?_ ?_; omega)
              | (refine Wr.i32 ?_ ?_; omega)
              | (with_reducible refine Br.tt ?_)
              | (with_reducible refine Br.ff ?_)
              | (refine Br.dT ?_ ?_; omega)
              | (refine Br.dF ?_ ?_; omega)
              | (exact noSh_cz _ _)
              | (refine Vc.om ?_ ?_; focus (have hi := hi ‹_›; omega; done))
              | (refine Wr.i64 ?_ ?_; focus (have hi := hi ‹_›; omega; done))
              | (refine Wr.u8 ?_ ?_; focus (have hi := hi ‹_›; omega; done))
              | (refine Br.dT ?_ ?_; focus (have hi := hi ‹_›; omega; done))
              | (refine Br.dF ?_ ?_; focus (have hi := hi ‹_›; omega; done))
              | (refine Vc.om ?_ ?_; focus (have hi := hsd ‹_›; omega; done))
              | (refine Wr.i64 ?_ ?_; focus (have hi := hsd ‹_›; omega; done))
              | (refine Wr.u8 ?_ ?_; focus (have hi := hsd ‹_›; omega; done))
              | (refine Br.dT ?_ ?_; focus (have hi := hsd ‹_›; omega; done))
              | (refine Br.dF ?_ ?_; focus (have hi := hsd ‹_›; omega; done))
              | (refine Br.d (fun h => ?_) (fun h => ?_))
              | (refine Br.swap ?_)
              | (refine Br.bnot ?_)
              | (refine Br.mk (fun h => Step.out ?_) (fun h => Step.out ?_))
              | (refine Two.mk (Step.out ?_) (Step.out ?_))
              | (refine Cp.mk fun q hq => Step.out ?_)
              | (refine Ovl.mk (by assumption) (Step.out ?_))
              | (refine CallOK.io1 (g := 12) (Step.out ?_))
              | (refine CallOK.ctF (g := 13) (Step.out ?_))
              | (refine CallOK.ctF (g := 14) (Step.out ?_))
              | (refine CallOK.ctF (g := 15) (Step.out ?_))
              | (refine CallOK.ctF (g := 16) (Step.out ?_))
              | (refine CallOK.of_ct (Step.out ?_))
              | (refine CallQ.of_ct (Step.out ?_))
              | (refine Met.by (g := 9) (awake_ct) ?_; rintro q outs ⟨rfl, rfl⟩)
              | (refine Met.by (g := 10) (few_ct _) ?_; rintro q outs ⟨rfl, rfl⟩)
              | (refine Met.by (g := 11) (new_ct _ (by assumption)) ?_; rintro q outs ⟨d, hd, rfl, rfl⟩)
              | (refine Met.by (g := 12) (channel_ct _) ?_; rintro q outs ⟨c, d, hg, rfl, rfl⟩)
              | (refine Met.by (g := 13) (idle_ct _ (by assumption)) ?_; rintro q outs ⟨rfl, rfl⟩)
              | (refine Met.by (g := 14) (deliver_ct _ (by assumption) _) ?_; rintro q outs ⟨rfl, rfl⟩)
              | (refine Met.by (g := 15) (back_ct _ (by assumption) _) ?_; rintro q outs ⟨rfl, rfl⟩)
              | (refine Met.by (g := 16) (send_ct _ (by assumption) _) ?_; rintro q outs ⟨rfl, rfl⟩)
              | (refine Vc.mk ?_ (Step.out ?_))
            · refine Again.by ((c.backM ((c.back.length : Int) - 1)).1, got) (en_back hz (by dsimp only; omega)) ?_
              dsimp only
              repeat' first
                | (refine Step.mk ?_; conv => whnf)
                | (refine Vc.om ?_ ?_; first | omega | with_reducible rfl | with_reducible exact same_rfl | (simp only [bytes_2, bytes_3, bytes_4, bytes_5, bytes_9, bytes_12, bytes_21, bytes_22, bytes_25, bytes_27, bytes_28, bytes_29, bytes_30, bytes_33, bytes_42, bytes_43, bytes_47, bytes_51, bytes_52, bytes_53, bytes_57, bytes_58, bytes_59, bytes_73, bytes_91, bytes_104, bytes_108, bytes_111, true_and, and_true] <;> omega))
                | (refine NilB.mk fun b hb => Step.out ?_)
                | with_reducible trivial
                | exact noSh_bool _
                | exact noSh_lit _
                | exact noSh_int _ _
                | exact noSh_str _
                | with_reducible rfl
                | with_reducible exact same_rfl
                | (refine Wr.i64 ?_ ?_; omega)
                | (refine Wr.u8 ?_ ?_; omega)
                | (refine Wr.i32 ?_ ?_; omega)
                | (with_reducible refine Br.tt ?_)
                | (with_reducible refine Br.ff ?_)
                | (refine Br.dT ?_ ?_; omega)
                | (refine Br.dF ?_ ?_; omega)
                | (refine Br.d (fun h => ?_) (fun h => ?_))
                | (refine Br.swap ?_)
                | (refine Br.bnot ?_)
                | (refine Br.mk (fun h => Step.out ?_) (fun h => Step.out ?_))
                | (refine Two.mk (Step.out ?_) (Step.out ?_))
                | (refine Cp.mk fun q hq => Step.out ?_)
                | (refine Ovl.mk (by assumption) (Step.out ?_))
                | (refine CallOK.io1 (g := 12) (Step.out ?_))
                | (refine CallOK.ctF (g := 13) (Step.out ?_))
                | (refine CallOK.ctF (g := 14) (Step.out ?_))
                | (refine CallOK.ctF (g := 15) (Step.out ?_))
                | (refine CallOK.ctF (g := 16) (Step.out ?_))
                | (refine CallOK.of_ct (Step.out ?_))
                | (refine CallQ.of_ct (Step.out ?_))
                | (refine Met.by (g := 9) (awake_ct) ?_; rintro q outs ⟨rfl, rfl⟩)
                | (refine Met.by (g := 10) (few_ct _) ?_; rintro q outs ⟨rfl, rfl⟩)
                | (refine Met.by (g := 11) (new_ct _ (by assumption)) ?_; rintro q outs ⟨d, hd, rfl, rfl⟩)
                | (refine Met.by (g := 12) (channel_ct _) ?_; rintro q outs ⟨c, d, hg, rfl, rfl⟩)
                | (refine Met.by (g := 13) (idle_ct _ (by assumption)) ?_; rintro q outs ⟨rfl, rfl⟩)
                | (refine Met.by (g := 14) (deliver_ct _ (by assumption) _) ?_; rintro q outs ⟨rfl, rfl⟩)
                | (refine Met.by (g := 15) (back_ct _ (by assumption) _) ?_; rintro q outs ⟨rfl, rfl⟩)
                | (refine Met.by (g := 16) (send_ct _ (by assumption) _) ?_; rintro q outs ⟨rfl, rfl⟩)
                | (refine Vc.mk ?_ (Step.out ?_))
            · refine Again.by (((c.send 0).1, got), k + 1) ⟨⟨by dsimp only; omega, en_send (by omega) hz (by dsimp only; omega) (by dsimp only; omega)⟩, by dsimp only; omega⟩ ?_
              dsimp only
              repeat' first
                | (refine Step.mk ?_; conv => whnf)
                | (refine Vc.om ?_ ?_; first | omega | with_reducible rfl | with_reducible exact same_rfl | (simp only [bytes_2, bytes_3, bytes_4, bytes_5, bytes_9, bytes_12, bytes_21, bytes_22, bytes_25, bytes_27, bytes_28, bytes_29, bytes_30, bytes_33, bytes_42, bytes_43, bytes_47, bytes_51, bytes_52, bytes_53, bytes_57, bytes_58, bytes_59, bytes_73, bytes_91, bytes_104, bytes_108, bytes_111, true_and, and_true] <;> omega))
                | (refine NilB.mk fun b hb => Step.out ?_)
                | with_reducible trivial
                | exact noSh_bool _
                | exact noSh_lit _
                | exact noSh_int _ _
                | exact noSh_str _
                | with_reducible rfl
                | with_reducible exact same_rfl
                | (refine Wr.i64 ?_ ?_; omega)
                | (refine Wr.u8 ?_ ?_; omega)
                | (refine Wr.i32 ?_ ?_; omega)
                | (with_reducible refine Br.tt ?_)
                | (with_reducible refine Br.ff ?_)
                | (refine Br.dT ?_ ?_; omega)
                | (refine Br.dF ?_ ?_; omega)
                | (refine Br.d (fun h => ?_) (fun h => ?_))
                | (refine Br.swap ?_)
                | (refine Br.bnot ?_)
                | (refine Br.mk (fun h => Step.out ?_) (fun h => Step.out ?_))
                | (refine Two.mk (Step.out ?_) (Step.out ?_))
                | (refine Cp.mk fun q hq => Step.out ?_)
                | (refine Ovl.mk (by assumption) (Step.out ?_))
                | (refine CallOK.io1 (g := 12) (Step.out ?_))
                | (refine CallOK.ctF (g := 13) (Step.out ?_))
                | (refine CallOK.ctF (g := 14) (Step.out ?_))
                | (refine CallOK.ctF (g := 15) (Step.out ?_))
                | (refine CallOK.ctF (g := 16) (Step.out ?_))
                | (refine CallOK.of_ct (Step.out ?_))
                | (refine CallQ.of_ct (Step.out ?_))
                | (refine Met.by (g := 9) (awake_ct) ?_; rintro q outs ⟨rfl, rfl⟩)
                | (refine Met.by (g := 10) (few_ct _) ?_; rintro q outs ⟨rfl, rfl⟩)
                | (refine Met.by (g := 11) (new_ct _ (by assumption)) ?_; rintro q outs ⟨d, hd, rfl, rfl⟩)
                | (refine Met.by (g := 12) (channel_ct _) ?_; rintro q outs ⟨c, d, hg, rfl, rfl⟩)
                | (refine Met.by (g := 13) (idle_ct _ (by assumption)) ?_; rintro q outs ⟨rfl, rfl⟩)
                | (refine Met.by (g := 14) (deliver_ct _ (by assumption) _) ?_; rintro q outs ⟨rfl, rfl⟩)
                | (refine Met.by (g := 15) (back_ct _ (by assumption) _) ?_; rintro q outs ⟨rfl, rfl⟩)
                | (refine Met.by (g := 16) (send_ct _ (by assumption) _) ?_; rintro q outs ⟨rfl, rfl⟩)
                | (refine Vc.mk ?_ (Step.out ?_))
            · refine Again.by ((c, got), k + 1) ⟨⟨by dsimp only; omega, en_rest (by omega) hz (by dsimp only; omega) (by dsimp only; omega)⟩, by dsimp only; omega⟩ ?_
              dsimp only
              repeat' first
                | (refine Step.mk ?_; conv => whnf)
                | (refine Vc.om ?_ ?_; first | omega | with_reducible rfl | with_reducible exact same_rfl | (simp only [bytes_2, bytes_3, bytes_4, bytes_5, bytes_9, bytes_12, bytes_21, bytes_22, bytes_25, bytes_27, bytes_28, bytes_29, bytes_30, bytes_33, bytes_42, bytes_43, bytes_47, bytes_51, bytes_52, bytes_53, bytes_57, bytes_58, bytes_59, bytes_73, bytes_91, bytes_104, bytes_108, bytes_111, true_and, and_true] <;> omega))
                | (refine NilB.mk fun b hb => Step.out ?_)
                | with_reducible trivial
                | exact noSh_bool _
                | exact noSh_lit _
                | exact noSh_int _ _
                | exact noSh_str _
                | with_reducible rfl
                | with_reducible exact same_rfl
                | (refine Wr.i64 ?_ ?_; omega)
                | (refine Wr.u8 ?_ ?_; omega)
                | (refine Wr.i32 ?_ ?_; omega)
                | (with_reducible refine Br.tt ?_)
                | (with_reducible refine Br.ff ?_)
                | (refine Br.dT ?_ ?_; omega)
                | (refine Br.dF ?_ ?_; omega)
                | (refine Br.d (fun h => ?_) (fun h => ?_))
                | (refine Br.swap ?_)
                | (refine Br.bnot ?_)
                | (refine Br.mk (fun h => Step.out ?_) (fun h => Step.out ?_))
                | (refine Two.mk (Step.out ?_) (Step.out ?_))
                | (refine Cp.mk fun q hq => Step.out ?_)
                | (refine Ovl.mk (by assumption) (Step.out ?_))
                | (refine CallOK.io1 (g := 12) (Step.out ?_))
                | (refine CallOK.ctF (g := 13) (Step.out ?_))
                | (refine CallOK.ctF (g := 14) (Step.out ?_))
                | (refine CallOK.ctF (g := 15) (Step.out ?_))
                | (refine CallOK.ctF (g := 16) (Step.out ?_))
                | (refine CallOK.of_ct (Step.out ?_))
                | (refine CallQ.of_ct (Step.out ?_))
                | (refine Met.by (g := 9) (awake_ct) ?_; rintro q outs ⟨rfl, rfl⟩)
                | (refine Met.by (g := 10) (few_ct _) ?_; rintro q outs ⟨rfl, rfl⟩)
                | (refine Met.by (g := 11) (new_ct _ (by assumption)) ?_; rintro q outs ⟨d, hd, rfl, rfl⟩)
                | (refine Met.by (g := 12) (channel_ct _) ?_; rintro q outs ⟨c, d, hg, rfl, rfl⟩)
                | (refine Met.by (g := 13) (idle_ct _ (by assumption)) ?_; rintro q outs ⟨rfl, rfl⟩)
                | (refine Met.by (g := 14) (deliver_ct _ (by assumption) _) ?_; rintro q outs ⟨rfl, rfl⟩)
                | (refine Met.by (g := 15) (back_ct _ (by assumption) _) ?_; rintro q outs ⟨rfl, rfl⟩)
                | (refine Met.by (g := 16) (send_ct _ (by assumption) _) ?_; rintro q outs ⟨rfl, rfl⟩)
                | (refine Vc.mk ?_ (Step.out ?_))
    · exact decide_eq_true (en_done hd ‹_›)
    · rcases hd.2 with h0 | h0
      · omega
      · have := h0.2; dsimp only at this; omega
end Kx
