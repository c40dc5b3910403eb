/-
  The law ChannelQuiet.
  No condition beyond those written in each theorem.
-/
import Derived.Test.YtnjjjmknmoenmaaKEl
open Go Sx Go.Proofs
set_option linter.unusedSimpArgs false
set_option linter.unusedVariables false
namespace Kx
theorem rsame_ct (l m : List Str) (hl : l.length ≤ 1000000) (hm' : m.length ≤ 1000000) : Ct Try.prog 55 [strs l, strs m] fun r outs => r = .bool (decide (l = m)) ∧ outs = [] := by
  refine .det (.of_W (fn := Try.f55) hΓ hm Try.func55 ord55 [] (by kernel_rfl) (Step.out ?_))
  repeat' first
    | (refine Step.mk ?_; conv => whnf)
    | (refine Vc.om ?_ ?_; first | omega | with_reducible rfl | with_reducible exact same_rfl | (simp only [bytes_2, bytes_3, bytes_4, bytes_5, bytes_9, bytes_12, bytes_21, bytes_22, bytes_25, bytes_27, bytes_28, bytes_29, bytes_30, bytes_33, bytes_42, bytes_43, bytes_47, bytes_51, bytes_52, bytes_53, bytes_57, bytes_58, bytes_59, bytes_73, bytes_91, bytes_104, bytes_108, bytes_111, true_and, and_true] <;> omega))
    | (refine NilB.mk fun b hb => Step.out ?_)
    | with_reducible trivial
    | exact noSh_bool _
    | exact noSh_lit _
    | exact noSh_int _ _
    | exact noSh_str _
    | with_reducible rfl
    | with_reducible exact same_rfl
    | (refine Wr.i64 ?_ ?_; omega)
    | (refine Wr.u8 ?_ ?_; omega)
    | (refine Wr.i32 ?_ ?_; omega)
    | (with_reducible refine Br.tt ?_)
    | (with_reducible refine Br.ff ?_)
    | (refine Br.dT ?_ ?_; omega)
    | (refine Br.dF ?_ ?_; omega)
    | (refine Br.d (fun h => ?_) (fun h => ?_))
    | (refine Br.swap ?_)
    | (refine Br.bnot ?_)
    | (refine Br.mk (fun h => Step.out ?_) (fun h => Step.out ?_))
    | (refine Two.mk (Step.out ?_) (Step.out ?_))
    | (refine Cp.mk fun q hq => Step.out ?_)
    | (refine Ovl.mk (by assumption) (Step.out ?_))
    | (refine CallOK.of_ct (Step.out ?_))
    | (refine CallQ.of_ct (Step.out ?_))
    | (refine Vc.mk ?_ (Step.out ?_))
  · refine CodeOK.loopW hΓ hm ord55 [] (by kernel_rfl) (α := Nat) (fun i => [(0, strs l), (1, strs m), (5, i64 i)]) (fun i => []) 0 (fun i => i ≤ l.length ∧ (l = m ↔ l.drop i = m.drop i)) (fun i => l.length - i) ?_ ?_
    · refine Again.by 0 ⟨Nat.zero_le _, Iff.rfl⟩ ?_
      repeat' first
        | (refine Step.mk ?_; conv => whnf)
        | (refine Vc.om ?_ ?_; first | omega | with_reducible rfl | with_reducible exact same_rfl | (simp only [bytes_2, bytes_3, bytes_4, bytes_5, bytes_9, bytes_12, bytes_21, bytes_22, bytes_25, bytes_27, bytes_28, bytes_29, bytes_30, bytes_33, bytes_42, bytes_43, bytes_47, bytes_51, bytes_52, bytes_53, bytes_57, bytes_58, bytes_59, bytes_73, bytes_91, bytes_104, bytes_108, bytes_111, true_and, and_true] <;> omega))
        | (refine NilB.mk fun b hb => Step.out ?_)
        | with_reducible trivial
        | exact noSh_bool _
        | exact noSh_lit _
        | exact noSh_int _ _
        | exact noSh_str _
        | with_reducible rfl
        | with_reducible exact same_rfl
        | (refine Wr.i64 ?_ ?_; omega)
        | (refine Wr.u8 ?_ ?_; omega)
        | (refine Wr.i32 ?_ ?_; omega)
        | (with_reducible refine Br.tt ?_)
        | (with_reducible refine Br.ff ?_)
        | (refine Br.dT ?_ ?_; omega)
        | (refine Br.dF ?_ ?_; omega)
        | (refine Br.d (fun h => ?_) (fun h => ?_))
        | (refine Br.swap ?_)
        | (refine Br.bnot ?_)
        | (refine Br.mk (fun h => Step.out ?_) (fun h => Step.out ?_))
        | (refine Two.mk (Step.out ?_) (Step.out ?_))
        | (refine Cp.mk fun q hq => Step.out ?_)
        | (refine Ovl.mk (by assumption) (Step.out ?_))
        | (refine CallOK.of_ct (Step.out ?_))
        | (refine CallQ.of_ct (Step.out ?_))
        | (refine Vc.mk ?_ (Step.out ?_))
    · intro i ⟨hi, hv⟩
      repeat' first
        | (refine Step.mk ?_; conv => whnf)
        | (refine Vc.om ?_ ?_; first | omega | with_reducible rfl | with_reducible exact same_rfl | (simp only [bytes_2, bytes_3, bytes_4, bytes_5, bytes_9, bytes_12, bytes_21, bytes_22, bytes_25, bytes_27, bytes_28, bytes_29, bytes_30, bytes_33, bytes_42, bytes_43, bytes_47, bytes_51, bytes_52, bytes_53, bytes_57, bytes_58, bytes_59, bytes_73, bytes_91, bytes_104, bytes_108, bytes_111, true_and, and_true] <;> omega))
        | (refine NilB.mk fun b hb => Step.out ?_)
        | with_reducible trivial
        | exact noSh_bool _
        | exact noSh_lit _
        | exact noSh_int _ _
        | exact noSh_str _
        | with_reducible rfl
        | with_reducible exact same_rfl
        | (refine Wr.i64 ?_ ?_; omega)
        | (refine Wr.u8 ?_ ?_; omega)
        | (refine Wr.i32 ?_ ?_; omega)
        | (with_reducible refine Br.tt ?_)
        | (with_reducible refine Br.ff ?_)
        | (refine Br.dT ?_ ?_; omega)
        | (refine Br.dF ?_ ?_; omega)
        | (refine Br.d (fun h => ?_) (fun h => ?_))
        | (refine Br.swap ?_)
        | (refine Br.bnot ?_)
        | (refine Br.mk (fun h => Step.out ?_) (fun h => Step.out ?_))
        | (refine Two.mk (Step.out ?_) (Step.out ?_))
        | (refine Cp.mk fun q hq => Step.out ?_)
        | (refine Ovl.mk (by assumption) (Step.out ?_))
        | (refine CallOK.of_ct (Step.out ?_))
        | (refine CallQ.of_ct (Step.out ?_))
        | (refine Vc.mk ?_ (Step.out ?_))
      all_goals try simp only [Int.toNat_natCast] at *
      · refine Again.by (i + 1) ⟨⟨by omega, ?_⟩, by omega⟩ ?_
        · rw [hv, drop_step l [] i (by omega), drop_step m [] i (by omega), h]; simp
        · repeat' first
            | (refine Step.mk ?_; conv => whnf)
            | (refine Vc.om ?_ ?_; first | omega | with_reducible rfl | with_reducible exact same_rfl | (simp only [bytes_2, bytes_3, bytes_4, bytes_5, bytes_9, bytes_12, bytes_21, bytes_22, bytes_25, bytes_27, bytes_28, bytes_29, bytes_30, bytes_33, bytes_42, bytes_43, bytes_47, bytes_51, bytes_52, bytes_53, bytes_57, bytes_58, bytes_59, bytes_73, bytes_91, bytes_104, bytes_108, bytes_111, true_and, and_true] <;> omega))
            | (refine NilB.mk fun b hb => Step.out ?_)
            | with_reducible trivial
            | exact noSh_bool _
            | exact noSh_lit _
            | exact noSh_int _ _
            | exact noSh_str _
            | with_reducible rfl
            | with_reducible exact same_rfl
            | (refine Wr.i64 ?_ ?_; omega)
            | (refine Wr.u8 ?_ ?_; omega)
            | (refine Wr.i32 ?_ ?_; omega)
            | (with_reducible refine Br.tt ?_)
            | (with_reducible refine Br.ff ?_)
            | (refine Br.dT ?_ ?_; omega)
            | (refine Br.dF ?_ ?_; omega)
            | (refine Br.d (fun h => ?_) (fun h => ?_))
            | (refine Br.swap ?_)
            | (refine Br.bnot ?_)
            | (refine Br.mk (fun h => Step.out ?_) (fun h => Step.out ?_))
            | (refine Two.mk (Step.out ?_) (Step.out ?_))
            | (refine Cp.mk fun q hq => Step.out ?_)
            | (refine Ovl.mk (by assumption) (Step.out ?_))
            | (refine CallOK.of_ct (Step.out ?_))
            | (refine CallQ.of_ct (Step.out ?_))
            | (refine Vc.mk ?_ (Step.out ?_))
      · rw [decide_eq_false]
        intro e
        rw [hv, drop_step l [] i (by omega), drop_step m [] i (by omega)] at e
        exact h (List.cons.inj e).1
      · rw [decide_eq_true]
        rw [hv, List.drop_of_length_le (by omega), List.drop_of_length_le (by omega)]
  all_goals
    rw [decide_eq_false]
    intro e
    subst e
    omega
theorem equal_ct (l m : List Str) (hl : l.length ≤ 1000000) (hm' : m.length ≤ 1000000) : Ct Try.prog 37 [strs l, strs m] fun r outs => r = .bool (decide (l = m)) ∧ outs = [] := by
  refine .det (.of_W (fn := Try.f37) hΓ hm Try.func37 [] [] (by kernel_rfl) (Step.out ?_))
  repeat' first
    | (refine Step.mk ?_; conv => whnf)
    | (refine Vc.om ?_ ?_; first | omega | with_reducible rfl | with_reducible exact same_rfl | (simp only [bytes_2, bytes_3, bytes_4, bytes_5, bytes_9, bytes_12, bytes_21, bytes_22, bytes_25, bytes_27, bytes_28, bytes_29, bytes_30, bytes_33, bytes_42, bytes_43, bytes_47, bytes_51, bytes_52, bytes_53, bytes_57, bytes_58, bytes_59, bytes_73, bytes_91, bytes_104, bytes_108, bytes_111, true_and, and_true] <;> omega))
    | (refine NilB.mk fun b hb => Step.out ?_)
    | with_reducible trivial
    | exact noSh_bool _
    | exact noSh_lit _
    | exact noSh_int _ _
    | exact noSh_str _
    | with_reducible rfl
    | with_reducible exact same_rfl
    | (refine Wr.i64 ?_ ?_; omega)
    | (refine Wr.u8 ?_ ?_; omega)
    | (refine Wr.i32 ?_ ?_; omega)
    | (with_reducible refine Br.tt ?_)
    | (with_reducible refine Br.ff ?_)
    | (refine Br.dT ?_ ?_; omega)
    | (refine Br.dF ?_ ?_; omega)
    | (refine Br.d (fun h => ?_) (fun h => ?_))
    | (refine Br.swap ?_)
    | (refine Br.bnot ?_)
    | (refine Br.mk (fun h => Step.out ?_) (fun h => Step.out ?_))
    | (refine Two.mk (Step.out ?_) (Step.out ?_))
    | (refine Cp.mk fun q hq => Step.out ?_)
    | (refine Ovl.mk (by assumption) (Step.out ?_))
    | (refine CallOK.ctF (g := 55) (Step.out ?_))
    | (refine CallOK.of_ct (Step.out ?_))
    | (refine CallQ.of_ct (Step.out ?_))
    | (refine Met.by (g := 55) (rsame_ct _ _ (by omega) (by omega)) ?_; rintro q outs ⟨rfl, rfl⟩)
    | (refine Vc.mk ?_ (Step.out ?_))
theorem equalT_ct (l m : List Str) (h : l = m) (hl : l.length ≤ 1000000) : Ct Try.prog 37 [strs l, strs m] fun r outs => r = .bool true ∧ outs = [] := by
  subst h
  have := equal_ct l l hl hl
  rw [decide_eq_true rfl] at this
  exact this
structure Qt (c x : Ch) : Prop where
  g : x.good
  b : x.base = c.base
  e : x.exp = c.exp
  w : x.wait = c.wait
  h : x.held.length = c.held.length
theorem quiet_send {c : Ch} {i : Int} (g : c.good) (h : (c.send i).2 = 0) : Qt c (c.send i).1 := by
  obtain ⟨s, e, _⟩ := send_step g (pair0 h)
  refine ⟨s.g, ?_, ?_, ?_, ?_⟩ <;> rw [e]
theorem quiet_lose {c : Ch} {i : Int} (g : c.good) (h : (c.lose i).2 = 0) : Qt c (c.lose i).1 := by
  obtain ⟨s, e, _⟩ := lose_step g (pair0 h)
  refine ⟨s.g, ?_, ?_, ?_, ?_⟩ <;> rw [e]
theorem quiet_repeat {c : Ch} {i : Int} (g : c.good) (h : (c.repeat i).2 = 0) : Qt c (c.repeat i).1 := by
  obtain ⟨s, e⟩ := repeat_step g (pair0 h)
  refine ⟨s.g, ?_, ?_, ?_, ?_⟩ <;> rw [e]
theorem quiet_loseB {c : Ch} {i : Int} (g : c.good) (h : (c.loseB i).2 = 0) : Qt c (c.loseB i).1 := by
  obtain ⟨s, e⟩ := loseB_step g (pair0 h)
  refine ⟨s.g, ?_, ?_, ?_, ?_⟩ <;> rw [e]
theorem quiet_ct (l : List Int) (at_ : Int) : Ct Try.prog 8 [ints l, i64 at_] fun r outs => r = .bool true ∧ outs = [] := by
  refine .det (.of_W (fn := Try.f8) hΓ hm Try.func8 [] [] (by kernel_rfl) (Step.out ?_))
  repeat' first
    | (refine Step.mk ?_; conv => whnf)
    | (refine Vc.om ?_ ?_; first | omega | with_reducible rfl | with_reducible exact same_rfl | (simp only [bytes_2, bytes_3, bytes_4, bytes_5, bytes_9, bytes_12, bytes_21, bytes_22, bytes_25, bytes_27, bytes_28, bytes_29, bytes_30, bytes_33, bytes_42, bytes_43, bytes_47, bytes_51, bytes_52, bytes_53, bytes_57, bytes_58, bytes_59, bytes_73, bytes_91, bytes_104, bytes_108, bytes_111, true_and, and_true] <;> omega))
    | (refine NilB.mk fun b hb => Step.out ?_)
    | with_reducible trivial
    | exact noSh_bool _
    | exact noSh_lit _
    | exact noSh_int _ _
    | exact noSh_str _
    | with_reducible rfl
    | with_reducible exact same_rfl
    | (refine Wr.i64 ?_ ?_; omega)
    | (refine Wr.u8 ?_ ?_; omega)
    | (refine Wr.i32 ?_ ?_; omega)
    | (with_reducible refine Br.tt ?_)
    | (with_reducible refine Br.ff ?_)
    | (refine Br.dT ?_ ?_; omega)
    | (refine Br.dF ?_ ?_; omega)
    | (refine Br.d (fun h => ?_) (fun h => ?_))
    | (refine Br.swap ?_)
    | (refine Br.bnot ?_)
    | (refine Br.mk (fun h => Step.out ?_) (fun h => Step.out ?_))
    | (refine Two.mk (Step.out ?_) (Step.out ?_))
    | (refine Cp.mk fun q hq => Step.out ?_)
    | (refine Ovl.mk (by assumption) (Step.out ?_))
    | (refine CallOK.io1 (g := 12) (Step.out ?_))
    | (refine CallOK.ctF (g := 16) (Step.out ?_))
    | (refine CallOK.io1 (g := 27) (Step.out ?_))
    | (refine CallOK.ctF (g := 29) (Step.out ?_))
    | (refine CallOK.ctF (g := 31) (Step.out ?_))
    | (refine CallOK.ctF (g := 34) (Step.out ?_))
    | (refine CallOK.ctF (g := 37) (Step.out ?_))
    | (refine CallOK.of_ct (Step.out ?_))
    | (refine CallQ.of_ct (Step.out ?_))
    | (refine Met.by (g := 9) (awake_ct) ?_; rintro q outs ⟨rfl, rfl⟩)
    | (refine Met.by (g := 10) (few_ct _) ?_; rintro q outs ⟨rfl, rfl⟩)
    | (refine Met.by (g := 11) (new_ct _ (by assumption)) ?_; rintro q outs ⟨d, hd, rfl, rfl⟩)
    | (refine Met.by (g := 12) (channel_ct _) ?_; rintro q outs ⟨c, d, hg, rfl, rfl⟩)
    | (refine Met.by (g := 16) (send_ct _ (by assumption) _) ?_; rintro q outs ⟨rfl, rfl⟩)
    | (refine Met.by (g := 19) (check_ct _ (by assumption)) ?_; rintro q outs ⟨rfl, rfl⟩)
    | (refine Met.by (g := 27) (next_ct _ _) ?_; rintro q outs ⟨x, d, hx, rfl, rfl⟩)
    | (refine Met.by (g := 29) (lose_ct _ (by assumption) _) ?_; rintro q outs ⟨rfl, rfl⟩)
    | (refine Met.by (g := 31) (repeat_ct _ (by assumption) _) ?_; rintro q outs ⟨rfl, rfl⟩)
    | (refine Met.by (g := 34) (loseB_ct _ (by assumption) _) ?_; rintro q outs ⟨rfl, rfl⟩)
    | (refine Met.by (g := 37) (equal_ct _ _ (by omega) (by omega)) ?_; rintro q outs ⟨rfl, rfl⟩)
    | (refine Met.by (g := 38) (mod_ct _ _ (by omega)) ?_; rintro q outs ⟨x, hx, rfl, rfl⟩)
    | (refine Vc.mk ?_ (Step.out ?_))
  refine CodeOK.loopW hΓ hm [] [] (by kernel_rfl) (α := Ch × Dk × Int) (fun z => [(1, i64 at_), (5, .loc 0 0), (6, .loc 1 0), (7, i64 z.2.2)]) (fun z => [(0, .var z.2.1.ls), (1, .var z.1.l)]) 2 (fun z => z.1.good ∧ 0 ≤ z.2.2 ∧ z.2.2 ≤ 4) (fun z => (4 - z.2.2).toNat) ?_ ?_
  · refine Again.by (c, d, 0) ⟨hg, by dsimp only; omega, by dsimp only; omega⟩ ?_
    dsimp only
    repeat' first
      | (refine Step.mk ?_; conv => whnf)
      | (refine Vc.om ?_ ?_; first | omega | with_reducible rfl | with_reducible exact same_rfl | (simp only [bytes_2, bytes_3, bytes_4, bytes_5, bytes_9, bytes_12, bytes_21, bytes_22, bytes_25, bytes_27, bytes_28, bytes_29, bytes_30, bytes_33, bytes_42, bytes_43, bytes_47, bytes_51, bytes_52, bytes_53, bytes_57, bytes_58, bytes_59, bytes_73, bytes_91, bytes_104, bytes_108, bytes_111, true_and, and_true] <;> omega))
      | (refine NilB.mk fun b hb => Step.out ?_)
      | with_reducible trivial
      | exact noSh_bool _
      | exact noSh_lit _
      | exact noSh_int _ _
      | exact noSh_str _
      | with_reducible rfl
      | with_reducible exact same_rfl
      | (refine Wr.i64 ?_ ?_; omega)
      | (refine Wr.u8 ?_ ?_; omega)
      | (refine Wr.i32 ?_ ?_; omega)
      | (with_reducible refine Br.tt ?_)
      | (with_reducible refine Br.ff ?_)
      | (refine Br.dT ?_ ?_; omega)
      | (refine Br.dF ?_ ?_; omega)
      | (refine Br.d (fun h => ?_) (fun h => ?_))
      | (refine Br.swap ?_)
      | (refine Br.bnot ?_)
      | (refine Br.mk (fun h => Step.out ?_) (fun h => Step.out ?_))
      | (refine Two.mk (Step.out ?_) (Step.out ?_))
      | (refine Cp.mk fun q hq => Step.out ?_)
      | (refine Ovl.mk (by assumption) (Step.out ?_))
      | (refine CallOK.io1 (g := 12) (Step.out ?_))
      | (refine CallOK.ctF (g := 16) (Step.out ?_))
      | (refine CallOK.io1 (g := 27) (Step.out ?_))
      | (refine CallOK.ctF (g := 29) (Step.out ?_))
      | (refine CallOK.ctF (g := 31) (Step.out ?_))
      | (refine CallOK.ctF (g := 34) (Step.out ?_))
      | (refine CallOK.ctF (g := 37) (Step.out ?_))
      | (refine CallOK.of_ct (Step.out ?_))
      | (refine CallQ.of_ct (Step.out ?_))
      | (refine Met.by (g := 9) (awake_ct) ?_; rintro q outs ⟨rfl, rfl⟩)
      | (refine Met.by (g := 10) (few_ct _) ?_; rintro q outs ⟨rfl, rfl⟩)
      | (refine Met.by (g := 11) (new_ct _ (by assumption)) ?_; rintro q outs ⟨d, hd, rfl, rfl⟩)
      | (refine Met.by (g := 12) (channel_ct _) ?_; rintro q outs ⟨c, d, hg, rfl, rfl⟩)
      | (refine Met.by (g := 16) (send_ct _ (by assumption) _) ?_; rintro q outs ⟨rfl, rfl⟩)
      | (refine Met.by (g := 19) (check_ct _ (by assumption)) ?_; rintro q outs ⟨rfl, rfl⟩)
      | (refine Met.by (g := 27) (next_ct _ _) ?_; rintro q outs ⟨x, d, hx, rfl, rfl⟩)
      | (refine Met.by (g := 29) (lose_ct _ (by assumption) _) ?_; rintro q outs ⟨rfl, rfl⟩)
      | (refine Met.by (g := 31) (repeat_ct _ (by assumption) _) ?_; rintro q outs ⟨rfl, rfl⟩)
      | (refine Met.by (g := 34) (loseB_ct _ (by assumption) _) ?_; rintro q outs ⟨rfl, rfl⟩)
      | (refine Met.by (g := 37) (equal_ct _ _ (by omega) (by omega)) ?_; rintro q outs ⟨rfl, rfl⟩)
      | (refine Met.by (g := 38) (mod_ct _ _ (by omega)) ?_; rintro q outs ⟨x, hx, rfl, rfl⟩)
      | (refine Vc.mk ?_ (Step.out ?_))
  · intro ⟨c, d, n⟩ ⟨hv, hn0, hn1⟩
    dsimp only at hv hn0 hn1 ⊢
    have ho := hv.ok
    have hw := hv.w
    repeat' first
      | (refine Step.mk ?_; conv => whnf)
      | (refine Vc.om ?_ ?_; first | omega | with_reducible rfl | with_reducible exact same_rfl | (simp only [bytes_2, bytes_3, bytes_4, bytes_5, bytes_9, bytes_12, bytes_21, bytes_22, bytes_25, bytes_27, bytes_28, bytes_29, bytes_30, bytes_33, bytes_42, bytes_43, bytes_47, bytes_51, bytes_52, bytes_53, bytes_57, bytes_58, bytes_59, bytes_73, bytes_91, bytes_104, bytes_108, bytes_111, true_and, and_true] <;> omega))
      | (refine NilB.mk fun b hb => Step.out ?_)
      | with_reducible trivial
      | exact noSh_bool _
      | exact noSh_lit _
      | exact noSh_int _ _
      | exact noSh_str _
      | with_reducible rfl
      | with_reducible exact same_rfl
      | (refine Wr.i64 ?_ ?_; omega)
      | (refine Wr.u8 ?_ ?_; omega)
      | (refine Wr.i32 ?_ ?_; omega)
      | (with_reducible refine Br.tt ?_)
      | (with_reducible refine Br.ff ?_)
      | (refine Br.dT ?_ ?_; omega)
      | (refine Br.dF ?_ ?_; omega)
      | (refine Wr.raw ?_)
      | (exact noSh_cz _ _)
      | (refine Vc.om ?_ ?_; focus (first | (have hq := quiet_send hv ‹(c.send _).2 = 0›; have := hq.b; have := hq.e; have := hq.h; omega) | (have hq := quiet_lose hv ‹(c.lose _).2 = 0›; have := hq.b; have := hq.e; have := hq.h; omega) | (have hq := quiet_repeat hv ‹(c.repeat _).2 = 0›; have := hq.b; have := hq.e; have := hq.h; omega) | (have hq := quiet_loseB hv ‹(c.loseB _).2 = 0›; have := hq.b; have := hq.e; have := hq.h; omega); done))
      | (refine Wr.i64 ?_ ?_; focus (first | (have hq := quiet_send hv ‹(c.send _).2 = 0›; have := hq.b; have := hq.e; have := hq.h; omega) | (have hq := quiet_lose hv ‹(c.lose _).2 = 0›; have := hq.b; have := hq.e; have := hq.h; omega) | (have hq := quiet_repeat hv ‹(c.repeat _).2 = 0›; have := hq.b; have := hq.e; have := hq.h; omega) | (have hq := quiet_loseB hv ‹(c.loseB _).2 = 0›; have := hq.b; have := hq.e; have := hq.h; omega); done))
      | (refine Wr.u8 ?_ ?_; focus (first | (have hq := quiet_send hv ‹(c.send _).2 = 0›; have := hq.b; have := hq.e; have := hq.h; omega) | (have hq := quiet_lose hv ‹(c.lose _).2 = 0›; have := hq.b; have := hq.e; have := hq.h; omega) | (have hq := quiet_repeat hv ‹(c.repeat _).2 = 0›; have := hq.b; have := hq.e; have := hq.h; omega) | (have hq := quiet_loseB hv ‹(c.loseB _).2 = 0›; have := hq.b; have := hq.e; have := hq.h; omega); done))
      | (refine Br.dT ?_ ?_; focus (first | (have hq := quiet_send hv ‹(c.send _).2 = 0›; have := hq.b; have := hq.e; have := hq.h; omega) | (have hq := quiet_lose hv ‹(c.lose _).2 = 0›; have := hq.b; have := hq.e; have := hq.h; omega) | (have hq := quiet_repeat hv ‹(c.repeat _).2 = 0›; have := hq.b; have := hq.e; have := hq.h; omega) | (have hq := quiet_loseB hv ‹(c.loseB _).2 = 0›; have := hq.b; have := hq.e; have := hq.h; omega); done))
      | (refine Br.dF ?_ ?_; focus (first | (have hq := quiet_send hv ‹(c.send _).2 = 0›; have := hq.b; have := hq.e; have := hq.h; omega) | (have hq := quiet_lose hv ‹(c.lose _).2 = 0›; have := hq.b; have := hq.e; have := hq.h; omega) | (have hq := quiet_repeat hv ‹(c.repeat _).2 = 0›; have := hq.b; have := hq.e; have := hq.h; omega) | (have hq := quiet_loseB hv ‹(c.loseB _).2 = 0›; have := hq.b; have := hq.e; have := hq.h; omega); done))
      | (refine Met.by (equalT_ct _ c.wait (by first | exact (quiet_send hv ‹(c.send _).2 = 0›).w | exact (quiet_lose hv ‹(c.lose _).2 = 0›).w | exact (quiet_repeat hv ‹(c.repeat _).2 = 0›).w | exact (quiet_loseB hv ‹(c.loseB _).2 = 0›).w) (by first | (have hq := quiet_send hv ‹(c.send _).2 = 0›; have := hq.w; rw [this]; omega) | (have hq := quiet_lose hv ‹(c.lose _).2 = 0›; have := hq.w; rw [this]; omega) | (have hq := quiet_repeat hv ‹(c.repeat _).2 = 0›; have := hq.w; rw [this]; omega) | (have hq := quiet_loseB hv ‹(c.loseB _).2 = 0›; have := hq.w; rw [this]; omega))) ?_; rintro q outs ⟨rfl, rfl⟩)
      | (refine Met.by (check0_ct _ (by first | exact (quiet_send hv ‹(c.send _).2 = 0›).g | exact (quiet_lose hv ‹(c.lose _).2 = 0›).g | exact (quiet_repeat hv ‹(c.repeat _).2 = 0›).g | exact (quiet_loseB hv ‹(c.loseB _).2 = 0›).g)) ?_; rintro q outs ⟨rfl, rfl⟩)
      | (refine Br.d (fun h => ?_) (fun h => ?_))
      | (refine Br.swap ?_)
      | (refine Br.bnot ?_)
      | (refine Br.mk (fun h => Step.out ?_) (fun h => Step.out ?_))
      | (refine Two.mk (Step.out ?_) (Step.out ?_))
      | (refine Cp.mk fun q hq => Step.out ?_)
      | (refine Ovl.mk (by assumption) (Step.out ?_))
      | (refine CallOK.io1 (g := 12) (Step.out ?_))
      | (refine CallOK.ctF (g := 16) (Step.out ?_))
      | (refine CallOK.io1 (g := 27) (Step.out ?_))
      | (refine CallOK.ctF (g := 29) (Step.out ?_))
      | (refine CallOK.ctF (g := 31) (Step.out ?_))
      | (refine CallOK.ctF (g := 34) (Step.out ?_))
      | (refine CallOK.ctF (g := 37) (Step.out ?_))
      | (refine CallOK.of_ct (Step.out ?_))
      | (refine CallQ.of_ct (Step.out ?_))
      | (refine Met.by (g := 9) (awake_ct) ?_; rintro q outs ⟨rfl, rfl⟩)
      | (refine Met.by (g := 10) (few_ct _) ?_; rintro q outs ⟨rfl, rfl⟩)
      | (refine Met.by (g := 11) (new_ct _ (by assumption)) ?_; rintro q outs ⟨d, hd, rfl, rfl⟩)
      | (refine Met.by (g := 12) (channel_ct _) ?_; rintro q outs ⟨c, d, hg, rfl, rfl⟩)
      | (refine Met.by (g := 16) (send_ct _ (by assumption) _) ?_; rintro q outs ⟨rfl, rfl⟩)
      | (refine Met.by (g := 19) (check_ct _ (by assumption)) ?_; rintro q outs ⟨rfl, rfl⟩)
      | (refine Met.by (g := 27) (next_ct _ _) ?_; rintro q outs ⟨x, d, hx, rfl, rfl⟩)
      | (refine Met.by (g := 29) (lose_ct _ (by assumption) _) ?_; rintro q outs ⟨rfl, rfl⟩)
      | (refine Met.by (g := 31) (repeat_ct _ (by assumption) _) ?_; rintro q outs ⟨rfl, rfl⟩)
      | (refine Met.by (g := 34) (loseB_ct _ (by assumption) _) ?_; rintro q outs ⟨rfl, rfl⟩)
      | (refine Met.by (g := 37) (equal_ct _ _ (by omega) (by omega)) ?_; rintro q outs ⟨rfl, rfl⟩)
      | (refine Met.by (g := 38) (mod_ct _ _ (by omega)) ?_; rintro q outs ⟨x, hx, rfl, rfl⟩)
      | (refine Vc.mk ?_ (Step.out ?_))
    all_goals try first
      | (refine Again.by ((c.send _).1, d, n + 1) ⟨⟨(quiet_send hv ‹(c.send _).2 = 0›).g, by dsimp only; omega, by dsimp only; omega⟩, by dsimp only; omega⟩ ?_)
      | (refine Again.by ((c.lose _).1, d, n + 1) ⟨⟨(quiet_lose hv ‹(c.lose _).2 = 0›).g, by dsimp only; omega, by dsimp only; omega⟩, by dsimp only; omega⟩ ?_)
      | (refine Again.by ((c.repeat _).1, d, n + 1) ⟨⟨(quiet_repeat hv ‹(c.repeat _).2 = 0›).g, by dsimp only; omega, by dsimp only; omega⟩, by dsimp only; omega⟩ ?_)
      | (refine Again.by ((c.loseB _).1, d, n + 1) ⟨⟨(quiet_loseB hv ‹(c.loseB _).2 = 0›).g, by dsimp only; omega, by dsimp only; omega⟩, by dsimp only; omega⟩ ?_)
      | (refine Again.by (c, d, n + 1) ⟨⟨hv, by dsimp only; omega, by dsimp only; omega⟩, by dsimp only; omega⟩ ?_)
    all_goals try dsimp only
    all_goals
      repeat' first
        | (refine Step.mk ?_; conv => whnf)
        | (refine Vc.om ?_ ?_; first | omega | with_reducible rfl | with_reducible exact same_rfl | (simp only [bytes_2, bytes_3, bytes_4, bytes_5, bytes_9, bytes_12, bytes_21, bytes_22, bytes_25, bytes_27, bytes_28, bytes_29, bytes_30, bytes_33, bytes_42, bytes_43, bytes_47, bytes_51, bytes_52, bytes_53, bytes_57, bytes_58, bytes_59, bytes_73, bytes_91, bytes_104, bytes_108, bytes_111, true_and, and_true] <;> omega))
        | (refine NilB.mk fun b hb => Step.out ?_)
        | with_reducible trivial
        | exact noSh_bool _
        | exact noSh_lit _
        | exact noSh_int _ _
        | exact noSh_str _
        | with_reducible rfl
        | with_reducible exact same_rfl
        | (refine Wr.i64 ?_ ?_; omega)
        | (refine Wr.u8 ?_ ?_; omega)
        | (refine Wr.i32 ?_ ?_; omega)
        | (with_reducible refine Br.tt ?_)
        | (with_reducible refine Br.ff ?_)
        | (refine Br.dT ?_ ?_; omega)
        | (refine Br.dF ?_ ?_; omega)
        | (refine Br.d (fun h => ?_) (fun h => ?_))
        | (refine Br.swap ?_)
        | (refine Br.bnot ?_)
        | (refine Br.mk (fun h => Step.out ?_) (fun h => Step.out ?_))
        | (refine Two.mk (Step.out ?_) (Step.out ?_))
        | (refine Cp.mk fun q hq => Step.out ?_)
        | (refine Ovl.mk (by assumption) (Step.out ?_))
        | (refine CallOK.io1 (g := 12) (Step.out ?_))
        | (refine CallOK.ctF (g := 16) (Step.out ?_))
        | (refine CallOK.io1 (g := 27) (Step.out ?_))
        | (refine CallOK.ctF (g := 29) (Step.out ?_))
        | (refine CallOK.ctF (g := 31) (Step.out ?_))
        | (refine CallOK.ctF (g := 34) (Step.out ?_))
        | (refine CallOK.ctF (g := 37) (Step.out ?_))
        | (refine CallOK.of_ct (Step.out ?_))
        | (refine CallQ.of_ct (Step.out ?_))
        | (refine Met.by (g := 9) (awake_ct) ?_; rintro q outs ⟨rfl, rfl⟩)
        | (refine Met.by (g := 10) (few_ct _) ?_; rintro q outs ⟨rfl, rfl⟩)
        | (refine Met.by (g := 11) (new_ct _ (by assumption)) ?_; rintro q outs ⟨d, hd, rfl, rfl⟩)
        | (refine Met.by (g := 12) (channel_ct _) ?_; rintro q outs ⟨c, d, hg, rfl, rfl⟩)
        | (refine Met.by (g := 16) (send_ct _ (by assumption) _) ?_; rintro q outs ⟨rfl, rfl⟩)
        | (refine Met.by (g := 19) (check_ct _ (by assumption)) ?_; rintro q outs ⟨rfl, rfl⟩)
        | (refine Met.by (g := 27) (next_ct _ _) ?_; rintro q outs ⟨x, d, hx, rfl, rfl⟩)
        | (refine Met.by (g := 29) (lose_ct _ (by assumption) _) ?_; rintro q outs ⟨rfl, rfl⟩)
        | (refine Met.by (g := 31) (repeat_ct _ (by assumption) _) ?_; rintro q outs ⟨rfl, rfl⟩)
        | (refine Met.by (g := 34) (loseB_ct _ (by assumption) _) ?_; rintro q outs ⟨rfl, rfl⟩)
        | (refine Met.by (g := 37) (equal_ct _ _ (by omega) (by omega)) ?_; rintro q outs ⟨rfl, rfl⟩)
        | (refine Met.by (g := 38) (mod_ct _ _ (by omega)) ?_; rintro q outs ⟨x, hx, rfl, rfl⟩)
        | (refine Vc.mk ?_ (Step.out ?_))
    all_goals trace_state
end Kx
