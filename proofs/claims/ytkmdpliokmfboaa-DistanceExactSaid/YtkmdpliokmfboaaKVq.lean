/-
  The law Least.
  No condition beyond those written in each theorem.
-/
import Derived.Test.YtkmdpliokmfboaaKVp
open Go Sx Go.Proofs
set_option linter.unusedSimpArgs false
set_option linter.unusedVariables false
namespace Kx
theorem ed_eq {a b : Str} (ha : a.length ≤ 64) (hb : b.length ≤ 64) : ed a b = dist a b ∧ errL a b = 0 := by
  rw [ed, errL, if_neg (by omega), if_neg (by omega)]; exact ⟨rfl, rfl⟩
theorem pick1 (d : Dk) : Ct Try.prog 12 [d.b, .tab 1 ([[], [97, 97, 98], [97, 98, 97, 98]] : List Str).length fun i => selC (([[], [97, 97, 98], [97, 98, 97, 98]] : List Str).map fun s => [D.str s]) i] fun r outs => ∃ (x : Str) (d' : Dk), x.length ≤ 4 ∧ r = .str x ∧ outs = [Dk.b d'] :=
  picksP_ct (fun s => s.length ≤ 4) d _ (by decide) (by decide) (by decide)
set_option maxHeartbeats 4000000 in
theorem least_ct (y0 : List Int) : Ct Try.prog 3 [ints y0] fun r outs => r = .bool true ∧ outs = [] := by
  refine .det (.of_W (fn := Try.f3) hΓ hm Try.func3 [] [] (by kernel_rfl) (Step.out ?_))
  repeat' first
    | (refine Step.mk ?_; conv => whnf)
    | (refine Vc.om ?_ ?_; first | omega | with_reducible rfl | with_reducible exact same_rfl | (simp only [bytes_2, bytes_3, bytes_4, bytes_5, bytes_9, bytes_12, bytes_21, bytes_22, bytes_25, bytes_29, bytes_31, bytes_40, bytes_41, bytes_43, bytes_45, bytes_46, bytes_47, bytes_48, bytes_49, bytes_52, bytes_53, bytes_60, bytes_63, bytes_67, bytes_75, bytes_79, true_and, and_true] <;> omega))
    | (refine NilB.mk fun b hb => Step.out ?_)
    | with_reducible trivial
    | exact noSh_bool _
    | exact noSh_lit _
    | exact noSh_int _ _
    | exact noSh_str _
    | with_reducible rfl
    | with_reducible exact same_rfl
    | (refine Wr.i64 ?_ ?_; omega)
    | (refine Wr.u8 ?_ ?_; omega)
    | (refine Wr.i32 ?_ ?_; omega)
    | (with_reducible refine Br.tt ?_)
    | (with_reducible refine Br.ff ?_)
    | (refine Br.dT ?_ ?_; omega)
    | (refine Br.dF ?_ ?_; omega)
    | (refine Met.by (pick1 _) ?_; rintro q outs ⟨x, d, hx, rfl, rfl⟩)
    | (refine Br.d (fun h => ?_) (fun h => ?_))
    | (refine Br.swap ?_)
    | (refine Br.bnot ?_)
    | (refine Br.mk (fun h => Step.out ?_) (fun h => Step.out ?_))
    | (refine Two.mk (Step.out ?_) (Step.out ?_))
    | (refine Cp.mk fun q hq => Step.out ?_)
    | (refine Ovl.mk (by assumption) (Step.out ?_))
    | (refine CallOK.io1 (g := 11) (Step.out ?_))
    | (refine CallOK.io1F (g := 12) (Step.out ?_))
    | (refine CallOK.io1 (g := 13) (Step.out ?_))
    | (refine CallOK.of_ct (Step.out ?_))
    | (refine CallQ.of_ct (Step.out ?_))
    | (refine Met.by (g := 8) (awake_ct) ?_; rintro q outs ⟨rfl, rfl⟩)
    | (refine Met.by (g := 9) (few_ct _) ?_; rintro q outs ⟨rfl, rfl⟩)
    | (refine Met.by (g := 10) (new_ct _ (by assumption)) ?_; rintro q outs ⟨d, hd, rfl, rfl⟩)
    | (refine Met.by (g := 11) (token_ct _) ?_; rintro q outs ⟨x, d, ⟨hx1, hx2, hx3⟩, rfl, rfl⟩)
    | (refine Met.by (g := 12) (picks_ct _ [] (by first | omega | decide | (simp; done) | (simp; omega)) (by first | omega | decide | (simp; done) | (simp; omega))) ?_; rintro q outs ⟨x, d, hx, rfl, rfl⟩)
    | (refine Met.by (g := 13) (some_ct _ _ _ (by omega) (by omega)) ?_; rintro q outs ⟨l, d, ⟨hg, hl⟩, rfl, rfl⟩)
    | (refine Met.by (g := 14) (apply_ct _ _ (by omega) (by assumption) (by omega)) ?_; rintro q outs ⟨rfl, rfl⟩)
    | (refine Met.by (g := 15) (edit_ct _ _ (by first | omega | decide | (simp; done) | (simp; omega)) (by first | omega | decide | (simp; done) | (simp; omega))) ?_; rintro q outs ⟨rfl, rfl⟩)
    | (refine Met.by (g := 16) (proves_ct _ _ _ (by omega) (by assumption) (by omega)) ?_; rintro q outs ⟨rfl, rfl⟩)
    | (refine Vc.mk ?_ (Step.out ?_))
  rename_i u _
  have hS : (u ++ x).length ≤ 12 := by rw [List.length_append]; omega
  generalize u ++ x = S at *
  repeat' first
    | (refine Step.mk ?_; conv => whnf)
    | (refine Vc.om ?_ ?_; first | omega | with_reducible rfl | with_reducible exact same_rfl | (simp only [bytes_2, bytes_3, bytes_4, bytes_5, bytes_9, bytes_12, bytes_21, bytes_22, bytes_25, bytes_29, bytes_31, bytes_40, bytes_41, bytes_43, bytes_45, bytes_46, bytes_47, bytes_48, bytes_49, bytes_52, bytes_53, bytes_60, bytes_63, bytes_67, bytes_75, bytes_79, true_and, and_true] <;> omega))
    | (refine NilB.mk fun b hb => Step.out ?_)
    | with_reducible trivial
    | exact noSh_bool _
    | exact noSh_lit _
    | exact noSh_int _ _
    | exact noSh_str _
    | with_reducible rfl
    | with_reducible exact same_rfl
    | (refine Wr.i64 ?_ ?_; omega)
    | (refine Wr.u8 ?_ ?_; omega)
    | (refine Wr.i32 ?_ ?_; omega)
    | (with_reducible refine Br.tt ?_)
    | (with_reducible refine Br.ff ?_)
    | (refine Br.dT ?_ ?_; omega)
    | (refine Br.dF ?_ ?_; omega)
    | (refine Met.by (apply_ct S l (by omega) (Good.ok hg (by omega)) (by omega)) ?_; rintro q outs ⟨rfl, rfl⟩)
    | (refine Met.by (proves_ct S (appS S l) l (by omega) (Good.ok hg (by omega)) (by omega)) ?_; rintro q outs ⟨rfl, rfl⟩)
    | (refine Br.d (fun h => ?_) (fun h => ?_))
    | (refine Br.swap ?_)
    | (refine Br.bnot ?_)
    | (refine Br.mk (fun h => Step.out ?_) (fun h => Step.out ?_))
    | (refine Two.mk (Step.out ?_) (Step.out ?_))
    | (refine Cp.mk fun q hq => Step.out ?_)
    | (refine Ovl.mk (by assumption) (Step.out ?_))
    | (refine CallOK.io1 (g := 11) (Step.out ?_))
    | (refine CallOK.io1F (g := 12) (Step.out ?_))
    | (refine CallOK.io1 (g := 13) (Step.out ?_))
    | (refine CallOK.of_ct (Step.out ?_))
    | (refine CallQ.of_ct (Step.out ?_))
    | (refine Met.by (g := 8) (awake_ct) ?_; rintro q outs ⟨rfl, rfl⟩)
    | (refine Met.by (g := 9) (few_ct _) ?_; rintro q outs ⟨rfl, rfl⟩)
    | (refine Met.by (g := 10) (new_ct _ (by assumption)) ?_; rintro q outs ⟨d, hd, rfl, rfl⟩)
    | (refine Met.by (g := 11) (token_ct _) ?_; rintro q outs ⟨x, d, ⟨hx1, hx2, hx3⟩, rfl, rfl⟩)
    | (refine Met.by (g := 12) (picks_ct _ [] (by first | omega | decide | (simp; done) | (simp; omega)) (by first | omega | decide | (simp; done) | (simp; omega))) ?_; rintro q outs ⟨x, d, hx, rfl, rfl⟩)
    | (refine Met.by (g := 13) (some_ct _ _ _ (by omega) (by omega)) ?_; rintro q outs ⟨l, d, ⟨hg, hl⟩, rfl, rfl⟩)
    | (refine Met.by (g := 14) (apply_ct _ _ (by omega) (by assumption) (by omega)) ?_; rintro q outs ⟨rfl, rfl⟩)
    | (refine Met.by (g := 15) (edit_ct _ _ (by first | omega | decide | (simp; done) | (simp; omega)) (by first | omega | decide | (simp; done) | (simp; omega))) ?_; rintro q outs ⟨rfl, rfl⟩)
    | (refine Met.by (g := 16) (proves_ct _ _ _ (by omega) (by assumption) (by omega)) ?_; rintro q outs ⟨rfl, rfl⟩)
    | (refine Vc.mk ?_ (Step.out ?_))
  · obtain ⟨e1, e2⟩ := hg.e (by omega) (by have := outA_len hg; omega)
    have hT := outA_len hg
    have hle := least hg
    have hpr : prvB S (appS S l) l = true := by simp [prvB, e1]
    rw [← e2] at hT hle
    have hok := Good.ok hg (by omega)
    generalize appS S l = W at *
    obtain ⟨q1, q2⟩ := ed_eq (a := S) (b := W) (by omega) (by omega)
    repeat' first
      | (refine Step.mk ?_; conv => whnf)
      | (refine Vc.om ?_ ?_; first | omega | with_reducible rfl | with_reducible exact same_rfl | (simp only [bytes_2, bytes_3, bytes_4, bytes_5, bytes_9, bytes_12, bytes_21, bytes_22, bytes_25, bytes_29, bytes_31, bytes_40, bytes_41, bytes_43, bytes_45, bytes_46, bytes_47, bytes_48, bytes_49, bytes_52, bytes_53, bytes_60, bytes_63, bytes_67, bytes_75, bytes_79, true_and, and_true] <;> omega))
      | (refine NilB.mk fun b hb => Step.out ?_)
      | with_reducible trivial
      | exact noSh_bool _
      | exact noSh_lit _
      | exact noSh_int _ _
      | exact noSh_str _
      | with_reducible rfl
      | with_reducible exact same_rfl
      | (refine Wr.i64 ?_ ?_; omega)
      | (refine Wr.u8 ?_ ?_; omega)
      | (refine Wr.i32 ?_ ?_; omega)
      | (with_reducible refine Br.tt ?_)
      | (with_reducible refine Br.ff ?_)
      | (refine Br.dT ?_ ?_; omega)
      | (refine Br.dF ?_ ?_; omega)
      | (refine Met.by (proves_ct S W l (by omega) hok (by omega)) ?_; rintro q outs ⟨rfl, rfl⟩)
      | (refine Br.d (fun h => ?_) (fun h => ?_))
      | (refine Br.swap ?_)
      | (refine Br.bnot ?_)
      | (refine Br.mk (fun h => Step.out ?_) (fun h => Step.out ?_))
      | (refine Two.mk (Step.out ?_) (Step.out ?_))
      | (refine Cp.mk fun q hq => Step.out ?_)
      | (refine Ovl.mk (by assumption) (Step.out ?_))
      | (refine CallOK.io1 (g := 11) (Step.out ?_))
      | (refine CallOK.io1F (g := 12) (Step.out ?_))
      | (refine CallOK.io1 (g := 13) (Step.out ?_))
      | (refine CallOK.of_ct (Step.out ?_))
      | (refine CallQ.of_ct (Step.out ?_))
      | (refine Met.by (g := 8) (awake_ct) ?_; rintro q outs ⟨rfl, rfl⟩)
      | (refine Met.by (g := 9) (few_ct _) ?_; rintro q outs ⟨rfl, rfl⟩)
      | (refine Met.by (g := 10) (new_ct _ (by assumption)) ?_; rintro q outs ⟨d, hd, rfl, rfl⟩)
      | (refine Met.by (g := 11) (token_ct _) ?_; rintro q outs ⟨x, d, ⟨hx1, hx2, hx3⟩, rfl, rfl⟩)
      | (refine Met.by (g := 12) (picks_ct _ [] (by first | omega | decide | (simp; done) | (simp; omega)) (by first | omega | decide | (simp; done) | (simp; omega))) ?_; rintro q outs ⟨x, d, hx, rfl, rfl⟩)
      | (refine Met.by (g := 13) (some_ct _ _ _ (by omega) (by omega)) ?_; rintro q outs ⟨l, d, ⟨hg, hl⟩, rfl, rfl⟩)
      | (refine Met.by (g := 14) (apply_ct _ _ (by omega) (by assumption) (by omega)) ?_; rintro q outs ⟨rfl, rfl⟩)
      | (refine Met.by (g := 15) (edit_ct _ _ (by first | omega | decide | (simp; done) | (simp; omega)) (by first | omega | decide | (simp; done) | (simp; omega))) ?_; rintro q outs ⟨rfl, rfl⟩)
      | (refine Met.by (g := 16) (proves_ct _ _ _ (by omega) (by assumption) (by omega)) ?_; rintro q outs ⟨rfl, rfl⟩)
      | (refine Vc.mk ?_ (Step.out ?_))
  · exact absurd (hg.e (by omega) (by have := outA_len hg; omega)).1 h
end Kx
