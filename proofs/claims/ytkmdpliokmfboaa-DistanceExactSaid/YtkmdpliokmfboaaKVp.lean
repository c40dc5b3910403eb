/-
  Texts bent; the sanity check.
  No condition beyond those written in each theorem.
-/
import Derived.Test.YtkmdpliokmfboaaKVo
open Go Sx Go.Proofs
set_option linter.unusedSimpArgs false
set_option linter.unusedVariables false
namespace Kx
theorem outA_len {a : Str} {l : List Cg} (h : Good a l) : (outA a l).length ≤ a.length + l.length := by
  obtain ⟨h1, h2, _⟩ := runA_at h.o h.f l.length (Nat.le_refl _)
  rw [List.take_of_length_le (Nat.le_refl _)] at h1 h2
  rw [outA, List.length_append, List.length_drop]; omega
theorem appE_at (a : Str) (l : List Cg) : 0 ≤ appE a l ∧ appE a l ≤ 12 := by unfold appE; (repeat' split) <;> omega
theorem bent_ct (d : Dk) (s : Str) (m : Int) (hs : s.length ≤ 54) (hm' : 0 ≤ m ∧ m ≤ 10) : Ct Try.prog 17 [d.b, .str s, i64 m] fun r outs => ∃ (t : Str) (d' : Dk), (t.length : Int) ≤ s.length + m ∧ r = .str t ∧ outs = [Dk.b d'] := by
  refine .some2 (.of_W (fn := Try.f17) hΓ hm Try.func17 [] [] (by kernel_rfl) (Step.out ?_))
  repeat' first
    | (refine Step.mk ?_; conv => whnf)
    | (refine Vc.om ?_ ?_; first | omega | with_reducible rfl | with_reducible exact same_rfl | (simp only [bytes_2, bytes_3, bytes_4, bytes_5, bytes_9, bytes_12, bytes_21, bytes_22, bytes_25, bytes_29, bytes_31, bytes_40, bytes_41, bytes_43, bytes_45, bytes_46, bytes_47, bytes_48, bytes_49, bytes_52, bytes_53, bytes_60, bytes_63, bytes_67, bytes_75, bytes_79, true_and, and_true] <;> omega))
    | (refine NilB.mk fun b hb => Step.out ?_)
    | with_reducible trivial
    | exact noSh_bool _
    | exact noSh_lit _
    | exact noSh_int _ _
    | exact noSh_str _
    | with_reducible rfl
    | with_reducible exact same_rfl
    | (refine Wr.i64 ?_ ?_; omega)
    | (refine Wr.u8 ?_ ?_; omega)
    | (refine Wr.i32 ?_ ?_; omega)
    | (with_reducible refine Br.tt ?_)
    | (with_reducible refine Br.ff ?_)
    | (refine Br.dT ?_ ?_; omega)
    | (refine Br.dF ?_ ?_; omega)
    | (refine Met.by (rapply_ct s l (by omega) (Good.ok hg (by omega)) (by omega)) ?_; rintro q outs ⟨rfl, rfl⟩)
    | (refine Br.d (fun h => ?_) (fun h => ?_))
    | (refine Br.swap ?_)
    | (refine Br.bnot ?_)
    | (refine Br.mk (fun h => Step.out ?_) (fun h => Step.out ?_))
    | (refine Two.mk (Step.out ?_) (Step.out ?_))
    | (refine Cp.mk fun q hq => Step.out ?_)
    | (refine Ovl.mk (by assumption) (Step.out ?_))
    | (refine CallOK.io1 (g := 13) (Step.out ?_))
    | (refine CallOK.of_ct (Step.out ?_))
    | (refine CallQ.of_ct (Step.out ?_))
    | (refine Met.by (g := 13) (some_ct _ _ _ (by omega) (by omega)) ?_; rintro q outs ⟨l, d, ⟨hg, hl⟩, rfl, rfl⟩)
    | (refine Met.by (g := 24) (rapply_ct _ _ (by omega) (by assumption) (by omega)) ?_; rintro q outs ⟨rfl, rfl⟩)
    | (refine Vc.mk ?_ (Step.out ?_))
  have h1 := outA_len hg
  have h2 := hg.e (by omega) (by omega)
  refine Lf2.by (appS s l) d (by rw [h2.2]; omega) ?_
  repeat' first
    | (refine Step.mk ?_; conv => whnf)
    | (refine Vc.om ?_ ?_; first | omega | with_reducible rfl | with_reducible exact same_rfl | (simp only [bytes_2, bytes_3, bytes_4, bytes_5, bytes_9, bytes_12, bytes_21, bytes_22, bytes_25, bytes_29, bytes_31, bytes_40, bytes_41, bytes_43, bytes_45, bytes_46, bytes_47, bytes_48, bytes_49, bytes_52, bytes_53, bytes_60, bytes_63, bytes_67, bytes_75, bytes_79, true_and, and_true] <;> omega))
    | (refine NilB.mk fun b hb => Step.out ?_)
    | with_reducible trivial
    | exact noSh_bool _
    | exact noSh_lit _
    | exact noSh_int _ _
    | exact noSh_str _
    | with_reducible rfl
    | with_reducible exact same_rfl
    | (refine Wr.i64 ?_ ?_; omega)
    | (refine Wr.u8 ?_ ?_; omega)
    | (refine Wr.i32 ?_ ?_; omega)
    | (with_reducible refine Br.tt ?_)
    | (with_reducible refine Br.ff ?_)
    | (refine Br.dT ?_ ?_; omega)
    | (refine Br.dF ?_ ?_; omega)
    | (refine Br.d (fun h => ?_) (fun h => ?_))
    | (refine Br.swap ?_)
    | (refine Br.bnot ?_)
    | (refine Br.mk (fun h => Step.out ?_) (fun h => Step.out ?_))
    | (refine Two.mk (Step.out ?_) (Step.out ?_))
    | (refine Cp.mk fun q hq => Step.out ?_)
    | (refine Ovl.mk (by assumption) (Step.out ?_))
    | (refine CallOK.io1 (g := 13) (Step.out ?_))
    | (refine CallOK.of_ct (Step.out ?_))
    | (refine CallQ.of_ct (Step.out ?_))
    | (refine Met.by (g := 13) (some_ct _ _ _ (by omega) (by omega)) ?_; rintro q outs ⟨l, d, ⟨hg, hl⟩, rfl, rfl⟩)
    | (refine Met.by (g := 24) (rapply_ct _ _ (by omega) (by assumption) (by omega)) ?_; rintro q outs ⟨rfl, rfl⟩)
    | (refine Vc.mk ?_ (Step.out ?_))
def mar : Str := [109, 97, 114, 116, 97]
def mat : Str := [109, 97, 116, 114, 97]
theorem d1 : dist mar mat = 1 := by decide +kernel
theorem d3 : dist [99, 97] [97, 98, 99] = 3 := by decide +kernel
theorem s1 : script mar mat = [⟨4, 2, 0⟩] := by decide +kernel
theorem ed1 : ed mar mat = 1 := by rw [ed, d1]; decide
theorem er1 : errL mar mat = 0 := by decide
theorem ed3 : ed [99, 97] [97, 98, 99] = 3 := by rw [ed, d3]; decide
theorem er3 : errL [99, 97] [97, 98, 99] = 0 := by decide
theorem sl1 : scriptL mar mat = [⟨4, 2, 0⟩] := by rw [scriptL, s1]; decide
theorem pv1 : prvB mar mat [⟨4, 2, 0⟩] = true := by decide +kernel
theorem edA_ct : Ct Try.prog 15 [.str mar, .str mat] fun r outs => r = .tup [i64 1, i64 0] ∧ outs = [] := by
  have := edit_ct mar mat (by decide) (by decide)
  rwa [ed1, er1] at this
theorem edB_ct : Ct Try.prog 15 [.str [99, 97], .str [97, 98, 99]] fun r outs => r = .tup [i64 3, i64 0] ∧ outs = [] := by
  have := edit_ct [99, 97] [97, 98, 99] (by decide) (by decide)
  rwa [ed3, er3] at this
theorem scA_ct : Ct Try.prog 18 [.str mar, .str mat] fun r outs => r = .tup [cgs [⟨4, 2, 0⟩], i64 0] ∧ outs = [] := by
  have := script_ct mar mat (by decide) (by decide)
  rwa [sl1, er1] at this
theorem prA_ct : Ct Try.prog 16 [.str mar, .str mat, cgs [⟨4, 2, 0⟩]] fun r outs => r = .bool true ∧ outs = [] := by
  have := proves_ct mar mat [⟨4, 2, 0⟩] (by decide) (fun c hc => by rw [List.mem_singleton.1 hc]; unfold Cg.ok; decide) (by decide)
  rwa [pv1] at this
theorem awake_ct : Ct Try.prog 8 [] fun r outs => r = .bool true ∧ outs = [] := by
  refine .det (.of_W (fn := Try.f8) hΓ hm Try.func8 [] [] (by kernel_rfl) (Step.out ?_))
  repeat' first
    | (refine Step.mk ?_; conv => whnf)
    | (refine Vc.om ?_ ?_; first | omega | with_reducible rfl | with_reducible exact same_rfl | (simp only [bytes_2, bytes_3, bytes_4, bytes_5, bytes_9, bytes_12, bytes_21, bytes_22, bytes_25, bytes_29, bytes_31, bytes_40, bytes_41, bytes_43, bytes_45, bytes_46, bytes_47, bytes_48, bytes_49, bytes_52, bytes_53, bytes_60, bytes_63, bytes_67, bytes_75, bytes_79, true_and, and_true] <;> omega))
    | (refine NilB.mk fun b hb => Step.out ?_)
    | with_reducible trivial
    | exact noSh_bool _
    | exact noSh_lit _
    | exact noSh_int _ _
    | exact noSh_str _
    | with_reducible rfl
    | with_reducible exact same_rfl
    | (refine Wr.i64 ?_ ?_; omega)
    | (refine Wr.u8 ?_ ?_; omega)
    | (refine Wr.i32 ?_ ?_; omega)
    | (with_reducible refine Br.tt ?_)
    | (with_reducible refine Br.ff ?_)
    | (refine Br.dT ?_ ?_; omega)
    | (refine Br.dF ?_ ?_; omega)
    | (refine Met.by edA_ct ?_; rintro q outs ⟨rfl, rfl⟩)
    | (refine Met.by edB_ct ?_; rintro q outs ⟨rfl, rfl⟩)
    | (refine Met.by scA_ct ?_; rintro q outs ⟨rfl, rfl⟩)
    | (refine Met.by prA_ct ?_; rintro q outs ⟨rfl, rfl⟩)
    | (refine Br.d (fun h => ?_) (fun h => ?_))
    | (refine Br.swap ?_)
    | (refine Br.bnot ?_)
    | (refine Br.mk (fun h => Step.out ?_) (fun h => Step.out ?_))
    | (refine Two.mk (Step.out ?_) (Step.out ?_))
    | (refine Cp.mk fun q hq => Step.out ?_)
    | (refine Ovl.mk (by assumption) (Step.out ?_))
    | (refine CallOK.of_ct (Step.out ?_))
    | (refine CallQ.of_ct (Step.out ?_))
    | (refine Met.by (g := 15) (edit_ct _ _ (by first | omega | decide | (simp; done) | (simp; omega)) (by first | omega | decide | (simp; done) | (simp; omega))) ?_; rintro q outs ⟨rfl, rfl⟩)
    | (refine Met.by (g := 16) (proves_ct _ _ _ (by omega) (by assumption) (by omega)) ?_; rintro q outs ⟨rfl, rfl⟩)
    | (refine Met.by (g := 18) (script_ct _ _ (by first | omega | decide | (simp; done) | (simp; omega)) (by first | omega | decide | (simp; done) | (simp; omega))) ?_; rintro q outs ⟨rfl, rfl⟩)
    | (refine Vc.mk ?_ (Step.out ?_))
end Kx
