/-
  The statements on names: twice.
  No condition beyond those written in each theorem.
-/
import Derived.Test.YtmngcdfpanhmoaaGreatDoorKA5
import Derived.Test.YtmngcdfpanhmoaaGreatDoorFD
open Go Sx Go.Proofs
set_option linter.unusedSimpArgs false
set_option linter.unusedVariables false
namespace Kx
end Kx
/-
  The statements on names: nicknames.
-/
open Go Sx Go.Proofs
set_option linter.unusedSimpArgs false
set_option linter.unusedVariables false
namespace Kx
end Kx
/-
  The statements on names: order.
-/
open Go Sx Go.Proofs
set_option linter.unusedSimpArgs false
set_option linter.unusedVariables false
namespace Kx
end Kx
/-
  The statements on names: what is dropped.
-/
open Go Sx Go.Proofs
set_option linter.unusedSimpArgs false
set_option linter.unusedVariables false
namespace Kx
theorem dr_endP {s o a : Str} {i : Nat} (hi : i ≤ s.length) (hn : ¬(i : Int) < s.length) (h2 : o.length ≤ 2 * i + 1) (h3 : foldedC s → DrI (s.take i) o) (ha1 : a.length ≤ 1) (ha2 : endB a = true) : (o ++ a).length ≤ 2 * s.length + 2 ∧ (foldedC s → (∀ y ∈ o ++ a, isPrn y = true) ∧ toks ((o ++ a).flatMap plainS) = toks s) := by
  refine ⟨by simp only [List.length_append]; omega, fun hf => ?_⟩
  have hp : ∀ y ∈ o ++ a, isPrn y = true := fun y hy => by
    rcases List.mem_append.1 hy with hy | hy
    · exact (h3 hf).prn y hy
    · simp only [endB, Bool.and_eq_true, List.all_eq_true] at ha2
      exact ha2.1 y hy
  have := ((h3 hf).done ha2).2
  rw [(rawL_prn _ hp).2, show i = s.length by omega, List.take_length] at this
  exact ⟨hp, this⟩
theorem dressP_ct (d : Dk) (s : Str) (hs : s.length ≤ 100000) : Ct Tryz.prog 106 [d.b, .str s] fun r outs => ∃ x d', (x.length ≤ 2 * s.length + 2 ∧ (foldedC s → (∀ y ∈ x, isPrn y = true) ∧ toks (x.flatMap plainS) = toks s)) ∧ r = .str x ∧ outs = [Dk.b d'] := by
  refine .some2 (.of_W (fn := Tryz.f106) hΓ hm Tryz.func106 [] [] (by kernel_rfl) (Step.out ?_))
  repeat' first
    | (refine Step.mk ?_; conv => whnf)
    | (refine Met.by (picksP_ct (fun s => s.length ≤ 1 ∧ endB s = true) _ [[], [], [32], [45]] (by decide +kernel) (by first | omega | decide | (simp; done) | (simp; omega)) (by first | omega | decide | (simp; done) | (simp; omega))) ?_; rintro q outs ⟨o, d, ⟨ho1, ho2⟩, rfl, rfl⟩)
    | (refine CallOK.io1F (g := 105) (Step.out ?_))
  refine CodeOK.loopW hΓ hm [] [] (by kernel_rfl) (α := Dk × Nat × Str) (fun z => [(0, .loc 0 0), (1, .str s), (5, .str z.2.2), (6, i64 z.2.1)]) (fun z => [(0, .var z.1.ls)]) 1 (fun z => z.2.1 ≤ s.length ∧ z.2.2.length ≤ 2 * z.2.1 + 1 ∧ (foldedC s → DrI (s.take z.2.1) z.2.2)) (fun z => s.length - z.2.1) ?_ ?_
  · refine Again.by (d, 0, o) ⟨Nat.zero_le _, by dsimp only; omega, fun _ => DrI.start ho2⟩ ?_
    repeat' first
      | (refine Step.mk ?_; conv => whnf)
      | (refine Vc.om ?_ ?_; first | omega | with_reducible rfl | with_reducible exact same_rfl)
      | (refine Vc.om ?_ ?_; (simp only [bytes_2, bytes_3, bytes_4, bytes_5, bytes_9, bytes_12, bytes_21, bytes_22, bytes_25, bytes_27, bytes_28, bytes_29, bytes_30, bytes_31, bytes_32, bytes_33, bytes_35, bytes_37, bytes_38, bytes_39, bytes_41, bytes_43, bytes_49, bytes_53, bytes_54, bytes_55, bytes_60, bytes_61, bytes_62, bytes_63, bytes_64, bytes_65, bytes_74, bytes_75, bytes_82, bytes_83, bytes_84, bytes_85, bytes_95, bytes_103, bytes_104, bytes_105, bytes_125, bytes_126, bytes_127, bytes_131, bytes_150, bytes_151, bytes_152, bytes_153, bytes_154, bytes_159, bytes_167, bytes_168, bytes_181, bytes_182, bytes_190, bytes_197, bytes_210, bytes_214, bytes_215, bytes_218, bytes_251, bytes_252, bytes_254, bytes_259, bytes_260, bytes_261, bytes_269, bytes_272, bytes_279, bytes_286, bytes_287, bytes_288, bytes_289, bytes_290, bytes_294, bytes_296, bytes_302, bytes_305, bytes_307, true_and, and_true] <;> omega))
      | with_reducible trivial
  · intro ⟨d, i, o⟩ ⟨h1, h2, h3⟩
    dsimp only at h1 h2 h3 ⊢
    repeat' first
      | (refine Step.mk ?_; conv => whnf)
      | (refine Vc.om ?_ ?_; first | omega | with_reducible rfl | with_reducible exact same_rfl)
      | (refine Vc.om ?_ ?_; (simp only [bytes_2, bytes_3, bytes_4, bytes_5, bytes_9, bytes_12, bytes_21, bytes_22, bytes_25, bytes_27, bytes_28, bytes_29, bytes_30, bytes_31, bytes_32, bytes_33, bytes_35, bytes_37, bytes_38, bytes_39, bytes_41, bytes_43, bytes_49, bytes_53, bytes_54, bytes_55, bytes_60, bytes_61, bytes_62, bytes_63, bytes_64, bytes_65, bytes_74, bytes_75, bytes_82, bytes_83, bytes_84, bytes_85, bytes_95, bytes_103, bytes_104, bytes_105, bytes_125, bytes_126, bytes_127, bytes_131, bytes_150, bytes_151, bytes_152, bytes_153, bytes_154, bytes_159, bytes_167, bytes_168, bytes_181, bytes_182, bytes_190, bytes_197, bytes_210, bytes_214, bytes_215, bytes_218, bytes_251, bytes_252, bytes_254, bytes_259, bytes_260, bytes_261, bytes_269, bytes_272, bytes_279, bytes_286, bytes_287, bytes_288, bytes_289, bytes_290, bytes_294, bytes_296, bytes_302, bytes_305, bytes_307, true_and, and_true] <;> omega))
      | with_reducible trivial
      | (refine Wr.i64 ?_ ?_; omega)
      | (refine Wr.u8 ?_ ?_; omega)
      | (refine Met.by (picksP_ct (fun s => s.length ≤ 2 ∧ sepB s = true) _ [[32], [45], [44, 32], [46], [32, 32], [47]] (by decide +kernel) (by first | omega | decide | (simp; done) | (simp; omega)) (by first | omega | decide | (simp; done) | (simp; omega))) ?_; rintro q outs ⟨a, d, ⟨ha1, ha2⟩, rfl, rfl⟩)
      | (refine Met.by (picksP_ct (fun s => s.length ≤ 1 ∧ endB s = true) _ [[], [], [32], [46]] (by decide +kernel) (by first | omega | decide | (simp; done) | (simp; omega)) (by first | omega | decide | (simp; done) | (simp; omega))) ?_; rintro q outs ⟨a, d, ⟨ha1, ha2⟩, rfl, rfl⟩)
      | (refine Lf.by [(s.getD (i : Int).toNat 0) - 32] ⟨rfl, one_dn ‹_› ‹_›⟩ ?_)
      | (refine Lf.by [(s.getD (i : Int).toNat 0)] ⟨rfl, one_by _⟩ ?_)
      | (refine Vc.om ?_ ?_; focus ((simp only [List.length_append, List.length_cons, List.length_nil]; omega); done))
      | (refine Again.by (d, i + 1, o ++ a) (dr_sep (by omega) (by omega) h2 h3 ha1 ha2) ?_)
      | (refine Br.d (fun h => ?_) (fun h => ?_))
      | (refine Br.bnot ?_)
      | (refine Br.mk (fun h => Step.out ?_) (fun h => Step.out ?_))
      | (refine CallOK.io1 (g := 25) (Step.out ?_))
      | (refine CallOK.io1F (g := 105) (Step.out ?_))
      | (refine Met.by (g := 25) (one_ct _ _) ?_; rintro q outs ⟨x, d, hx, rfl, rfl⟩)
    all_goals try (first
      | (refine Again.by (d, i + 1, o ++ [(s.getD (i : Int).toNat 0) - 32]) (dr_ch ((s.getD (i : Int).toNat 0) - 32) (by omega) (fun _ => ⟨(low_up (s.getD (i : Int).toNat 0) (by omega) (by omega)).1, (low_up (s.getD (i : Int).toNat 0) (by omega) (by omega)).2.1⟩) h2 h3).1 ?_; ((try dsimp only); repeat' first | (refine Step.mk ?_; conv => whnf) | (refine Vc.om ?_ ?_; first | omega | with_reducible rfl | with_reducible exact same_rfl) | with_reducible trivial | with_reducible rfl); done)
      | (refine Again.by (d, i + 1, o ++ [(s.getD (i : Int).toNat 0) - 32] ++ [39]) (dr_ch ((s.getD (i : Int).toNat 0) - 32) (by omega) (fun _ => ⟨(low_up (s.getD (i : Int).toNat 0) (by omega) (by omega)).1, (low_up (s.getD (i : Int).toNat 0) (by omega) (by omega)).2.1⟩) h2 h3).2 ?_; ((try dsimp only); repeat' first | (refine Step.mk ?_; conv => whnf) | (refine Vc.om ?_ ?_; first | omega | with_reducible rfl | with_reducible exact same_rfl) | with_reducible trivial | with_reducible rfl); done)
      | (refine Again.by (d, i + 1, o ++ [(s.getD (i : Int).toNat 0)]) (dr_ch (s.getD (i : Int).toNat 0) (by omega) (plain_an (s.getD (i : Int).toNat 0)) h2 h3).1 ?_; ((try dsimp only); repeat' first | (refine Step.mk ?_; conv => whnf) | (refine Vc.om ?_ ?_; first | omega | with_reducible rfl | with_reducible exact same_rfl) | with_reducible trivial | with_reducible rfl); done)
      | (refine Again.by (d, i + 1, o ++ [(s.getD (i : Int).toNat 0)] ++ [39]) (dr_ch (s.getD (i : Int).toNat 0) (by omega) (plain_an (s.getD (i : Int).toNat 0)) h2 h3).2 ?_; ((try dsimp only); repeat' first | (refine Step.mk ?_; conv => whnf) | (refine Vc.om ?_ ?_; first | omega | with_reducible rfl | with_reducible exact same_rfl) | with_reducible trivial | with_reducible rfl); done))
    · refine Lf2.by (o ++ a) d (dr_endP h1 ‹_› h2 h3 ha1 ha2) ?_
      repeat' first
        | (refine Step.mk ?_; conv => whnf)
        | with_reducible trivial
        | with_reducible exact same_rfl
        | (refine Two.mk (Step.out ?_) (Step.out ?_))
/-- A rich text: of it is kept what is kept of the tokens T. -/
structure Rich (r : Ru) (T : List Str) (w : Str) : Prop where
  prn : ∀ y ∈ w, isPrn y = true
  kp : keepL r (toks (w.flatMap plainS)) = keepL r T
end Kx
