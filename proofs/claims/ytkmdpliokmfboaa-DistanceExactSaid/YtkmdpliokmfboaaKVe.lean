/-
  Changes carried out; proofs; similarity.
  No condition beyond those written in each theorem.
-/
import Derived.Test.YtkmdpliokmfboaaKVd
open Go Sx Go.Proofs
set_option linter.unusedSimpArgs false
set_option linter.unusedVariables false
namespace Kx
def sim (a b : Str) : Int := if 64 < a.length ∨ 64 < b.length then 0 else if max (a.length : Int) b.length = 0 then 1000 else (1000 * (max (a.length : Int) b.length - ed a b)).tdiv (max (a.length : Int) b.length)
theorem dist_le (a b : Str) : dist a b ≤ max a.length b.length := by have := ds_max a.reverse b.reverse; simpa [dist] using this
theorem ed_bd (a b : Str) : 0 ≤ ed a b ∧ ed a b ≤ 64 := by
  have := dist_le a b
  unfold ed; split <;> omega
theorem errL_at (a b : Str) : (errL a b = 1 ∧ (64 < a.length ∨ 64 < b.length)) ∨ (errL a b = 0 ∧ a.length ≤ 64 ∧ b.length ≤ 64) := by unfold errL; split <;> omega
theorem quo_bd {M e : Int} (h : 0 ≤ e ∧ e ≤ M) (hM : M ≠ 0) : 0 ≤ (1000 * (M - e)).tdiv M ∧ (1000 * (M - e)).tdiv M ≤ 1000 := by
  rw [Int.tdiv_eq_ediv_of_nonneg (by omega)]
  refine ⟨Int.ediv_nonneg (by omega) (by omega), ?_⟩
  have := Int.ediv_le_ediv (c := M) (by omega) (show 1000 * (M - e) ≤ 1000 * M by omega)
  rwa [Int.mul_ediv_cancel _ hM] at this
theorem sim_bd (a b : Str) (h : errL a b = 0) (hM : ¬max (a.length : Int) b.length = 0) : 0 ≤ (1000 * (max (a.length : Int) b.length - ed a b)).tdiv (max (a.length : Int) b.length) ∧ (1000 * (max (a.length : Int) b.length - ed a b)).tdiv (max (a.length : Int) b.length) ≤ 1000 := by
  have h2 := errL_at a b
  have h3 := dist_le a b
  refine quo_bd ?_ hM
  rw [ed, if_neg (by omega)]; omega
theorem similar_ct (a b : Str) (ha : a.length ≤ 1000000000) (hb : b.length ≤ 1000000000) : Ct Try.prog 21 [.str a, .str b] fun r outs => r = .tup [i64 (sim a b), i64 (errL a b)] ∧ outs = [] := by
  have h1 := ed_bd a b
  have h2 := errL_at a b
  have h3 := sim_bd a b
  refine .det (.of_W (fn := Try.f21) hΓ hm Try.func21 [] [] (by kernel_rfl) (Step.out ?_))
  repeat' first
    | (refine Step.mk ?_; conv => whnf)
    | (refine Vc.om ?_ ?_; first | omega | with_reducible rfl | with_reducible exact same_rfl | (simp only [bytes_2, bytes_3, bytes_4, bytes_5, bytes_9, bytes_12, bytes_21, bytes_22, bytes_25, bytes_29, bytes_31, bytes_40, bytes_41, bytes_43, bytes_45, bytes_46, bytes_47, bytes_48, bytes_49, bytes_52, bytes_53, bytes_60, bytes_63, bytes_67, bytes_75, bytes_79, true_and, and_true] <;> omega))
    | (refine NilB.mk fun b hb => Step.out ?_)
    | with_reducible trivial
    | exact noSh_bool _
    | exact noSh_lit _
    | exact noSh_int _ _
    | exact noSh_str _
    | with_reducible rfl
    | with_reducible exact same_rfl
    | (refine Wr.i64 ?_ ?_; omega)
    | (refine Wr.u8 ?_ ?_; omega)
    | (refine Wr.i32 ?_ ?_; omega)
    | (with_reducible refine Br.tt ?_)
    | (with_reducible refine Br.ff ?_)
    | (refine Br.dT ?_ ?_; omega)
    | (refine Br.dF ?_ ?_; omega)
    | (refine Vc.om ?_ ?_; focus ((have := h3 ‹_› ‹_›; omega); done))
    | (refine Wr.i64 ?_ ?_; focus ((have := h3 ‹_› ‹_›; omega); done))
    | (refine Wr.u8 ?_ ?_; focus ((have := h3 ‹_› ‹_›; omega); done))
    | (refine Br.dT ?_ ?_; focus ((have := h3 ‹_› ‹_›; omega); done))
    | (refine Br.dF ?_ ?_; focus ((have := h3 ‹_› ‹_›; omega); done))
    | (refine Br.d (fun h => ?_) (fun h => ?_))
    | (refine Br.swap ?_)
    | (refine Br.bnot ?_)
    | (refine Br.mk (fun h => Step.out ?_) (fun h => Step.out ?_))
    | (refine Two.mk (Step.out ?_) (Step.out ?_))
    | (refine Cp.mk fun q hq => Step.out ?_)
    | (refine Ovl.mk (by assumption) (Step.out ?_))
    | (refine CallOK.of_ct (Step.out ?_))
    | (refine CallQ.of_ct (Step.out ?_))
    | (refine Met.by (g := 15) (edit_ct _ _ (by first | omega | decide | (simp; done) | (simp; omega)) (by first | omega | decide | (simp; done) | (simp; omega))) ?_; rintro q outs ⟨rfl, rfl⟩)
    | (refine Vc.mk ?_ (Step.out ?_))
  · rw [sim, if_neg (by omega), if_pos ‹_›]
  · omega
  · rw [sim, if_neg (by omega), if_neg ‹_›]
  · omega
  · rw [sim, if_pos (by omega)]
theorem rsimilar_ct (a b : Str) (ha : a.length ≤ 1000000000) (hb : b.length ≤ 1000000000) : Ct Try.prog 22 [.str a, .str b] fun r outs => r = .tup [i64 (sim a b), i64 (errL a b)] ∧ outs = [] := by
  have h1 := ed_bd a b
  have h2 := errL_at a b
  have h3 := sim_bd a b
  refine .det (.of_W (fn := Try.f22) hΓ hm Try.func22 [] [] (by kernel_rfl) (Step.out ?_))
  repeat' first
    | (refine Step.mk ?_; conv => whnf)
    | (refine Vc.om ?_ ?_; first | omega | with_reducible rfl | with_reducible exact same_rfl | (simp only [bytes_2, bytes_3, bytes_4, bytes_5, bytes_9, bytes_12, bytes_21, bytes_22, bytes_25, bytes_29, bytes_31, bytes_40, bytes_41, bytes_43, bytes_45, bytes_46, bytes_47, bytes_48, bytes_49, bytes_52, bytes_53, bytes_60, bytes_63, bytes_67, bytes_75, bytes_79, true_and, and_true] <;> omega))
    | (refine NilB.mk fun b hb => Step.out ?_)
    | with_reducible trivial
    | exact noSh_bool _
    | exact noSh_lit _
    | exact noSh_int _ _
    | exact noSh_str _
    | with_reducible rfl
    | with_reducible exact same_rfl
    | (refine Wr.i64 ?_ ?_; omega)
    | (refine Wr.u8 ?_ ?_; omega)
    | (refine Wr.i32 ?_ ?_; omega)
    | (with_reducible refine Br.tt ?_)
    | (with_reducible refine Br.ff ?_)
    | (refine Br.dT ?_ ?_; omega)
    | (refine Br.dF ?_ ?_; omega)
    | (refine Vc.om ?_ ?_; focus ((have := h3 ‹_› ‹_›; omega); done))
    | (refine Wr.i64 ?_ ?_; focus ((have := h3 ‹_› ‹_›; omega); done))
    | (refine Wr.u8 ?_ ?_; focus ((have := h3 ‹_› ‹_›; omega); done))
    | (refine Br.dT ?_ ?_; focus ((have := h3 ‹_› ‹_›; omega); done))
    | (refine Br.dF ?_ ?_; focus ((have := h3 ‹_› ‹_›; omega); done))
    | (refine Br.d (fun h => ?_) (fun h => ?_))
    | (refine Br.swap ?_)
    | (refine Br.bnot ?_)
    | (refine Br.mk (fun h => Step.out ?_) (fun h => Step.out ?_))
    | (refine Two.mk (Step.out ?_) (Step.out ?_))
    | (refine Cp.mk fun q hq => Step.out ?_)
    | (refine Ovl.mk (by assumption) (Step.out ?_))
    | (refine CallOK.of_ct (Step.out ?_))
    | (refine CallQ.of_ct (Step.out ?_))
    | (refine Met.by (g := 19) (redit_ct _ _ (by first | omega | decide | (simp; done) | (simp; omega)) (by first | omega | decide | (simp; done) | (simp; omega))) ?_; rintro q outs ⟨rfl, rfl⟩)
    | (refine Vc.mk ?_ (Step.out ?_))
  · rw [sim, if_neg (by omega), if_pos ‹_›]
  · omega
  · rw [sim, if_neg (by omega), if_neg ‹_›]
  · omega
  · rw [sim, if_pos (by omega)]
theorem clo_ct (c : Cg) (a : Str) (hc : c.ok) (ha : a.length ≤ 1000000000) : Ct Try.prog 32 [c.d, .ref [.str a]] fun r outs => r = .bool (!fitB c a.length) ∧ outs = [] := by
  refine .det (.of_W (fn := Try.f32) hΓ hm Try.func32 [] [] (by kernel_rfl) (Step.out ?_))
  repeat' first
    | (refine Step.mk ?_; conv => whnf)
    | (refine Vc.om ?_ ?_; first | omega | with_reducible rfl | with_reducible exact same_rfl | (simp only [bytes_2, bytes_3, bytes_4, bytes_5, bytes_9, bytes_12, bytes_21, bytes_22, bytes_25, bytes_29, bytes_31, bytes_40, bytes_41, bytes_43, bytes_45, bytes_46, bytes_47, bytes_48, bytes_49, bytes_52, bytes_53, bytes_60, bytes_63, bytes_67, bytes_75, bytes_79, true_and, and_true] <;> omega))
    | (refine NilB.mk fun b hb => Step.out ?_)
    | with_reducible trivial
    | exact noSh_bool _
    | exact noSh_lit _
    | exact noSh_int _ _
    | exact noSh_str _
    | with_reducible rfl
    | with_reducible exact same_rfl
    | (refine Wr.i64 ?_ ?_; omega)
    | (refine Wr.u8 ?_ ?_; omega)
    | (refine Wr.i32 ?_ ?_; omega)
    | (with_reducible refine Br.tt ?_)
    | (with_reducible refine Br.ff ?_)
    | (refine Br.dT ?_ ?_; omega)
    | (refine Br.dF ?_ ?_; omega)
    | (refine Br.d (fun h => ?_) (fun h => ?_))
    | (refine Br.swap ?_)
    | (refine Br.bnot ?_)
    | (refine Br.mk (fun h => Step.out ?_) (fun h => Step.out ?_))
    | (refine Two.mk (Step.out ?_) (Step.out ?_))
    | (refine Cp.mk fun q hq => Step.out ?_)
    | (refine Ovl.mk (by assumption) (Step.out ?_))
    | (refine CallOK.of_ct (Step.out ?_))
    | (refine CallQ.of_ct (Step.out ?_))
    | (refine Met.by (g := 33) (fits_ct _ _ (by assumption) (by omega)) ?_; rintro q outs ⟨rfl, rfl⟩)
    | (refine Vc.mk ?_ (Step.out ?_))
  all_goals first
    | trivial
    | exact hb h
    | with_reducible rfl
    | with_reducible exact same_rfl
    | omega
    | ((cases hq : fitB c a.length <;> simp_all; done))
/-- Where the first change stands that does not fit. -/
def badI (a : Str) : List Cg → Int → Int
  | [], _ => -1
  | c :: l, k => if fitB c a.length = false then k else badI a l (k + 1)
theorem badI_step (a : Str) (l : List Cg) (k : Int) (i : Nat) (h : i < l.length) : badI a (l.drop i) k = if fitB (l.getD i Cg.z) a.length = false then k else badI a (l.drop (i + 1)) (k + 1) := by
  rw [drop_step l Cg.z i h]; rfl
theorem badI_iff (a : Str) : ∀ (l : List Cg) (k : Int), 0 ≤ k → (badI a l k < 0 ↔ l.all (fun c => fitB c a.length) = true) ∧ badI a l k ≤ k + l.length
  | [], k, h => by simp [badI]; omega
  | c :: l, k, h => by
    have ih := badI_iff a l (k + 1) (by omega)
    simp only [badI]
    cases hf : fitB c a.length with
    | false => simp [hf]; omega
    | true =>
      simp only [List.all_cons, hf, Bool.true_and, if_neg (show ¬(true = false) by simp)]
      exact ⟨ih.1, by simp only [List.length_cons]; omega⟩
theorem indexf_ct (l : List Cg) (a : Str) (hl : l.length ≤ 1000000) (hc : ∀ c ∈ l, c.ok) (ha : a.length ≤ 1000000000) : Ct Try.prog 44 [cgs l, .fn 32 [.ref [.str a]]] fun r outs => r = i64 (badI a l 0) ∧ outs = [] := by
  refine .det (.of_W (fn := Try.f44) hΓ hm Try.func44 [] [] (by kernel_rfl) (Step.out ?_))
  repeat' first
    | (refine Step.mk ?_; conv => whnf)
    | (refine Vc.om ?_ ?_; first | omega | with_reducible rfl | with_reducible exact same_rfl | (simp only [bytes_2, bytes_3, bytes_4, bytes_5, bytes_9, bytes_12, bytes_21, bytes_22, bytes_25, bytes_29, bytes_31, bytes_40, bytes_41, bytes_43, bytes_45, bytes_46, bytes_47, bytes_48, bytes_49, bytes_52, bytes_53, bytes_60, bytes_63, bytes_67, bytes_75, bytes_79, true_and, and_true] <;> omega))
    | (refine NilB.mk fun b hb => Step.out ?_)
    | with_reducible trivial
    | exact noSh_bool _
    | exact noSh_lit _
    | exact noSh_int _ _
    | exact noSh_str _
    | with_reducible rfl
    | with_reducible exact same_rfl
    | (refine Wr.i64 ?_ ?_; omega)
    | (refine Wr.u8 ?_ ?_; omega)
    | (refine Wr.i32 ?_ ?_; omega)
    | (with_reducible refine Br.tt ?_)
    | (with_reducible refine Br.ff ?_)
    | (refine Br.dT ?_ ?_; omega)
    | (refine Br.dF ?_ ?_; omega)
    | (refine Br.d (fun h => ?_) (fun h => ?_))
    | (refine Br.swap ?_)
    | (refine Br.bnot ?_)
    | (refine Br.mk (fun h => Step.out ?_) (fun h => Step.out ?_))
    | (refine Two.mk (Step.out ?_) (Step.out ?_))
    | (refine Cp.mk fun q hq => Step.out ?_)
    | (refine Ovl.mk (by assumption) (Step.out ?_))
    | (refine CallOK.of_ct (Step.out ?_))
    | (refine CallQ.of_ct (Step.out ?_))
    | (refine Vc.mk ?_ (Step.out ?_))
  refine CodeOK.loopW hΓ hm [] [] (by kernel_rfl) (α := Nat) (fun i => [(0, cgs l), (1, .fn 32 [.ref [.str a]]), (7, i64 l.length), (8, i64 i)]) (fun i => []) 0 (fun i => i ≤ l.length ∧ badI a l 0 = badI a (l.drop i) i) (fun i => l.length - i) ?_ ?_
  · refine Again.by 0 ⟨Nat.zero_le _, rfl⟩ ?_
    repeat' first
      | (refine Step.mk ?_; conv => whnf)
      | (refine Vc.om ?_ ?_; first | omega | with_reducible rfl | with_reducible exact same_rfl | (simp only [bytes_2, bytes_3, bytes_4, bytes_5, bytes_9, bytes_12, bytes_21, bytes_22, bytes_25, bytes_29, bytes_31, bytes_40, bytes_41, bytes_43, bytes_45, bytes_46, bytes_47, bytes_48, bytes_49, bytes_52, bytes_53, bytes_60, bytes_63, bytes_67, bytes_75, bytes_79, true_and, and_true] <;> omega))
      | (refine NilB.mk fun b hb => Step.out ?_)
      | with_reducible trivial
      | exact noSh_bool _
      | exact noSh_lit _
      | exact noSh_int _ _
      | exact noSh_str _
      | with_reducible rfl
      | with_reducible exact same_rfl
      | (refine Wr.i64 ?_ ?_; omega)
      | (refine Wr.u8 ?_ ?_; omega)
      | (refine Wr.i32 ?_ ?_; omega)
      | (with_reducible refine Br.tt ?_)
      | (with_reducible refine Br.ff ?_)
      | (refine Br.dT ?_ ?_; omega)
      | (refine Br.dF ?_ ?_; omega)
      | (refine Cho.l (Step.out ?_))
      | (exact ⟨rfl, rfl⟩)
      | (refine Br.d (fun h => ?_) (fun h => ?_))
      | (refine Br.swap ?_)
      | (refine Br.bnot ?_)
      | (refine Br.mk (fun h => Step.out ?_) (fun h => Step.out ?_))
      | (refine Two.mk (Step.out ?_) (Step.out ?_))
      | (refine Cp.mk fun q hq => Step.out ?_)
      | (refine Ovl.mk (by assumption) (Step.out ?_))
      | (refine CallOK.of_ct (Step.out ?_))
      | (refine CallQ.of_ct (Step.out ?_))
      | (refine Vc.mk ?_ (Step.out ?_))
  · intro i ⟨h1, h2⟩
    repeat' first
      | (refine Step.mk ?_; conv => whnf)
      | (refine Vc.om ?_ ?_; first | omega | with_reducible rfl | with_reducible exact same_rfl | (simp only [bytes_2, bytes_3, bytes_4, bytes_5, bytes_9, bytes_12, bytes_21, bytes_22, bytes_25, bytes_29, bytes_31, bytes_40, bytes_41, bytes_43, bytes_45, bytes_46, bytes_47, bytes_48, bytes_49, bytes_52, bytes_53, bytes_60, bytes_63, bytes_67, bytes_75, bytes_79, true_and, and_true] <;> omega))
      | (refine NilB.mk fun b hb => Step.out ?_)
      | with_reducible trivial
      | exact noSh_bool _
      | exact noSh_lit _
      | exact noSh_int _ _
      | exact noSh_str _
      | with_reducible rfl
      | with_reducible exact same_rfl
      | (refine Wr.i64 ?_ ?_; omega)
      | (refine Wr.u8 ?_ ?_; omega)
      | (refine Wr.i32 ?_ ?_; omega)
      | (with_reducible refine Br.tt ?_)
      | (with_reducible refine Br.ff ?_)
      | (refine Br.dT ?_ ?_; omega)
      | (refine Br.dF ?_ ?_; omega)
      | (refine Met.by (clo_ct (l.getD (i : Int).toNat Cg.z) a (ok_at (by assumption) _) (by omega)) ?_; rintro q outs ⟨rfl, rfl⟩)
      | (refine Br.d (fun h => ?_) (fun h => ?_))
      | (refine Br.swap ?_)
      | (refine Br.bnot ?_)
      | (refine Br.mk (fun h => Step.out ?_) (fun h => Step.out ?_))
      | (refine Two.mk (Step.out ?_) (Step.out ?_))
      | (refine Cp.mk fun q hq => Step.out ?_)
      | (refine Ovl.mk (by assumption) (Step.out ?_))
      | (refine CallOK.of_ct (Step.out ?_))
      | (refine CallQ.of_ct (Step.out ?_))
      | (refine Vc.mk ?_ (Step.out ?_))
    all_goals try simp only [Int.toNat_natCast] at *
    · refine Again.by (i + 1) ⟨⟨by omega, by rw [h2, badI_step a l i i (by omega), if_neg (by rw [show fitB (l.getD i Cg.z) a.length = true from decide_eq_true ‹_›]; simp)]; rfl⟩, by omega⟩ ?_
      repeat' first
        | (refine Step.mk ?_; conv => whnf)
        | (refine Vc.om ?_ ?_; first | omega | with_reducible rfl | with_reducible exact same_rfl | (simp only [bytes_2, bytes_3, bytes_4, bytes_5, bytes_9, bytes_12, bytes_21, bytes_22, bytes_25, bytes_29, bytes_31, bytes_40, bytes_41, bytes_43, bytes_45, bytes_46, bytes_47, bytes_48, bytes_49, bytes_52, bytes_53, bytes_60, bytes_63, bytes_67, bytes_75, bytes_79, true_and, and_true] <;> omega))
        | (refine NilB.mk fun b hb => Step.out ?_)
        | with_reducible trivial
        | exact noSh_bool _
        | exact noSh_lit _
        | exact noSh_int _ _
        | exact noSh_str _
        | with_reducible rfl
        | with_reducible exact same_rfl
        | (refine Wr.i64 ?_ ?_; omega)
        | (refine Wr.u8 ?_ ?_; omega)
        | (refine Wr.i32 ?_ ?_; omega)
        | (with_reducible refine Br.tt ?_)
        | (with_reducible refine Br.ff ?_)
        | (refine Br.dT ?_ ?_; omega)
        | (refine Br.dF ?_ ?_; omega)
        | (refine Cho.l (Step.out ?_))
        | (exact ⟨rfl, rfl⟩)
        | (refine Br.d (fun h => ?_) (fun h => ?_))
        | (refine Br.swap ?_)
        | (refine Br.bnot ?_)
        | (refine Br.mk (fun h => Step.out ?_) (fun h => Step.out ?_))
        | (refine Two.mk (Step.out ?_) (Step.out ?_))
        | (refine Cp.mk fun q hq => Step.out ?_)
        | (refine Ovl.mk (by assumption) (Step.out ?_))
        | (refine CallOK.of_ct (Step.out ?_))
        | (refine CallQ.of_ct (Step.out ?_))
        | (refine Vc.mk ?_ (Step.out ?_))
    · rw [h2, badI_step a l i i (by omega), if_pos (show fitB (l.getD i Cg.z) a.length = false from decide_eq_false ‹_›)]
    · rw [h2, List.drop_of_length_le (by omega)]; rfl
theorem contf_ct (l : List Cg) (a : Str) (hl : l.length ≤ 1000000) (hc : ∀ c ∈ l, c.ok) (ha : a.length ≤ 1000000000) : Ct Try.prog 31 [cgs l, .fn 32 [.ref [.str a]]] fun r outs => r = .bool (!l.all fun c => fitB c a.length) ∧ outs = [] := by
  have h1 := (badI_iff a l 0 (Int.le_refl _)).1
  refine .det (.of_W (fn := Try.f31) hΓ hm Try.func31 [] [] (by kernel_rfl) (Step.out ?_))
  repeat' first
    | (refine Step.mk ?_; conv => whnf)
    | (refine Vc.om ?_ ?_; first | omega | with_reducible rfl | with_reducible exact same_rfl | (simp only [bytes_2, bytes_3, bytes_4, bytes_5, bytes_9, bytes_12, bytes_21, bytes_22, bytes_25, bytes_29, bytes_31, bytes_40, bytes_41, bytes_43, bytes_45, bytes_46, bytes_47, bytes_48, bytes_49, bytes_52, bytes_53, bytes_60, bytes_63, bytes_67, bytes_75, bytes_79, true_and, and_true] <;> omega))
    | (refine NilB.mk fun b hb => Step.out ?_)
    | with_reducible trivial
    | exact noSh_bool _
    | exact noSh_lit _
    | exact noSh_int _ _
    | exact noSh_str _
    | with_reducible rfl
    | with_reducible exact same_rfl
    | (refine Wr.i64 ?_ ?_; omega)
    | (refine Wr.u8 ?_ ?_; omega)
    | (refine Wr.i32 ?_ ?_; omega)
    | (with_reducible refine Br.tt ?_)
    | (with_reducible refine Br.ff ?_)
    | (refine Br.dT ?_ ?_; omega)
    | (refine Br.dF ?_ ?_; omega)
    | (refine Br.d (fun h => ?_) (fun h => ?_))
    | (refine Br.swap ?_)
    | (refine Br.bnot ?_)
    | (refine Br.mk (fun h => Step.out ?_) (fun h => Step.out ?_))
    | (refine Two.mk (Step.out ?_) (Step.out ?_))
    | (refine Cp.mk fun q hq => Step.out ?_)
    | (refine Ovl.mk (by assumption) (Step.out ?_))
    | (refine CallOK.of_ct (Step.out ?_))
    | (refine CallQ.of_ct (Step.out ?_))
    | (refine Met.by (g := 44) (indexf_ct _ _ (by omega) (by assumption) (by omega)) ?_; rintro q outs ⟨rfl, rfl⟩)
    | (refine Vc.mk ?_ (Step.out ?_))
  cases hq : l.all (fun c => fitB c a.length) with
  | true => have := h1.2 hq; exact decide_eq_false (by omega)
  | false => exact decide_eq_true (by
    rw [hq] at h1
    rcases Int.lt_or_le (badI a l 0) 0 with h | h
    · exact absurd (h1.1 h) (by simp)
    · exact h)
/-- What a change puts in. -/
def chg (a : Str) (c : Cg) : Str := if c.k = 1 ∨ c.k = 3 then [UInt8.ofNat c.y.toNat] else if c.k = 4 then [a.getD (c.p + 1).toNat 0, a.getD c.p.toNat 0] else []
def stp (a : Str) (s : Str × Nat) (c : Cg) : Str × Nat := (s.1 ++ (a.take c.p.toNat).drop s.2 ++ chg a c, (c.p + wid c.k).toNat)
def runA (a : Str) (l : List Cg) : Str × Nat := l.foldl (stp a) ([], 0)
def outA (a : Str) (l : List Cg) : Str := (runA a l).1 ++ a.drop (runA a l).2
def appE (a : Str) (l : List Cg) : Int := if 64 < a.length then 1 else if ordB l = false then 12 else if l.all (fun c => fitB c a.length) = false then 2 else if 128 < (outA a l).length then 1 else 0
def appS (a : Str) (l : List Cg) : Str := if appE a l = 0 then outA a l else []
theorem runA_step (a : Str) (l : List Cg) (i : Nat) (h : i < l.length) : runA a (l.take (i + 1)) = stp a (runA a (l.take i)) (l.getD i Cg.z) := by
  rw [runA, take_step l Cg.z i h, List.foldl_append]; rfl
theorem fit_at {a : Str} {l : List Cg} (h : l.all (fun c => fitB c a.length) = true) {i : Nat} (hi : i < l.length) : fitP (l.getD i Cg.z) a.length :=
  of_decide_eq_true (List.all_eq_true.1 h _ (getD_in hi))
theorem chg_len (a : Str) (c : Cg) : (chg a c).length ≤ wid c.k + 1 := by
  unfold chg wid; (repeat' split) <;> simp <;> omega
/-- Where the work stands behind i changes. -/
theorem runA_at {a : Str} {l : List Cg} (ho : ordB l = true) (hf : l.all (fun c => fitB c a.length) = true) : ∀ i, i ≤ l.length →
    (runA a (l.take i)).2 ≤ a.length ∧ (runA a (l.take i)).1.length ≤ (runA a (l.take i)).2 + i ∧ (i < l.length → ((runA a (l.take i)).2 : Int) ≤ (l.getD i Cg.z).p)
  | 0, _ => ⟨by simp [runA], by simp [runA], fun h => by
    have := fit_at hf h
    simp only [List.take_zero, runA, List.foldl_nil]
    unfold fitP at this; omega⟩
  | i + 1, hi => by
    obtain ⟨h1, h2, h3⟩ := runA_at ho hf i (by omega)
    have h3 := h3 (by omega)
    have hfit := fit_at hf (show i < l.length by omega)
    have hw := wid_bd (l.getD i Cg.z).k
    have hch := chg_len a (l.getD i Cg.z)
    have hord := of_decide_eq_true ho i
    rw [runA_step a l i (by omega)]
    unfold fitP at hfit
    simp only [stp, List.length_append, List.length_drop, List.length_take]
    refine ⟨by omega, by omega, fun hl => ?_⟩
    have := hord hl
    omega
section
variable {a : Str} {l : List Cg}
theorem app_1 (h : 64 < (a.length : Int)) : appE a l = 1 := by rw [appE, if_pos (by omega)]
theorem app_12 (h : ¬64 < (a.length : Int)) (ho : ordB l = false) : appE a l = 12 := by rw [appE, if_neg (by omega), if_pos ho]
theorem app_2 (h : ¬64 < (a.length : Int)) (ho : ordB l = true) (hf : l.all (fun c => fitB c a.length) = false) : appE a l = 2 := by rw [appE, if_neg (by omega), if_neg (by rw [ho]; simp), if_pos hf]
theorem app_9 (h : ¬64 < (a.length : Int)) (ho : ordB l = true) (hf : l.all (fun c => fitB c a.length) = true) (hn : 128 < ((outA a l).length : Int)) : appE a l = 1 := by rw [appE, if_neg (by omega), if_neg (by rw [ho]; simp), if_neg (by rw [hf]; simp), if_pos (by omega)]
theorem app_0 (h : ¬64 < (a.length : Int)) (ho : ordB l = true) (hf : l.all (fun c => fitB c a.length) = true) (hn : ¬128 < ((outA a l).length : Int)) : appE a l = 0 := by rw [appE, if_neg (by omega), if_neg (by rw [ho]; simp), if_neg (by rw [hf]; simp), if_neg (by omega)]
theorem appS_no {e : Int} (h : appE a l = e) (he : e ≠ 0) : [] = appS a l := by rw [appS, h, if_neg he]
theorem appS_yes (h : appE a l = 0) : appS a l = outA a l := by rw [appS, if_pos h]
end
theorem by3 (o seg u : Str) {g : Nat → List D} (hu : 0 < u.length) (hg : ∀ i, i < u.length → g i = bytesF u i) :
    o.length + seg.length + u.length = (o ++ seg ++ u).length ∧ ∀ q, q < (o ++ seg ++ u).length → iteL (q < o.length + seg.length) (iteL (q < o.length) (bytesF o q) (bytesF seg (q - o.length))) (g (q - (o.length + seg.length))) = bytesF (o ++ seg ++ u) q := by
  refine ⟨by simp; omega, fun q hq => ?_⟩
  simp only [List.length_append] at hq
  have hg' : g (q - (o.length + seg.length)) = bytesF u (q - (o.length + seg.length)) := by
    rcases Nat.lt_or_ge q (o.length + seg.length) with h | h
    · rw [show q - (o.length + seg.length) = 0 by omega]; exact hg 0 hu
    · exact hg _ (by omega)
  rw [hg']
  show [D.int .u8 (if q < o.length + seg.length then (if q < o.length then ((o.getD q 0).toNat : Int) else ((seg.getD (q - o.length) 0).toNat : Int)) else ((u.getD (q - (o.length + seg.length)) 0).toNat : Int))] = _
  simp only [bytesF]
  rw [getD_app, getD_app, List.length_append]
  by_cases h1 : q < o.length + seg.length
  · rw [if_pos h1, if_pos h1]
    by_cases h2 : q < o.length
    · rw [if_pos h2, if_pos h2]
    · rw [if_neg h2, if_neg h2]
  · rw [if_neg h1, if_neg h1]
theorem one_y {y : Int} (h : 0 ≤ y ∧ y ≤ 255) (i : Nat) (hi : i < [UInt8.ofNat y.toNat].length) : selC [[D.int .u8 y]] i = bytesF [UInt8.ofNat y.toNat] i := by
  have hi : i < 1 := by simpa using hi
  obtain rfl : i = 0 := by omega
  simp only [selC, bytesF, List.getD_cons_zero]
  rw [UInt8.toNat_ofNat']
  congr 2; omega
theorem two_y (x y : UInt8) (i : Nat) (hi : i < [x, y].length) : selC [[D.int .u8 x.toNat], [D.int .u8 y.toNat]] i = bytesF [x, y] i := by
  have hi : i < 2 := by simpa using hi
  match i with
  | 0 => rfl
  | 1 => rfl
  | n + 2 => omega
theorem stp_1 (a : Str) (s : Str × Nat) {c : Cg} (h : c.k = 1 ∨ c.k = 3) : (stp a s c).1 = s.1 ++ (a.take c.p.toNat).drop s.2 ++ [UInt8.ofNat c.y.toNat] := by rw [stp, chg, if_pos h]
theorem stp_2 (a : Str) (s : Str × Nat) {c : Cg} (h : ¬c.k = 1) (h' : ¬c.k = 3) (h'' : ¬c.k = 4) : (stp a s c).1 = s.1 ++ (a.take c.p.toNat).drop s.2 := by rw [stp, chg, if_neg (by omega), if_neg h'', List.append_nil]
theorem stp_4 (a : Str) (s : Str × Nat) {c : Cg} (h : c.k = 4) : (stp a s c).1 = s.1 ++ (a.take c.p.toNat).drop s.2 ++ [a.getD (c.p + 1).toNat 0, a.getD c.p.toNat 0] := by rw [stp, chg, if_neg (by omega), if_pos h]
theorem stp_p (a : Str) (s : Str × Nat) {c : Cg} (h : 0 ≤ c.p) : c.p + wid c.k = ((stp a s c).2 : Int) := by
  have := wid_bd c.k
  show _ = ((c.p + wid c.k).toNat : Int)
  omega
set_option maxHeartbeats 4000000 in
theorem apply_ct (a : Str) (l : List Cg) (hl : l.length ≤ 1000000) (hc : ∀ c ∈ l, c.ok) (ha : a.length ≤ 1000000000) : Ct Try.prog 14 [.str a, cgs l] fun r outs => r = .tup [.str (appS a l), i64 (appE a l)] ∧ outs = [] := by
  refine .det (.of_W (fn := Try.f14) hΓ hm Try.func14 ord14 [] (by kernel_rfl) (Step.out ?_))
  repeat' first
    | (refine Step.mk ?_; conv => whnf)
    | (refine Vc.om ?_ ?_; first | omega | with_reducible rfl | with_reducible exact same_rfl | (simp only [bytes_2, bytes_3, bytes_4, bytes_5, bytes_9, bytes_12, bytes_21, bytes_22, bytes_25, bytes_29, bytes_31, bytes_40, bytes_41, bytes_43, bytes_45, bytes_46, bytes_47, bytes_48, bytes_49, bytes_52, bytes_53, bytes_60, bytes_63, bytes_67, bytes_75, bytes_79, true_and, and_true] <;> omega))
    | (refine NilB.mk fun b hb => Step.out ?_)
    | with_reducible trivial
    | exact noSh_bool _
    | exact noSh_lit _
    | exact noSh_int _ _
    | exact noSh_str _
    | with_reducible rfl
    | with_reducible exact same_rfl
    | (refine Wr.i64 ?_ ?_; omega)
    | (refine Wr.u8 ?_ ?_; omega)
    | (refine Wr.i32 ?_ ?_; omega)
    | (with_reducible refine Br.tt ?_)
    | (with_reducible refine Br.ff ?_)
    | (refine Br.dT ?_ ?_; omega)
    | (refine Br.dF ?_ ?_; omega)
    | (refine Br.d (fun h => ?_) (fun h => ?_))
    | (refine Br.swap ?_)
    | (refine Br.bnot ?_)
    | (refine Br.mk (fun h => Step.out ?_) (fun h => Step.out ?_))
    | (refine Two.mk (Step.out ?_) (Step.out ?_))
    | (refine Cp.mk fun q hq => Step.out ?_)
    | (refine Ovl.mk (by assumption) (Step.out ?_))
    | (refine CallOK.of_ct (Step.out ?_))
    | (refine CallQ.of_ct (Step.out ?_))
    | (refine Met.by (g := 30) (ordered_ct _ (by omega) (by assumption)) ?_; rintro q outs ⟨rfl, rfl⟩)
    | (refine Met.by (g := 31) (contf_ct _ _ (by omega) (by assumption) (by omega)) ?_; rintro q outs ⟨rfl, rfl⟩)
    | (refine Met.by (g := 32) (clo_ct _ _ (ok_at (by assumption) _) (by omega)) ?_; rintro q outs ⟨rfl, rfl⟩)
    | (refine Met.by (g := 34) (width_ct _) ?_; rintro q outs ⟨rfl, rfl⟩)
    | (refine Vc.mk ?_ (Step.out ?_))
  · exact appS_no (app_1 ‹_›) (by decide)
  · exact (app_1 ‹_›).symm
  · rename_i h0 ho
    have hf := h
    clear h
    have ho : ordB l = true := decide_eq_true ho
    have hW := fun i hi => runA_at ho hf i hi
    refine CodeOK.loopW hΓ hm ord14 [] (by kernel_rfl) (α := Nat × Str × Nat) (fun z => [(2, .loc 0 0), (6, .own 1), (7, i64 z.2.2), (22, cgs l), (23, i64 l.length), (24, i64 z.1)]) (fun z => [(0, .var [.str a]), (1, .arr 5 1 z.2.1.length (bytesF z.2.1))]) 2 (fun z => z.1 ≤ l.length ∧ z.2 = runA a (l.take z.1)) (fun z => l.length - z.1) ?_ ?_
    · refine Again.by (0, [], 0) ⟨Nat.zero_le _, rfl⟩ ?_
      repeat' first
        | (refine Step.mk ?_; conv => whnf)
        | (refine Vc.om ?_ ?_; first | omega | with_reducible rfl | with_reducible exact same_rfl | (simp only [bytes_2, bytes_3, bytes_4, bytes_5, bytes_9, bytes_12, bytes_21, bytes_22, bytes_25, bytes_29, bytes_31, bytes_40, bytes_41, bytes_43, bytes_45, bytes_46, bytes_47, bytes_48, bytes_49, bytes_52, bytes_53, bytes_60, bytes_63, bytes_67, bytes_75, bytes_79, true_and, and_true] <;> omega))
        | (refine NilB.mk fun b hb => Step.out ?_)
        | with_reducible trivial
        | exact noSh_bool _
        | exact noSh_lit _
        | exact noSh_int _ _
        | exact noSh_str _
        | with_reducible rfl
        | with_reducible exact same_rfl
        | (refine Wr.i64 ?_ ?_; omega)
        | (refine Wr.u8 ?_ ?_; omega)
        | (refine Wr.i32 ?_ ?_; omega)
        | (with_reducible refine Br.tt ?_)
        | (with_reducible refine Br.ff ?_)
        | (refine Br.dT ?_ ?_; omega)
        | (refine Br.dF ?_ ?_; omega)
        | (refine Br.d (fun h => ?_) (fun h => ?_))
        | (refine Br.swap ?_)
        | (refine Br.bnot ?_)
        | (refine Br.mk (fun h => Step.out ?_) (fun h => Step.out ?_))
        | (refine Two.mk (Step.out ?_) (Step.out ?_))
        | (refine Cp.mk fun q hq => Step.out ?_)
        | (refine Ovl.mk (by assumption) (Step.out ?_))
        | (refine CallOK.of_ct (Step.out ?_))
        | (refine CallQ.of_ct (Step.out ?_))
        | (refine Met.by (g := 30) (ordered_ct _ (by omega) (by assumption)) ?_; rintro q outs ⟨rfl, rfl⟩)
        | (refine Met.by (g := 31) (contf_ct _ _ (by omega) (by assumption) (by omega)) ?_; rintro q outs ⟨rfl, rfl⟩)
        | (refine Met.by (g := 32) (clo_ct _ _ (ok_at (by assumption) _) (by omega)) ?_; rintro q outs ⟨rfl, rfl⟩)
        | (refine Met.by (g := 34) (width_ct _) ?_; rintro q outs ⟨rfl, rfl⟩)
        | (refine Vc.mk ?_ (Step.out ?_))
      all_goals rfl
    · intro ⟨i, o, p⟩ ⟨hi, hp⟩
      dsimp only at hi hp ⊢
      obtain ⟨w1, w2, w3⟩ := hW i hi
      clear hW
      rw [← hp] at w1 w2 w3
      dsimp only at w1 w2 w3
      rcases Nat.lt_or_ge i l.length with hlt | hge
      · have f1 : fitP (l.getD (i : Int).toNat Cg.z) a.length := fit_at hf hlt
        have f2 : (p : Int) ≤ (l.getD (i : Int).toNat Cg.z).p := w3 hlt
        have f3 := wid_at (l.getD (i : Int).toNat Cg.z).k
        have hst := runA_step a l i hlt
        rw [← hp] at hst
        unfold fitP at f1
        clear w3 hp
        repeat' first
          | (refine Step.mk ?_; conv => whnf)
          | (refine Vc.om ?_ ?_; first | omega | with_reducible rfl | with_reducible exact same_rfl | (simp only [bytes_2, bytes_3, bytes_4, bytes_5, bytes_9, bytes_12, bytes_21, bytes_22, bytes_25, bytes_29, bytes_31, bytes_40, bytes_41, bytes_43, bytes_45, bytes_46, bytes_47, bytes_48, bytes_49, bytes_52, bytes_53, bytes_60, bytes_63, bytes_67, bytes_75, bytes_79, true_and, and_true] <;> omega))
          | (refine NilB.mk fun b hb => Step.out ?_)
          | with_reducible trivial
          | exact noSh_bool _
          | exact noSh_lit _
          | exact noSh_int _ _
          | exact noSh_str _
          | with_reducible rfl
          | with_reducible exact same_rfl
          | (refine Wr.i64 ?_ ?_; omega)
          | (refine Wr.u8 ?_ ?_; omega)
          | (refine Wr.i32 ?_ ?_; omega)
          | (with_reducible refine Br.tt ?_)
          | (with_reducible refine Br.ff ?_)
          | (refine Br.dT ?_ ?_; omega)
          | (refine Br.dF ?_ ?_; omega)
          | (refine Vc.om ?_ ?_; focus ((simp only [List.length_drop, List.length_take, List.length_append, Int.toNat_natCast]; omega); done))
          | (refine Wr.i64 ?_ ?_; focus ((simp only [List.length_drop, List.length_take, List.length_append, Int.toNat_natCast]; omega); done))
          | (refine Wr.u8 ?_ ?_; focus ((simp only [List.length_drop, List.length_take, List.length_append, Int.toNat_natCast]; omega); done))
          | (refine Br.dT ?_ ?_; focus ((simp only [List.length_drop, List.length_take, List.length_append, Int.toNat_natCast]; omega); done))
          | (refine Br.dF ?_ ?_; focus ((simp only [List.length_drop, List.length_take, List.length_append, Int.toNat_natCast]; omega); done))
          | (refine Vc.om ?_ ?_; focus ((show (_ + (List.drop _ _).length + _) * 1 ≤ _; simp only [List.length_drop, List.length_take, List.length_append, Int.toNat_natCast]; omega); done))
          | (refine Wr.i64 ?_ ?_; focus ((show (_ + (List.drop _ _).length + _) * 1 ≤ _; simp only [List.length_drop, List.length_take, List.length_append, Int.toNat_natCast]; omega); done))
          | (refine Wr.u8 ?_ ?_; focus ((show (_ + (List.drop _ _).length + _) * 1 ≤ _; simp only [List.length_drop, List.length_take, List.length_append, Int.toNat_natCast]; omega); done))
          | (refine Br.dT ?_ ?_; focus ((show (_ + (List.drop _ _).length + _) * 1 ≤ _; simp only [List.length_drop, List.length_take, List.length_append, Int.toNat_natCast]; omega); done))
          | (refine Br.dF ?_ ?_; focus ((show (_ + (List.drop _ _).length + _) * 1 ≤ _; simp only [List.length_drop, List.length_take, List.length_append, Int.toNat_natCast]; omega); done))
          | (refine Br.d (fun h => ?_) (fun h => ?_))
          | (refine Br.swap ?_)
          | (refine Br.bnot ?_)
          | (refine Br.mk (fun h => Step.out ?_) (fun h => Step.out ?_))
          | (refine Two.mk (Step.out ?_) (Step.out ?_))
          | (refine Cp.mk fun q hq => Step.out ?_)
          | (refine Ovl.mk (by assumption) (Step.out ?_))
          | (refine CallOK.of_ct (Step.out ?_))
          | (refine CallQ.of_ct (Step.out ?_))
          | (refine Met.by (g := 30) (ordered_ct _ (by omega) (by assumption)) ?_; rintro q outs ⟨rfl, rfl⟩)
          | (refine Met.by (g := 31) (contf_ct _ _ (by omega) (by assumption) (by omega)) ?_; rintro q outs ⟨rfl, rfl⟩)
          | (refine Met.by (g := 32) (clo_ct _ _ (ok_at (by assumption) _) (by omega)) ?_; rintro q outs ⟨rfl, rfl⟩)
          | (refine Met.by (g := 34) (width_ct _) ?_; rintro q outs ⟨rfl, rfl⟩)
          | (refine Vc.mk ?_ (Step.out ?_))
        all_goals refine Again.by (i + 1, stp a (o, p) (l.getD (i : Int).toNat Cg.z)) ⟨⟨by dsimp only; omega, hst.symm⟩, by dsimp only; omega⟩ ?_
        all_goals dsimp only
        all_goals have hp' := stp_p a (o, p) (c := l.getD (i : Int).toNat Cg.z) (by omega)
        · rw [stp_1 a (o, p) (.inl ‹_›)]
          repeat' first
            | (refine Step.mk ?_; conv => whnf)
            | (refine Vc.om ?_ ?_; first | omega | with_reducible rfl | with_reducible exact same_rfl | (simp only [bytes_2, bytes_3, bytes_4, bytes_5, bytes_9, bytes_12, bytes_21, bytes_22, bytes_25, bytes_29, bytes_31, bytes_40, bytes_41, bytes_43, bytes_45, bytes_46, bytes_47, bytes_48, bytes_49, bytes_52, bytes_53, bytes_60, bytes_63, bytes_67, bytes_75, bytes_79, true_and, and_true] <;> omega))
            | (refine NilB.mk fun b hb => Step.out ?_)
            | with_reducible trivial
            | exact noSh_bool _
            | exact noSh_lit _
            | exact noSh_int _ _
            | exact noSh_str _
            | with_reducible rfl
            | with_reducible exact same_rfl
            | (refine Wr.i64 ?_ ?_; omega)
            | (refine Wr.u8 ?_ ?_; omega)
            | (refine Wr.i32 ?_ ?_; omega)
            | (with_reducible refine Br.tt ?_)
            | (with_reducible refine Br.ff ?_)
            | (refine Br.dT ?_ ?_; omega)
            | (refine Br.dF ?_ ?_; omega)
            | (refine Br.d (fun h => ?_) (fun h => ?_))
            | (refine Br.swap ?_)
            | (refine Br.bnot ?_)
            | (refine Br.mk (fun h => Step.out ?_) (fun h => Step.out ?_))
            | (refine Two.mk (Step.out ?_) (Step.out ?_))
            | (refine Cp.mk fun q hq => Step.out ?_)
            | (refine Ovl.mk (by assumption) (Step.out ?_))
            | (refine CallOK.of_ct (Step.out ?_))
            | (refine CallQ.of_ct (Step.out ?_))
            | (refine Met.by (g := 30) (ordered_ct _ (by omega) (by assumption)) ?_; rintro q outs ⟨rfl, rfl⟩)
            | (refine Met.by (g := 31) (contf_ct _ _ (by omega) (by assumption) (by omega)) ?_; rintro q outs ⟨rfl, rfl⟩)
            | (refine Met.by (g := 32) (clo_ct _ _ (ok_at (by assumption) _) (by omega)) ?_; rintro q outs ⟨rfl, rfl⟩)
            | (refine Met.by (g := 34) (width_ct _) ?_; rintro q outs ⟨rfl, rfl⟩)
            | (refine Vc.mk ?_ (Step.out ?_))
          exact by3 o _ _ (by simp) (one_y (by omega))
        · rw [stp_1 a (o, p) (.inr ‹_›)]
          repeat' first
            | (refine Step.mk ?_; conv => whnf)
            | (refine Vc.om ?_ ?_; first | omega | with_reducible rfl | with_reducible exact same_rfl | (simp only [bytes_2, bytes_3, bytes_4, bytes_5, bytes_9, bytes_12, bytes_21, bytes_22, bytes_25, bytes_29, bytes_31, bytes_40, bytes_41, bytes_43, bytes_45, bytes_46, bytes_47, bytes_48, bytes_49, bytes_52, bytes_53, bytes_60, bytes_63, bytes_67, bytes_75, bytes_79, true_and, and_true] <;> omega))
            | (refine NilB.mk fun b hb => Step.out ?_)
            | with_reducible trivial
            | exact noSh_bool _
            | exact noSh_lit _
            | exact noSh_int _ _
            | exact noSh_str _
            | with_reducible rfl
            | with_reducible exact same_rfl
            | (refine Wr.i64 ?_ ?_; omega)
            | (refine Wr.u8 ?_ ?_; omega)
            | (refine Wr.i32 ?_ ?_; omega)
            | (with_reducible refine Br.tt ?_)
            | (with_reducible refine Br.ff ?_)
            | (refine Br.dT ?_ ?_; omega)
            | (refine Br.dF ?_ ?_; omega)
            | (refine Br.d (fun h => ?_) (fun h => ?_))
            | (refine Br.swap ?_)
            | (refine Br.bnot ?_)
            | (refine Br.mk (fun h => Step.out ?_) (fun h => Step.out ?_))
            | (refine Two.mk (Step.out ?_) (Step.out ?_))
            | (refine Cp.mk fun q hq => Step.out ?_)
            | (refine Ovl.mk (by assumption) (Step.out ?_))
            | (refine CallOK.of_ct (Step.out ?_))
            | (refine CallQ.of_ct (Step.out ?_))
            | (refine Met.by (g := 30) (ordered_ct _ (by omega) (by assumption)) ?_; rintro q outs ⟨rfl, rfl⟩)
            | (refine Met.by (g := 31) (contf_ct _ _ (by omega) (by assumption) (by omega)) ?_; rintro q outs ⟨rfl, rfl⟩)
            | (refine Met.by (g := 32) (clo_ct _ _ (ok_at (by assumption) _) (by omega)) ?_; rintro q outs ⟨rfl, rfl⟩)
            | (refine Met.by (g := 34) (width_ct _) ?_; rintro q outs ⟨rfl, rfl⟩)
            | (refine Vc.mk ?_ (Step.out ?_))
          exact by3 o _ _ (by simp) (one_y (by omega))
        · rw [stp_4 a (o, p) ‹_›]
          repeat' first
            | (refine Step.mk ?_; conv => whnf)
            | (refine Vc.om ?_ ?_; first | omega | with_reducible rfl | with_reducible exact same_rfl | (simp only [bytes_2, bytes_3, bytes_4, bytes_5, bytes_9, bytes_12, bytes_21, bytes_22, bytes_25, bytes_29, bytes_31, bytes_40, bytes_41, bytes_43, bytes_45, bytes_46, bytes_47, bytes_48, bytes_49, bytes_52, bytes_53, bytes_60, bytes_63, bytes_67, bytes_75, bytes_79, true_and, and_true] <;> omega))
            | (refine NilB.mk fun b hb => Step.out ?_)
            | with_reducible trivial
            | exact noSh_bool _
            | exact noSh_lit _
            | exact noSh_int _ _
            | exact noSh_str _
            | with_reducible rfl
            | with_reducible exact same_rfl
            | (refine Wr.i64 ?_ ?_; omega)
            | (refine Wr.u8 ?_ ?_; omega)
            | (refine Wr.i32 ?_ ?_; omega)
            | (with_reducible refine Br.tt ?_)
            | (with_reducible refine Br.ff ?_)
            | (refine Br.dT ?_ ?_; omega)
            | (refine Br.dF ?_ ?_; omega)
            | (refine Br.d (fun h => ?_) (fun h => ?_))
            | (refine Br.swap ?_)
            | (refine Br.bnot ?_)
            | (refine Br.mk (fun h => Step.out ?_) (fun h => Step.out ?_))
            | (refine Two.mk (Step.out ?_) (Step.out ?_))
            | (refine Cp.mk fun q hq => Step.out ?_)
            | (refine Ovl.mk (by assumption) (Step.out ?_))
            | (refine CallOK.of_ct (Step.out ?_))
            | (refine CallQ.of_ct (Step.out ?_))
            | (refine Met.by (g := 30) (ordered_ct _ (by omega) (by assumption)) ?_; rintro q outs ⟨rfl, rfl⟩)
            | (refine Met.by (g := 31) (contf_ct _ _ (by omega) (by assumption) (by omega)) ?_; rintro q outs ⟨rfl, rfl⟩)
            | (refine Met.by (g := 32) (clo_ct _ _ (ok_at (by assumption) _) (by omega)) ?_; rintro q outs ⟨rfl, rfl⟩)
            | (refine Met.by (g := 34) (width_ct _) ?_; rintro q outs ⟨rfl, rfl⟩)
            | (refine Vc.mk ?_ (Step.out ?_))
          exact by3 o _ _ (by simp) (two_y _ _)
        · rw [stp_2 a (o, p) ‹_› ‹_› ‹_›]
          repeat' first
            | (refine Step.mk ?_; conv => whnf)
            | (refine Vc.om ?_ ?_; first | omega | with_reducible rfl | with_reducible exact same_rfl | (simp only [bytes_2, bytes_3, bytes_4, bytes_5, bytes_9, bytes_12, bytes_21, bytes_22, bytes_25, bytes_29, bytes_31, bytes_40, bytes_41, bytes_43, bytes_45, bytes_46, bytes_47, bytes_48, bytes_49, bytes_52, bytes_53, bytes_60, bytes_63, bytes_67, bytes_75, bytes_79, true_and, and_true] <;> omega))
            | (refine NilB.mk fun b hb => Step.out ?_)
            | with_reducible trivial
            | exact noSh_bool _
            | exact noSh_lit _
            | exact noSh_int _ _
            | exact noSh_str _
            | with_reducible rfl
            | with_reducible exact same_rfl
            | (refine Wr.i64 ?_ ?_; omega)
            | (refine Wr.u8 ?_ ?_; omega)
            | (refine Wr.i32 ?_ ?_; omega)
            | (with_reducible refine Br.tt ?_)
            | (with_reducible refine Br.ff ?_)
            | (refine Br.dT ?_ ?_; omega)
            | (refine Br.dF ?_ ?_; omega)
            | (refine Br.d (fun h => ?_) (fun h => ?_))
            | (refine Br.swap ?_)
            | (refine Br.bnot ?_)
            | (refine Br.mk (fun h => Step.out ?_) (fun h => Step.out ?_))
            | (refine Two.mk (Step.out ?_) (Step.out ?_))
            | (refine Cp.mk fun q hq => Step.out ?_)
            | (refine Ovl.mk (by assumption) (Step.out ?_))
            | (refine CallOK.of_ct (Step.out ?_))
            | (refine CallQ.of_ct (Step.out ?_))
            | (refine Met.by (g := 30) (ordered_ct _ (by omega) (by assumption)) ?_; rintro q outs ⟨rfl, rfl⟩)
            | (refine Met.by (g := 31) (contf_ct _ _ (by omega) (by assumption) (by omega)) ?_; rintro q outs ⟨rfl, rfl⟩)
            | (refine Met.by (g := 32) (clo_ct _ _ (ok_at (by assumption) _) (by omega)) ?_; rintro q outs ⟨rfl, rfl⟩)
            | (refine Met.by (g := 34) (width_ct _) ?_; rintro q outs ⟨rfl, rfl⟩)
            | (refine Vc.mk ?_ (Step.out ?_))
          exact bytes_app o _
      · have hrun : runA a l = (o, p) := by rw [hp, List.take_of_length_le hge]
        have hout : outA a l = o ++ a.drop p := by rw [outA, hrun]
        have htk : List.drop (p : Int).toNat (List.take (a.length : Int).toNat a) = a.drop p := by rw [Int.toNat_natCast, Int.toNat_natCast, List.take_of_length_le (Nat.le_refl _)]
        have hln : o.length + (List.drop (p : Int).toNat (List.take (a.length : Int).toNat a)).length = (outA a l).length := by rw [htk, hout, List.length_append]
        repeat' first
          | (refine Step.mk ?_; conv => whnf)
          | (refine Vc.om ?_ ?_; first | omega | with_reducible rfl | with_reducible exact same_rfl | (simp only [bytes_2, bytes_3, bytes_4, bytes_5, bytes_9, bytes_12, bytes_21, bytes_22, bytes_25, bytes_29, bytes_31, bytes_40, bytes_41, bytes_43, bytes_45, bytes_46, bytes_47, bytes_48, bytes_49, bytes_52, bytes_53, bytes_60, bytes_63, bytes_67, bytes_75, bytes_79, true_and, and_true] <;> omega))
          | (refine NilB.mk fun b hb => Step.out ?_)
          | with_reducible trivial
          | exact noSh_bool _
          | exact noSh_lit _
          | exact noSh_int _ _
          | exact noSh_str _
          | with_reducible rfl
          | with_reducible exact same_rfl
          | (refine Wr.i64 ?_ ?_; omega)
          | (refine Wr.u8 ?_ ?_; omega)
          | (refine Wr.i32 ?_ ?_; omega)
          | (with_reducible refine Br.tt ?_)
          | (with_reducible refine Br.ff ?_)
          | (refine Br.dT ?_ ?_; omega)
          | (refine Br.dF ?_ ?_; omega)
          | (refine Vc.om ?_ ?_; focus ((simp only [List.length_drop, List.length_take, List.length_append, Int.toNat_natCast]; omega); done))
          | (refine Wr.i64 ?_ ?_; focus ((simp only [List.length_drop, List.length_take, List.length_append, Int.toNat_natCast]; omega); done))
          | (refine Wr.u8 ?_ ?_; focus ((simp only [List.length_drop, List.length_take, List.length_append, Int.toNat_natCast]; omega); done))
          | (refine Br.dT ?_ ?_; focus ((simp only [List.length_drop, List.length_take, List.length_append, Int.toNat_natCast]; omega); done))
          | (refine Br.dF ?_ ?_; focus ((simp only [List.length_drop, List.length_take, List.length_append, Int.toNat_natCast]; omega); done))
          | (refine Br.d (fun h => ?_) (fun h => ?_))
          | (refine Br.swap ?_)
          | (refine Br.bnot ?_)
          | (refine Br.mk (fun h => Step.out ?_) (fun h => Step.out ?_))
          | (refine Two.mk (Step.out ?_) (Step.out ?_))
          | (refine Cp.mk fun q hq => Step.out ?_)
          | (refine Ovl.mk (by assumption) (Step.out ?_))
          | (refine CallOK.of_ct (Step.out ?_))
          | (refine CallQ.of_ct (Step.out ?_))
          | (refine Met.by (g := 30) (ordered_ct _ (by omega) (by assumption)) ?_; rintro q outs ⟨rfl, rfl⟩)
          | (refine Met.by (g := 31) (contf_ct _ _ (by omega) (by assumption) (by omega)) ?_; rintro q outs ⟨rfl, rfl⟩)
          | (refine Met.by (g := 32) (clo_ct _ _ (ok_at (by assumption) _) (by omega)) ?_; rintro q outs ⟨rfl, rfl⟩)
          | (refine Met.by (g := 34) (width_ct _) ?_; rintro q outs ⟨rfl, rfl⟩)
          | (refine Vc.mk ?_ (Step.out ?_))
        · exact appS_no (app_9 ‹_› ho hf (by rw [← hln]; exact ‹_›)) (by decide)
        · exact (app_9 ‹_› ho hf (by rw [← hln]; exact ‹_›)).symm
        · have hb := bytes_app o (List.drop (p : Int).toNat (List.take (a.length : Int).toNat a))
          refine Lf.by _ ⟨hb.1.symm, fun q hq => hb.2 q (by rw [← hb.1]; exact hq)⟩ ?_
          repeat' first
            | (refine Step.mk ?_; conv => whnf)
            | (refine Vc.om ?_ ?_; first | omega | with_reducible rfl | with_reducible exact same_rfl | (simp only [bytes_2, bytes_3, bytes_4, bytes_5, bytes_9, bytes_12, bytes_21, bytes_22, bytes_25, bytes_29, bytes_31, bytes_40, bytes_41, bytes_43, bytes_45, bytes_46, bytes_47, bytes_48, bytes_49, bytes_52, bytes_53, bytes_60, bytes_63, bytes_67, bytes_75, bytes_79, true_and, and_true] <;> omega))
            | (refine NilB.mk fun b hb => Step.out ?_)
            | with_reducible trivial
            | exact noSh_bool _
            | exact noSh_lit _
            | exact noSh_int _ _
            | exact noSh_str _
            | with_reducible rfl
            | with_reducible exact same_rfl
            | (refine Wr.i64 ?_ ?_; omega)
            | (refine Wr.u8 ?_ ?_; omega)
            | (refine Wr.i32 ?_ ?_; omega)
            | (with_reducible refine Br.tt ?_)
            | (with_reducible refine Br.ff ?_)
            | (refine Br.dT ?_ ?_; omega)
            | (refine Br.dF ?_ ?_; omega)
            | (refine Br.d (fun h => ?_) (fun h => ?_))
            | (refine Br.swap ?_)
            | (refine Br.bnot ?_)
            | (refine Br.mk (fun h => Step.out ?_) (fun h => Step.out ?_))
            | (refine Two.mk (Step.out ?_) (Step.out ?_))
            | (refine Cp.mk fun q hq => Step.out ?_)
            | (refine Ovl.mk (by assumption) (Step.out ?_))
            | (refine CallOK.of_ct (Step.out ?_))
            | (refine CallQ.of_ct (Step.out ?_))
            | (refine Met.by (g := 30) (ordered_ct _ (by omega) (by assumption)) ?_; rintro q outs ⟨rfl, rfl⟩)
            | (refine Met.by (g := 31) (contf_ct _ _ (by omega) (by assumption) (by omega)) ?_; rintro q outs ⟨rfl, rfl⟩)
            | (refine Met.by (g := 32) (clo_ct _ _ (ok_at (by assumption) _) (by omega)) ?_; rintro q outs ⟨rfl, rfl⟩)
            | (refine Met.by (g := 34) (width_ct _) ?_; rintro q outs ⟨rfl, rfl⟩)
            | (refine Vc.mk ?_ (Step.out ?_))
          · rw [appS_yes (app_0 h0 ho hf (by rw [← hln]; exact h)), hout, htk]
          · exact (app_0 h0 ho hf (by rw [← hln]; exact h)).symm
  · exact appS_no (app_2 ‹_› (decide_eq_true ‹_›) ‹_›) (by decide)
  · exact (app_2 ‹_› (decide_eq_true ‹_›) ‹_›).symm
  · exact appS_no (app_12 ‹_› (decide_eq_false ‹_›)) (by decide)
  · exact (app_12 ‹_› (decide_eq_false ‹_›)).symm
theorem all_of {a : Str} {l : List Cg} (h : ∀ j, j < l.length → fitP (l.getD j Cg.z) a.length) : l.all (fun c => fitB c a.length) = true := by
  rw [List.all_eq_true]
  intro c hc
  obtain ⟨j, hj, rfl⟩ := List.mem_iff_getElem.1 hc
  have := h j hj
  rw [List.getD_eq_getElem?_getD, List.getElem?_eq_getElem hj] at this
  exact decide_eq_true this
theorem not_all {a : Str} {l : List Cg} {j : Nat} (hj : j < l.length) (h : ¬fitP (l.getD j Cg.z) a.length) : l.all (fun c => fitB c a.length) = false := by
  cases hq : l.all (fun c => fitB c a.length) with
  | false => rfl
  | true => exact absurd (fit_at hq hj) h
theorem byS_one {y : Int} (h : 0 ≤ y ∧ y ≤ 255) : ByS 1 (fun i => selC [[D.int .u8 y]] i) [UInt8.ofNat y.toNat] := ⟨rfl, fun i hi => one_y h i hi⟩
theorem byS_two (x y : UInt8) : ByS 2 (fun i => selC [[D.int .u8 x.toNat], [D.int .u8 y.toNat]] i) [x, y] := ⟨rfl, fun i hi => two_y x y i hi⟩
set_option maxHeartbeats 4000000 in
theorem rapply_ct (a : Str) (l : List Cg) (hl : l.length ≤ 1000000) (hc : ∀ c ∈ l, c.ok) (ha : a.length ≤ 1000000000) : Ct Try.prog 24 [.str a, cgs l] fun r outs => r = .tup [.str (appS a l), i64 (appE a l)] ∧ outs = [] := by
  refine .det (.of_W (fn := Try.f24) hΓ hm Try.func24 ord24 [] (by kernel_rfl) (Step.out ?_))
  repeat' first
    | (refine Step.mk ?_; conv => whnf)
    | (refine Vc.om ?_ ?_; first | omega | with_reducible rfl | with_reducible exact same_rfl | (simp only [bytes_2, bytes_3, bytes_4, bytes_5, bytes_9, bytes_12, bytes_21, bytes_22, bytes_25, bytes_29, bytes_31, bytes_40, bytes_41, bytes_43, bytes_45, bytes_46, bytes_47, bytes_48, bytes_49, bytes_52, bytes_53, bytes_60, bytes_63, bytes_67, bytes_75, bytes_79, true_and, and_true] <;> omega))
    | (refine NilB.mk fun b hb => Step.out ?_)
    | with_reducible trivial
    | exact noSh_bool _
    | exact noSh_lit _
    | exact noSh_int _ _
    | exact noSh_str _
    | with_reducible rfl
    | with_reducible exact same_rfl
    | (refine Wr.i64 ?_ ?_; omega)
    | (refine Wr.u8 ?_ ?_; omega)
    | (refine Wr.i32 ?_ ?_; omega)
    | (with_reducible refine Br.tt ?_)
    | (with_reducible refine Br.ff ?_)
    | (refine Br.dT ?_ ?_; omega)
    | (refine Br.dF ?_ ?_; omega)
    | (refine Br.d (fun h => ?_) (fun h => ?_))
    | (refine Br.swap ?_)
    | (refine Br.bnot ?_)
    | (refine Br.mk (fun h => Step.out ?_) (fun h => Step.out ?_))
    | (refine Two.mk (Step.out ?_) (Step.out ?_))
    | (refine Cp.mk fun q hq => Step.out ?_)
    | (refine Ovl.mk (by assumption) (Step.out ?_))
    | (refine CallOK.of_ct (Step.out ?_))
    | (refine CallQ.of_ct (Step.out ?_))
    | (refine Met.by (g := 41) (rordered_ct _ (by omega) (by assumption)) ?_; rintro q outs ⟨rfl, rfl⟩)
    | (refine Met.by (g := 42) (right_ct _ _ (by assumption) (by omega)) ?_; rintro q outs ⟨rfl, rfl⟩)
    | (refine Vc.mk ?_ (Step.out ?_))
  · exact appS_no (app_1 ‹_›) (by decide)
  · exact (app_1 ‹_›).symm
  · rename_i h0
    have ho : ordB l = true := decide_eq_true h
    clear h
    refine CodeOK.loopW hΓ hm ord24 [] (by kernel_rfl) (α := Nat) (fun i => [(0, .str a), (1, cgs l), (6, i64 i)]) (fun i => []) 0 (fun i => i ≤ l.length ∧ ∀ j, j < i → fitP (l.getD j Cg.z) a.length) (fun i => l.length - i) ?_ ?_
    · refine Again.by 0 ⟨Nat.zero_le _, fun j hj => absurd hj (Nat.not_lt_zero j)⟩ ?_
      repeat' first
        | (refine Step.mk ?_; conv => whnf)
        | (refine Vc.om ?_ ?_; first | omega | with_reducible rfl | with_reducible exact same_rfl | (simp only [bytes_2, bytes_3, bytes_4, bytes_5, bytes_9, bytes_12, bytes_21, bytes_22, bytes_25, bytes_29, bytes_31, bytes_40, bytes_41, bytes_43, bytes_45, bytes_46, bytes_47, bytes_48, bytes_49, bytes_52, bytes_53, bytes_60, bytes_63, bytes_67, bytes_75, bytes_79, true_and, and_true] <;> omega))
        | (refine NilB.mk fun b hb => Step.out ?_)
        | with_reducible trivial
        | exact noSh_bool _
        | exact noSh_lit _
        | exact noSh_int _ _
        | exact noSh_str _
        | with_reducible rfl
        | with_reducible exact same_rfl
        | (refine Wr.i64 ?_ ?_; omega)
        | (refine Wr.u8 ?_ ?_; omega)
        | (refine Wr.i32 ?_ ?_; omega)
        | (with_reducible refine Br.tt ?_)
        | (with_reducible refine Br.ff ?_)
        | (refine Br.dT ?_ ?_; omega)
        | (refine Br.dF ?_ ?_; omega)
        | (refine Br.d (fun h => ?_) (fun h => ?_))
        | (refine Br.swap ?_)
        | (refine Br.bnot ?_)
        | (refine Br.mk (fun h => Step.out ?_) (fun h => Step.out ?_))
        | (refine Two.mk (Step.out ?_) (Step.out ?_))
        | (refine Cp.mk fun q hq => Step.out ?_)
        | (refine Ovl.mk (by assumption) (Step.out ?_))
        | (refine CallOK.of_ct (Step.out ?_))
        | (refine CallQ.of_ct (Step.out ?_))
        | (refine Met.by (g := 41) (rordered_ct _ (by omega) (by assumption)) ?_; rintro q outs ⟨rfl, rfl⟩)
        | (refine Met.by (g := 42) (right_ct _ _ (by assumption) (by omega)) ?_; rintro q outs ⟨rfl, rfl⟩)
        | (refine Vc.mk ?_ (Step.out ?_))
    · intro i ⟨hi, hj⟩
      repeat' first
        | (refine Step.mk ?_; conv => whnf)
        | (refine Vc.om ?_ ?_; first | omega | with_reducible rfl | with_reducible exact same_rfl | (simp only [bytes_2, bytes_3, bytes_4, bytes_5, bytes_9, bytes_12, bytes_21, bytes_22, bytes_25, bytes_29, bytes_31, bytes_40, bytes_41, bytes_43, bytes_45, bytes_46, bytes_47, bytes_48, bytes_49, bytes_52, bytes_53, bytes_60, bytes_63, bytes_67, bytes_75, bytes_79, true_and, and_true] <;> omega))
        | (refine NilB.mk fun b hb => Step.out ?_)
        | with_reducible trivial
        | exact noSh_bool _
        | exact noSh_lit _
        | exact noSh_int _ _
        | exact noSh_str _
        | with_reducible rfl
        | with_reducible exact same_rfl
        | (refine Wr.i64 ?_ ?_; omega)
        | (refine Wr.u8 ?_ ?_; omega)
        | (refine Wr.i32 ?_ ?_; omega)
        | (with_reducible refine Br.tt ?_)
        | (with_reducible refine Br.ff ?_)
        | (refine Br.dT ?_ ?_; omega)
        | (refine Br.dF ?_ ?_; omega)
        | (refine Met.by (right_ct (l.getD (i : Int).toNat Cg.z) a.length (ok_at hc _) (by omega)) ?_; rintro q outs ⟨rfl, rfl⟩)
        | (refine Br.d (fun h => ?_) (fun h => ?_))
        | (refine Br.swap ?_)
        | (refine Br.bnot ?_)
        | (refine Br.mk (fun h => Step.out ?_) (fun h => Step.out ?_))
        | (refine Two.mk (Step.out ?_) (Step.out ?_))
        | (refine Cp.mk fun q hq => Step.out ?_)
        | (refine Ovl.mk (by assumption) (Step.out ?_))
        | (refine CallOK.of_ct (Step.out ?_))
        | (refine CallQ.of_ct (Step.out ?_))
        | (refine Met.by (g := 41) (rordered_ct _ (by omega) (by assumption)) ?_; rintro q outs ⟨rfl, rfl⟩)
        | (refine Met.by (g := 42) (right_ct _ _ (by assumption) (by omega)) ?_; rintro q outs ⟨rfl, rfl⟩)
        | (refine Vc.mk ?_ (Step.out ?_))
      · refine Again.by (i + 1) ⟨⟨by omega, fun j hj' => ?_⟩, by omega⟩ ?_
        · rcases Nat.lt_or_ge j i with h' | h'
          · exact hj j h'
          · obtain rfl : j = i := by omega
            exact h
        · repeat' first
            | (refine Step.mk ?_; conv => whnf)
            | (refine Vc.om ?_ ?_; first | omega | with_reducible rfl | with_reducible exact same_rfl | (simp only [bytes_2, bytes_3, bytes_4, bytes_5, bytes_9, bytes_12, bytes_21, bytes_22, bytes_25, bytes_29, bytes_31, bytes_40, bytes_41, bytes_43, bytes_45, bytes_46, bytes_47, bytes_48, bytes_49, bytes_52, bytes_53, bytes_60, bytes_63, bytes_67, bytes_75, bytes_79, true_and, and_true] <;> omega))
            | (refine NilB.mk fun b hb => Step.out ?_)
            | with_reducible trivial
            | exact noSh_bool _
            | exact noSh_lit _
            | exact noSh_int _ _
            | exact noSh_str _
            | with_reducible rfl
            | with_reducible exact same_rfl
            | (refine Wr.i64 ?_ ?_; omega)
            | (refine Wr.u8 ?_ ?_; omega)
            | (refine Wr.i32 ?_ ?_; omega)
            | (with_reducible refine Br.tt ?_)
            | (with_reducible refine Br.ff ?_)
            | (refine Br.dT ?_ ?_; omega)
            | (refine Br.dF ?_ ?_; omega)
            | (refine Br.d (fun h => ?_) (fun h => ?_))
            | (refine Br.swap ?_)
            | (refine Br.bnot ?_)
            | (refine Br.mk (fun h => Step.out ?_) (fun h => Step.out ?_))
            | (refine Two.mk (Step.out ?_) (Step.out ?_))
            | (refine Cp.mk fun q hq => Step.out ?_)
            | (refine Ovl.mk (by assumption) (Step.out ?_))
            | (refine CallOK.of_ct (Step.out ?_))
            | (refine CallQ.of_ct (Step.out ?_))
            | (refine Met.by (g := 41) (rordered_ct _ (by omega) (by assumption)) ?_; rintro q outs ⟨rfl, rfl⟩)
            | (refine Met.by (g := 42) (right_ct _ _ (by assumption) (by omega)) ?_; rintro q outs ⟨rfl, rfl⟩)
            | (refine Vc.mk ?_ (Step.out ?_))
      · exact appS_no (app_2 h0 ho (not_all (j := i) (by omega) h)) (by decide)
      · exact (app_2 h0 ho (not_all (j := i) (by omega) h)).symm
      · have hf := all_of (a := a) (l := l) fun j h' => hj j (by omega)
        have hW := fun i hi => runA_at ho hf i hi
        clear hj h hi
        refine CodeOK.loopW hΓ hm ord24 [] (by kernel_rfl) (α := Nat × Str × Nat) (fun z => [(0, .str a), (1, cgs l), (7, .str z.2.1), (8, i64 z.2.2), (9, i64 z.1)]) (fun z => []) 0 (fun z => z.1 ≤ l.length ∧ z.2 = runA a (l.take z.1)) (fun z => l.length - z.1) ?_ ?_
        · refine Again.by (0, [], 0) ⟨Nat.zero_le _, rfl⟩ ?_
          repeat' first
            | (refine Step.mk ?_; conv => whnf)
            | (refine Vc.om ?_ ?_; first | omega | with_reducible rfl | with_reducible exact same_rfl | (simp only [bytes_2, bytes_3, bytes_4, bytes_5, bytes_9, bytes_12, bytes_21, bytes_22, bytes_25, bytes_29, bytes_31, bytes_40, bytes_41, bytes_43, bytes_45, bytes_46, bytes_47, bytes_48, bytes_49, bytes_52, bytes_53, bytes_60, bytes_63, bytes_67, bytes_75, bytes_79, true_and, and_true] <;> omega))
            | (refine NilB.mk fun b hb => Step.out ?_)
            | with_reducible trivial
            | exact noSh_bool _
            | exact noSh_lit _
            | exact noSh_int _ _
            | exact noSh_str _
            | with_reducible rfl
            | with_reducible exact same_rfl
            | (refine Wr.i64 ?_ ?_; omega)
            | (refine Wr.u8 ?_ ?_; omega)
            | (refine Wr.i32 ?_ ?_; omega)
            | (with_reducible refine Br.tt ?_)
            | (with_reducible refine Br.ff ?_)
            | (refine Br.dT ?_ ?_; omega)
            | (refine Br.dF ?_ ?_; omega)
            | (refine Br.d (fun h => ?_) (fun h => ?_))
            | (refine Br.swap ?_)
            | (refine Br.bnot ?_)
            | (refine Br.mk (fun h => Step.out ?_) (fun h => Step.out ?_))
            | (refine Two.mk (Step.out ?_) (Step.out ?_))
            | (refine Cp.mk fun q hq => Step.out ?_)
            | (refine Ovl.mk (by assumption) (Step.out ?_))
            | (refine CallOK.of_ct (Step.out ?_))
            | (refine CallQ.of_ct (Step.out ?_))
            | (refine Met.by (g := 41) (rordered_ct _ (by omega) (by assumption)) ?_; rintro q outs ⟨rfl, rfl⟩)
            | (refine Met.by (g := 42) (right_ct _ _ (by assumption) (by omega)) ?_; rintro q outs ⟨rfl, rfl⟩)
            | (refine Vc.mk ?_ (Step.out ?_))
          all_goals rfl
        · intro ⟨i, o, p⟩ ⟨hi, hp⟩
          dsimp only at hi hp ⊢
          obtain ⟨w1, w2, w3⟩ := hW i hi
          clear hW
          rw [← hp] at w1 w2 w3
          dsimp only at w1 w2 w3
          rcases Nat.lt_or_ge i l.length with hlt | hge
          · have f1 : fitP (l.getD (i : Int).toNat Cg.z) a.length := fit_at hf hlt
            have f2 : (p : Int) ≤ (l.getD (i : Int).toNat Cg.z).p := w3 hlt
            have f3 := wid_at (l.getD (i : Int).toNat Cg.z).k
            have hst := runA_step a l i hlt
            rw [← hp] at hst
            unfold fitP at f1
            clear w3 hp
            repeat' first
              | (refine Step.mk ?_; conv => whnf)
              | (refine Vc.om ?_ ?_; first | omega | with_reducible rfl | with_reducible exact same_rfl | (simp only [bytes_2, bytes_3, bytes_4, bytes_5, bytes_9, bytes_12, bytes_21, bytes_22, bytes_25, bytes_29, bytes_31, bytes_40, bytes_41, bytes_43, bytes_45, bytes_46, bytes_47, bytes_48, bytes_49, bytes_52, bytes_53, bytes_60, bytes_63, bytes_67, bytes_75, bytes_79, true_and, and_true] <;> omega))
              | (refine NilB.mk fun b hb => Step.out ?_)
              | with_reducible trivial
              | exact noSh_bool _
              | exact noSh_lit _
              | exact noSh_int _ _
              | exact noSh_str _
              | with_reducible rfl
              | with_reducible exact same_rfl
              | (refine Wr.i64 ?_ ?_; omega)
              | (refine Wr.u8 ?_ ?_; omega)
              | (refine Wr.i32 ?_ ?_; omega)
              | (with_reducible refine Br.tt ?_)
              | (with_reducible refine Br.ff ?_)
              | (refine Br.dT ?_ ?_; omega)
              | (refine Br.dF ?_ ?_; omega)
              | (refine Vc.om ?_ ?_; focus ((simp only [List.length_drop, List.length_take, List.length_append, List.length_cons, List.length_nil, Int.toNat_natCast]; omega); done))
              | (refine Wr.i64 ?_ ?_; focus ((simp only [List.length_drop, List.length_take, List.length_append, List.length_cons, List.length_nil, Int.toNat_natCast]; omega); done))
              | (refine Wr.u8 ?_ ?_; focus ((simp only [List.length_drop, List.length_take, List.length_append, List.length_cons, List.length_nil, Int.toNat_natCast]; omega); done))
              | (refine Br.dT ?_ ?_; focus ((simp only [List.length_drop, List.length_take, List.length_append, List.length_cons, List.length_nil, Int.toNat_natCast]; omega); done))
              | (refine Br.dF ?_ ?_; focus ((simp only [List.length_drop, List.length_take, List.length_append, List.length_cons, List.length_nil, Int.toNat_natCast]; omega); done))
              | (refine Lf.by [UInt8.ofNat (l.getD (i : Int).toNat Cg.z).y.toNat] (byS_one (by omega)) ?_)
              | (refine Lf.by _ (byS_two _ _) ?_)
              | (refine Br.d (fun h => ?_) (fun h => ?_))
              | (refine Br.swap ?_)
              | (refine Br.bnot ?_)
              | (refine Br.mk (fun h => Step.out ?_) (fun h => Step.out ?_))
              | (refine Two.mk (Step.out ?_) (Step.out ?_))
              | (refine Cp.mk fun q hq => Step.out ?_)
              | (refine Ovl.mk (by assumption) (Step.out ?_))
              | (refine CallOK.of_ct (Step.out ?_))
              | (refine CallQ.of_ct (Step.out ?_))
              | (refine Met.by (g := 41) (rordered_ct _ (by omega) (by assumption)) ?_; rintro q outs ⟨rfl, rfl⟩)
              | (refine Met.by (g := 42) (right_ct _ _ (by assumption) (by omega)) ?_; rintro q outs ⟨rfl, rfl⟩)
              | (refine Vc.mk ?_ (Step.out ?_))
            all_goals refine Again.by (i + 1, stp a (o, p) (l.getD (i : Int).toNat Cg.z)) ⟨⟨by dsimp only; omega, hst.symm⟩, by dsimp only; omega⟩ ?_
            all_goals dsimp only
            all_goals have hp' := stp_p a (o, p) (c := l.getD (i : Int).toNat Cg.z) (by omega)
            · rw [stp_1 a (o, p) (.inl ‹_›)]
              repeat' first
                | (refine Step.mk ?_; conv => whnf)
                | (refine Vc.om ?_ ?_; first | omega | with_reducible rfl | with_reducible exact same_rfl | (simp only [bytes_2, bytes_3, bytes_4, bytes_5, bytes_9, bytes_12, bytes_21, bytes_22, bytes_25, bytes_29, bytes_31, bytes_40, bytes_41, bytes_43, bytes_45, bytes_46, bytes_47, bytes_48, bytes_49, bytes_52, bytes_53, bytes_60, bytes_63, bytes_67, bytes_75, bytes_79, true_and, and_true] <;> omega))
                | (refine NilB.mk fun b hb => Step.out ?_)
                | with_reducible trivial
                | exact noSh_bool _
                | exact noSh_lit _
                | exact noSh_int _ _
                | exact noSh_str _
                | with_reducible rfl
                | with_reducible exact same_rfl
                | (refine Wr.i64 ?_ ?_; omega)
                | (refine Wr.u8 ?_ ?_; omega)
                | (refine Wr.i32 ?_ ?_; omega)
                | (with_reducible refine Br.tt ?_)
                | (with_reducible refine Br.ff ?_)
                | (refine Br.dT ?_ ?_; omega)
                | (refine Br.dF ?_ ?_; omega)
                | (refine Br.d (fun h => ?_) (fun h => ?_))
                | (refine Br.swap ?_)
                | (refine Br.bnot ?_)
                | (refine Br.mk (fun h => Step.out ?_) (fun h => Step.out ?_))
                | (refine Two.mk (Step.out ?_) (Step.out ?_))
                | (refine Cp.mk fun q hq => Step.out ?_)
                | (refine Ovl.mk (by assumption) (Step.out ?_))
                | (refine CallOK.of_ct (Step.out ?_))
                | (refine CallQ.of_ct (Step.out ?_))
                | (refine Met.by (g := 41) (rordered_ct _ (by omega) (by assumption)) ?_; rintro q outs ⟨rfl, rfl⟩)
                | (refine Met.by (g := 42) (right_ct _ _ (by assumption) (by omega)) ?_; rintro q outs ⟨rfl, rfl⟩)
                | (refine Vc.mk ?_ (Step.out ?_))
              rfl
            · rw [stp_1 a (o, p) (.inr ‹_›)]
              repeat' first
                | (refine Step.mk ?_; conv => whnf)
                | (refine Vc.om ?_ ?_; first | omega | with_reducible rfl | with_reducible exact same_rfl | (simp only [bytes_2, bytes_3, bytes_4, bytes_5, bytes_9, bytes_12, bytes_21, bytes_22, bytes_25, bytes_29, bytes_31, bytes_40, bytes_41, bytes_43, bytes_45, bytes_46, bytes_47, bytes_48, bytes_49, bytes_52, bytes_53, bytes_60, bytes_63, bytes_67, bytes_75, bytes_79, true_and, and_true] <;> omega))
                | (refine NilB.mk fun b hb => Step.out ?_)
                | with_reducible trivial
                | exact noSh_bool _
                | exact noSh_lit _
                | exact noSh_int _ _
                | exact noSh_str _
                | with_reducible rfl
                | with_reducible exact same_rfl
                | (refine Wr.i64 ?_ ?_; omega)
                | (refine Wr.u8 ?_ ?_; omega)
                | (refine Wr.i32 ?_ ?_; omega)
                | (with_reducible refine Br.tt ?_)
                | (with_reducible refine Br.ff ?_)
                | (refine Br.dT ?_ ?_; omega)
                | (refine Br.dF ?_ ?_; omega)
                | (refine Br.d (fun h => ?_) (fun h => ?_))
                | (refine Br.swap ?_)
                | (refine Br.bnot ?_)
                | (refine Br.mk (fun h => Step.out ?_) (fun h => Step.out ?_))
                | (refine Two.mk (Step.out ?_) (Step.out ?_))
                | (refine Cp.mk fun q hq => Step.out ?_)
                | (refine Ovl.mk (by assumption) (Step.out ?_))
                | (refine CallOK.of_ct (Step.out ?_))
                | (refine CallQ.of_ct (Step.out ?_))
                | (refine Met.by (g := 41) (rordered_ct _ (by omega) (by assumption)) ?_; rintro q outs ⟨rfl, rfl⟩)
                | (refine Met.by (g := 42) (right_ct _ _ (by assumption) (by omega)) ?_; rintro q outs ⟨rfl, rfl⟩)
                | (refine Vc.mk ?_ (Step.out ?_))
              rfl
            · rw [stp_2 a (o, p) ‹_› ‹_› (by omega)]
              repeat' first
                | (refine Step.mk ?_; conv => whnf)
                | (refine Vc.om ?_ ?_; first | omega | with_reducible rfl | with_reducible exact same_rfl | (simp only [bytes_2, bytes_3, bytes_4, bytes_5, bytes_9, bytes_12, bytes_21, bytes_22, bytes_25, bytes_29, bytes_31, bytes_40, bytes_41, bytes_43, bytes_45, bytes_46, bytes_47, bytes_48, bytes_49, bytes_52, bytes_53, bytes_60, bytes_63, bytes_67, bytes_75, bytes_79, true_and, and_true] <;> omega))
                | (refine NilB.mk fun b hb => Step.out ?_)
                | with_reducible trivial
                | exact noSh_bool _
                | exact noSh_lit _
                | exact noSh_int _ _
                | exact noSh_str _
                | with_reducible rfl
                | with_reducible exact same_rfl
                | (refine Wr.i64 ?_ ?_; omega)
                | (refine Wr.u8 ?_ ?_; omega)
                | (refine Wr.i32 ?_ ?_; omega)
                | (with_reducible refine Br.tt ?_)
                | (with_reducible refine Br.ff ?_)
                | (refine Br.dT ?_ ?_; omega)
                | (refine Br.dF ?_ ?_; omega)
                | (refine Br.d (fun h => ?_) (fun h => ?_))
                | (refine Br.swap ?_)
                | (refine Br.bnot ?_)
                | (refine Br.mk (fun h => Step.out ?_) (fun h => Step.out ?_))
                | (refine Two.mk (Step.out ?_) (Step.out ?_))
                | (refine Cp.mk fun q hq => Step.out ?_)
                | (refine Ovl.mk (by assumption) (Step.out ?_))
                | (refine CallOK.of_ct (Step.out ?_))
                | (refine CallQ.of_ct (Step.out ?_))
                | (refine Met.by (g := 41) (rordered_ct _ (by omega) (by assumption)) ?_; rintro q outs ⟨rfl, rfl⟩)
                | (refine Met.by (g := 42) (right_ct _ _ (by assumption) (by omega)) ?_; rintro q outs ⟨rfl, rfl⟩)
                | (refine Vc.mk ?_ (Step.out ?_))
              rfl
            · rw [stp_4 a (o, p) (by omega)]
              repeat' first
                | (refine Step.mk ?_; conv => whnf)
                | (refine Vc.om ?_ ?_; first | omega | with_reducible rfl | with_reducible exact same_rfl | (simp only [bytes_2, bytes_3, bytes_4, bytes_5, bytes_9, bytes_12, bytes_21, bytes_22, bytes_25, bytes_29, bytes_31, bytes_40, bytes_41, bytes_43, bytes_45, bytes_46, bytes_47, bytes_48, bytes_49, bytes_52, bytes_53, bytes_60, bytes_63, bytes_67, bytes_75, bytes_79, true_and, and_true] <;> omega))
                | (refine NilB.mk fun b hb => Step.out ?_)
                | with_reducible trivial
                | exact noSh_bool _
                | exact noSh_lit _
                | exact noSh_int _ _
                | exact noSh_str _
                | with_reducible rfl
                | with_reducible exact same_rfl
                | (refine Wr.i64 ?_ ?_; omega)
                | (refine Wr.u8 ?_ ?_; omega)
                | (refine Wr.i32 ?_ ?_; omega)
                | (with_reducible refine Br.tt ?_)
                | (with_reducible refine Br.ff ?_)
                | (refine Br.dT ?_ ?_; omega)
                | (refine Br.dF ?_ ?_; omega)
                | (refine Br.d (fun h => ?_) (fun h => ?_))
                | (refine Br.swap ?_)
                | (refine Br.bnot ?_)
                | (refine Br.mk (fun h => Step.out ?_) (fun h => Step.out ?_))
                | (refine Two.mk (Step.out ?_) (Step.out ?_))
                | (refine Cp.mk fun q hq => Step.out ?_)
                | (refine Ovl.mk (by assumption) (Step.out ?_))
                | (refine CallOK.of_ct (Step.out ?_))
                | (refine CallQ.of_ct (Step.out ?_))
                | (refine Met.by (g := 41) (rordered_ct _ (by omega) (by assumption)) ?_; rintro q outs ⟨rfl, rfl⟩)
                | (refine Met.by (g := 42) (right_ct _ _ (by assumption) (by omega)) ?_; rintro q outs ⟨rfl, rfl⟩)
                | (refine Vc.mk ?_ (Step.out ?_))
              rfl
          · have hrun : runA a l = (o, p) := by rw [hp, List.take_of_length_le hge]
            have hout : outA a l = o ++ a.drop p := by rw [outA, hrun]
            have htk : List.drop (p : Int).toNat (List.take (a.length : Int).toNat a) = a.drop p := by rw [Int.toNat_natCast, Int.toNat_natCast, List.take_of_length_le (Nat.le_refl _)]
            have hln : o ++ List.drop (p : Int).toNat (List.take (a.length : Int).toNat a) = outA a l := by rw [htk, hout]
            repeat' first
              | (refine Step.mk ?_; conv => whnf)
              | (refine Vc.om ?_ ?_; first | omega | with_reducible rfl | with_reducible exact same_rfl | (simp only [bytes_2, bytes_3, bytes_4, bytes_5, bytes_9, bytes_12, bytes_21, bytes_22, bytes_25, bytes_29, bytes_31, bytes_40, bytes_41, bytes_43, bytes_45, bytes_46, bytes_47, bytes_48, bytes_49, bytes_52, bytes_53, bytes_60, bytes_63, bytes_67, bytes_75, bytes_79, true_and, and_true] <;> omega))
              | (refine NilB.mk fun b hb => Step.out ?_)
              | with_reducible trivial
              | exact noSh_bool _
              | exact noSh_lit _
              | exact noSh_int _ _
              | exact noSh_str _
              | with_reducible rfl
              | with_reducible exact same_rfl
              | (refine Wr.i64 ?_ ?_; omega)
              | (refine Wr.u8 ?_ ?_; omega)
              | (refine Wr.i32 ?_ ?_; omega)
              | (with_reducible refine Br.tt ?_)
              | (with_reducible refine Br.ff ?_)
              | (refine Br.dT ?_ ?_; omega)
              | (refine Br.dF ?_ ?_; omega)
              | (refine Vc.om ?_ ?_; focus ((simp only [List.length_drop, List.length_take, List.length_append, Int.toNat_natCast]; omega); done))
              | (refine Wr.i64 ?_ ?_; focus ((simp only [List.length_drop, List.length_take, List.length_append, Int.toNat_natCast]; omega); done))
              | (refine Wr.u8 ?_ ?_; focus ((simp only [List.length_drop, List.length_take, List.length_append, Int.toNat_natCast]; omega); done))
              | (refine Br.dT ?_ ?_; focus ((simp only [List.length_drop, List.length_take, List.length_append, Int.toNat_natCast]; omega); done))
              | (refine Br.dF ?_ ?_; focus ((simp only [List.length_drop, List.length_take, List.length_append, Int.toNat_natCast]; omega); done))
              | (refine Br.d (fun h => ?_) (fun h => ?_))
              | (refine Br.swap ?_)
              | (refine Br.bnot ?_)
              | (refine Br.mk (fun h => Step.out ?_) (fun h => Step.out ?_))
              | (refine Two.mk (Step.out ?_) (Step.out ?_))
              | (refine Cp.mk fun q hq => Step.out ?_)
              | (refine Ovl.mk (by assumption) (Step.out ?_))
              | (refine CallOK.of_ct (Step.out ?_))
              | (refine CallQ.of_ct (Step.out ?_))
              | (refine Met.by (g := 41) (rordered_ct _ (by omega) (by assumption)) ?_; rintro q outs ⟨rfl, rfl⟩)
              | (refine Met.by (g := 42) (right_ct _ _ (by assumption) (by omega)) ?_; rintro q outs ⟨rfl, rfl⟩)
              | (refine Vc.mk ?_ (Step.out ?_))
            all_goals rw [hln] at *
            · exact appS_no (app_9 h0 ho hf h) (by decide)
            · exact (app_9 h0 ho hf h).symm
            · exact (appS_yes (app_0 h0 ho hf h)).symm
            · exact (app_0 h0 ho hf h).symm
  · exact appS_no (app_12 ‹_› (decide_eq_false ‹_›)) (by decide)
  · exact (app_12 ‹_› (decide_eq_false ‹_›)).symm
def prvB (a b : Str) (l : List Cg) : Bool := decide (appE a l = 0) && decide (appS a l = b)
theorem proves_ct (a b : Str) (l : List Cg) (hl : l.length ≤ 1000000) (hc : ∀ c ∈ l, c.ok) (ha : a.length ≤ 1000000000) : Ct Try.prog 16 [.str a, .str b, cgs l] fun r outs => r = .bool (prvB a b l) ∧ outs = [] := by
  refine .det (.of_W (fn := Try.f16) hΓ hm Try.func16 [] [] (by kernel_rfl) (Step.out ?_))
  repeat' first
    | (refine Step.mk ?_; conv => whnf)
    | (refine Vc.om ?_ ?_; first | omega | with_reducible rfl | with_reducible exact same_rfl | (simp only [bytes_2, bytes_3, bytes_4, bytes_5, bytes_9, bytes_12, bytes_21, bytes_22, bytes_25, bytes_29, bytes_31, bytes_40, bytes_41, bytes_43, bytes_45, bytes_46, bytes_47, bytes_48, bytes_49, bytes_52, bytes_53, bytes_60, bytes_63, bytes_67, bytes_75, bytes_79, true_and, and_true] <;> omega))
    | (refine NilB.mk fun b hb => Step.out ?_)
    | with_reducible trivial
    | exact noSh_bool _
    | exact noSh_lit _
    | exact noSh_int _ _
    | exact noSh_str _
    | with_reducible rfl
    | with_reducible exact same_rfl
    | (refine Wr.i64 ?_ ?_; omega)
    | (refine Wr.u8 ?_ ?_; omega)
    | (refine Wr.i32 ?_ ?_; omega)
    | (with_reducible refine Br.tt ?_)
    | (with_reducible refine Br.ff ?_)
    | (refine Br.dT ?_ ?_; omega)
    | (refine Br.dF ?_ ?_; omega)
    | (refine Br.d (fun h => ?_) (fun h => ?_))
    | (refine Br.swap ?_)
    | (refine Br.bnot ?_)
    | (refine Br.mk (fun h => Step.out ?_) (fun h => Step.out ?_))
    | (refine Two.mk (Step.out ?_) (Step.out ?_))
    | (refine Cp.mk fun q hq => Step.out ?_)
    | (refine Ovl.mk (by assumption) (Step.out ?_))
    | (refine CallOK.of_ct (Step.out ?_))
    | (refine CallQ.of_ct (Step.out ?_))
    | (refine Met.by (g := 14) (apply_ct _ _ (by omega) (by assumption) (by omega)) ?_; rintro q outs ⟨rfl, rfl⟩)
    | (refine Vc.mk ?_ (Step.out ?_))
  all_goals first
    | trivial
    | exact hb h
    | with_reducible rfl
    | with_reducible exact same_rfl
    | omega
    | ((simp [prvB, *]; done))
theorem rproves_ct (a b : Str) (l : List Cg) (hl : l.length ≤ 1000000) (hc : ∀ c ∈ l, c.ok) (ha : a.length ≤ 1000000000) : Ct Try.prog 25 [.str a, .str b, cgs l] fun r outs => r = .bool (prvB a b l) ∧ outs = [] := by
  refine .det (.of_W (fn := Try.f25) hΓ hm Try.func25 [] [] (by kernel_rfl) (Step.out ?_))
  repeat' first
    | (refine Step.mk ?_; conv => whnf)
    | (refine Vc.om ?_ ?_; first | omega | with_reducible rfl | with_reducible exact same_rfl | (simp only [bytes_2, bytes_3, bytes_4, bytes_5, bytes_9, bytes_12, bytes_21, bytes_22, bytes_25, bytes_29, bytes_31, bytes_40, bytes_41, bytes_43, bytes_45, bytes_46, bytes_47, bytes_48, bytes_49, bytes_52, bytes_53, bytes_60, bytes_63, bytes_67, bytes_75, bytes_79, true_and, and_true] <;> omega))
    | (refine NilB.mk fun b hb => Step.out ?_)
    | with_reducible trivial
    | exact noSh_bool _
    | exact noSh_lit _
    | exact noSh_int _ _
    | exact noSh_str _
    | with_reducible rfl
    | with_reducible exact same_rfl
    | (refine Wr.i64 ?_ ?_; omega)
    | (refine Wr.u8 ?_ ?_; omega)
    | (refine Wr.i32 ?_ ?_; omega)
    | (with_reducible refine Br.tt ?_)
    | (with_reducible refine Br.ff ?_)
    | (refine Br.dT ?_ ?_; omega)
    | (refine Br.dF ?_ ?_; omega)
    | (refine Br.d (fun h => ?_) (fun h => ?_))
    | (refine Br.swap ?_)
    | (refine Br.bnot ?_)
    | (refine Br.mk (fun h => Step.out ?_) (fun h => Step.out ?_))
    | (refine Two.mk (Step.out ?_) (Step.out ?_))
    | (refine Cp.mk fun q hq => Step.out ?_)
    | (refine Ovl.mk (by assumption) (Step.out ?_))
    | (refine CallOK.of_ct (Step.out ?_))
    | (refine CallQ.of_ct (Step.out ?_))
    | (refine Met.by (g := 24) (rapply_ct _ _ (by omega) (by assumption) (by omega)) ?_; rintro q outs ⟨rfl, rfl⟩)
    | (refine Vc.mk ?_ (Step.out ?_))
  all_goals first
    | trivial
    | exact hb h
    | with_reducible rfl
    | with_reducible exact same_rfl
    | omega
    | ((simp [prvB, *]; done))
theorem cg_ext {x y : Cg} (h : (x.k = y.k ∧ x.p = y.p) ∧ x.y = y.y) : x = y := by
  obtain ⟨_, _, _⟩ := x; obtain ⟨_, _, _⟩ := y; simp_all
theorem same_ct (a b : List Cg) (ha : a.length ≤ 1000000) : Ct Try.prog 23 [cgs a, cgs b] fun q outs => q = .bool (decide (a = b)) ∧ outs = [] := by
  refine .det (.of_W (fn := Try.f23) hΓ hm Try.func23 ord23 [] (by kernel_rfl) (Step.out ?_))
  repeat' first
    | (refine Step.mk ?_; conv => whnf)
    | (refine Vc.om ?_ ?_; first | omega | with_reducible rfl | with_reducible exact same_rfl | (simp only [bytes_2, bytes_3, bytes_4, bytes_5, bytes_9, bytes_12, bytes_21, bytes_22, bytes_25, bytes_29, bytes_31, bytes_40, bytes_41, bytes_43, bytes_45, bytes_46, bytes_47, bytes_48, bytes_49, bytes_52, bytes_53, bytes_60, bytes_63, bytes_67, bytes_75, bytes_79, true_and, and_true] <;> omega))
    | (refine NilB.mk fun b hb => Step.out ?_)
    | with_reducible trivial
    | exact noSh_bool _
    | exact noSh_lit _
    | exact noSh_int _ _
    | exact noSh_str _
    | with_reducible rfl
    | with_reducible exact same_rfl
    | (refine Wr.i64 ?_ ?_; omega)
    | (refine Wr.u8 ?_ ?_; omega)
    | (refine Wr.i32 ?_ ?_; omega)
    | (with_reducible refine Br.tt ?_)
    | (with_reducible refine Br.ff ?_)
    | (refine Br.dT ?_ ?_; omega)
    | (refine Br.dF ?_ ?_; omega)
    | (refine Br.d (fun h => ?_) (fun h => ?_))
    | (refine Br.swap ?_)
    | (refine Br.bnot ?_)
    | (refine Br.mk (fun h => Step.out ?_) (fun h => Step.out ?_))
    | (refine Two.mk (Step.out ?_) (Step.out ?_))
    | (refine Cp.mk fun q hq => Step.out ?_)
    | (refine Ovl.mk (by assumption) (Step.out ?_))
    | (refine CallOK.of_ct (Step.out ?_))
    | (refine CallQ.of_ct (Step.out ?_))
    | (refine Vc.mk ?_ (Step.out ?_))
  · refine CodeOK.loopW hΓ hm ord23 [] (by kernel_rfl) (α := Nat) (fun i => [(0, cgs a), (1, cgs b), (5, i64 i)]) (fun i => []) 0 (fun i => i ≤ a.length ∧ a.take i = b.take i) (fun i => a.length - i) ?_ ?_
    · refine Again.by 0 ⟨Nat.zero_le _, rfl⟩ ?_
      repeat' first
        | (refine Step.mk ?_; conv => whnf)
        | (refine Vc.om ?_ ?_; first | omega | with_reducible rfl | with_reducible exact same_rfl | (simp only [bytes_2, bytes_3, bytes_4, bytes_5, bytes_9, bytes_12, bytes_21, bytes_22, bytes_25, bytes_29, bytes_31, bytes_40, bytes_41, bytes_43, bytes_45, bytes_46, bytes_47, bytes_48, bytes_49, bytes_52, bytes_53, bytes_60, bytes_63, bytes_67, bytes_75, bytes_79, true_and, and_true] <;> omega))
        | (refine NilB.mk fun b hb => Step.out ?_)
        | with_reducible trivial
        | exact noSh_bool _
        | exact noSh_lit _
        | exact noSh_int _ _
        | exact noSh_str _
        | with_reducible rfl
        | with_reducible exact same_rfl
        | (refine Wr.i64 ?_ ?_; omega)
        | (refine Wr.u8 ?_ ?_; omega)
        | (refine Wr.i32 ?_ ?_; omega)
        | (with_reducible refine Br.tt ?_)
        | (with_reducible refine Br.ff ?_)
        | (refine Br.dT ?_ ?_; omega)
        | (refine Br.dF ?_ ?_; omega)
        | (refine Br.d (fun h => ?_) (fun h => ?_))
        | (refine Br.swap ?_)
        | (refine Br.bnot ?_)
        | (refine Br.mk (fun h => Step.out ?_) (fun h => Step.out ?_))
        | (refine Two.mk (Step.out ?_) (Step.out ?_))
        | (refine Cp.mk fun q hq => Step.out ?_)
        | (refine Ovl.mk (by assumption) (Step.out ?_))
        | (refine CallOK.of_ct (Step.out ?_))
        | (refine CallQ.of_ct (Step.out ?_))
        | (refine Vc.mk ?_ (Step.out ?_))
    · intro i ⟨h1, h2⟩
      repeat' first
        | (refine Step.mk ?_; conv => whnf)
        | (refine Vc.om ?_ ?_; first | omega | with_reducible rfl | with_reducible exact same_rfl | (simp only [bytes_2, bytes_3, bytes_4, bytes_5, bytes_9, bytes_12, bytes_21, bytes_22, bytes_25, bytes_29, bytes_31, bytes_40, bytes_41, bytes_43, bytes_45, bytes_46, bytes_47, bytes_48, bytes_49, bytes_52, bytes_53, bytes_60, bytes_63, bytes_67, bytes_75, bytes_79, true_and, and_true] <;> omega))
        | (refine NilB.mk fun b hb => Step.out ?_)
        | with_reducible trivial
        | exact noSh_bool _
        | exact noSh_lit _
        | exact noSh_int _ _
        | exact noSh_str _
        | with_reducible rfl
        | with_reducible exact same_rfl
        | (refine Wr.i64 ?_ ?_; omega)
        | (refine Wr.u8 ?_ ?_; omega)
        | (refine Wr.i32 ?_ ?_; omega)
        | (with_reducible refine Br.tt ?_)
        | (with_reducible refine Br.ff ?_)
        | (refine Br.dT ?_ ?_; omega)
        | (refine Br.dF ?_ ?_; omega)
        | (refine Br.d (fun h => ?_) (fun h => ?_))
        | (refine Br.swap ?_)
        | (refine Br.bnot ?_)
        | (refine Br.mk (fun h => Step.out ?_) (fun h => Step.out ?_))
        | (refine Two.mk (Step.out ?_) (Step.out ?_))
        | (refine Cp.mk fun q hq => Step.out ?_)
        | (refine Ovl.mk (by assumption) (Step.out ?_))
        | (refine CallOK.of_ct (Step.out ?_))
        | (refine CallQ.of_ct (Step.out ?_))
        | (refine Vc.mk ?_ (Step.out ?_))
      all_goals try simp only [Int.toNat_natCast] at *
      · refine Again.by (i + 1) ⟨⟨by omega, ?_⟩, by omega⟩ ?_
        · rw [take_step a Cg.z i (by omega), take_step b Cg.z i (by omega), h2, cg_ext h]
        · repeat' first
            | (refine Step.mk ?_; conv => whnf)
            | (refine Vc.om ?_ ?_; first | omega | with_reducible rfl | with_reducible exact same_rfl | (simp only [bytes_2, bytes_3, bytes_4, bytes_5, bytes_9, bytes_12, bytes_21, bytes_22, bytes_25, bytes_29, bytes_31, bytes_40, bytes_41, bytes_43, bytes_45, bytes_46, bytes_47, bytes_48, bytes_49, bytes_52, bytes_53, bytes_60, bytes_63, bytes_67, bytes_75, bytes_79, true_and, and_true] <;> omega))
            | (refine NilB.mk fun b hb => Step.out ?_)
            | with_reducible trivial
            | exact noSh_bool _
            | exact noSh_lit _
            | exact noSh_int _ _
            | exact noSh_str _
            | with_reducible rfl
            | with_reducible exact same_rfl
            | (refine Wr.i64 ?_ ?_; omega)
            | (refine Wr.u8 ?_ ?_; omega)
            | (refine Wr.i32 ?_ ?_; omega)
            | (with_reducible refine Br.tt ?_)
            | (with_reducible refine Br.ff ?_)
            | (refine Br.dT ?_ ?_; omega)
            | (refine Br.dF ?_ ?_; omega)
            | (refine Br.d (fun h => ?_) (fun h => ?_))
            | (refine Br.swap ?_)
            | (refine Br.bnot ?_)
            | (refine Br.mk (fun h => Step.out ?_) (fun h => Step.out ?_))
            | (refine Two.mk (Step.out ?_) (Step.out ?_))
            | (refine Cp.mk fun q hq => Step.out ?_)
            | (refine Ovl.mk (by assumption) (Step.out ?_))
            | (refine CallOK.of_ct (Step.out ?_))
            | (refine CallQ.of_ct (Step.out ?_))
            | (refine Vc.mk ?_ (Step.out ?_))
      · symm
        refine decide_eq_false fun e => ?_
        subst e
        simp at h
      · symm
        refine decide_eq_true ?_
        rw [List.take_of_length_le (by omega), List.take_of_length_le (by omega)] at h2
        exact h2
  · symm
    refine decide_eq_false fun e => ?_
    subst e
    exact h rfl
end Kx
