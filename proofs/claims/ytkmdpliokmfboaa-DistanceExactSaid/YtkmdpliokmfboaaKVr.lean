/-
  The laws Script, Ends, Bounds.
  No condition beyond those written in each theorem.
-/
import Derived.Test.YtkmdpliokmfboaaKVq
open Go Sx Go.Proofs
set_option linter.unusedSimpArgs false
set_option linter.unusedVariables false
namespace Kx
theorem pick2 (n : Nat) (d : Dk) (t u : Str) (ht : t.length ≤ n) (hu : u.length ≤ n) : Ct Try.prog 12 [d.b, .tab 1 2 fun i => selC [[D.str t], [D.str u]] i] fun r outs => ∃ (x : Str) (d' : Dk), x.length ≤ n ∧ r = .str x ∧ outs = [Dk.b d'] :=
  picksP_ct (fun s => s.length ≤ n) d [t, u] (fun x hx => by
    rcases List.mem_cons.1 hx with rfl | hx
    · exact ht
    · rw [List.mem_singleton.1 hx]; exact hu) (by simp) (by simp)
theorem pick3 (n : Nat) (d : Dk) (t u v : Str) (ht : t.length ≤ n) (hu : u.length ≤ n) (hv : v.length ≤ n) : Ct Try.prog 12 [d.b, .tab 1 3 fun i => selC [[D.str t], [D.str u], [D.str v]] i] fun r outs => ∃ (x : Str) (d' : Dk), x.length ≤ n ∧ r = .str x ∧ outs = [Dk.b d'] :=
  picksP_ct (fun s => s.length ≤ n) d [t, u, v] (fun x hx => by
    rcases List.mem_cons.1 hx with rfl | hx
    · exact ht
    rcases List.mem_cons.1 hx with rfl | hx
    · exact hu
    · rw [List.mem_singleton.1 hx]; exact hv) (by simp) (by simp)
theorem sl_eq {a b : Str} (ha : a.length ≤ 64) (hb : b.length ≤ 64) : scriptL a b = script a b := by rw [scriptL, if_neg (by omega)]
theorem sl_ok (a b : Str) : ∀ c ∈ scriptL a b, c.ok := fun c hc => by
  rw [scriptL] at hc
  split at hc
  · simp at hc
  · exact (good_script a b).1.ok (by omega) c hc
theorem sl_len (a b : Str) : (scriptL a b).length ≤ 1000000 := by
  rw [scriptL]
  split
  · simp
  · rw [(good_script a b).2.1]; have := dist_le a b; omega
theorem sl_app {a b : Str} (ha : a.length ≤ 64) (hb : b.length ≤ 64) : appE a (scriptL a b) = 0 ∧ appS a (scriptL a b) = b ∧ prvB a b (scriptL a b) = true ∧ (scriptL a b).length = dist a b := by
  obtain ⟨h1, h2, h3⟩ := good_script a b
  rw [sl_eq ha hb]
  obtain ⟨e1, e2⟩ := h1.e ha (by rw [h3]; omega)
  rw [h3] at e2
  exact ⟨e1, e2, by simp [prvB, e1, e2], h2⟩
theorem sl_dist {a b : Str} (ha : a.length ≤ 64) (hb : b.length ≤ 64) : ((scriptL a b).length : Int) = ed a b := by rw [(ed_eq ha hb).1, (sl_app ha hb).2.2.2]
set_option maxHeartbeats 4000000 in
theorem scripts_ct (y0 : List Int) : Ct Try.prog 4 [ints y0] fun r outs => r = .bool true ∧ outs = [] := by
  refine .det (.of_W (fn := Try.f4) hΓ hm Try.func4 [] [] (by kernel_rfl) (Step.out ?_))
  repeat' first
    | (refine Step.mk ?_; conv => whnf)
    | (refine Vc.om ?_ ?_; first | omega | with_reducible rfl | with_reducible exact same_rfl | (simp only [bytes_2, bytes_3, bytes_4, bytes_5, bytes_9, bytes_12, bytes_21, bytes_22, bytes_25, bytes_29, bytes_31, bytes_40, bytes_41, bytes_43, bytes_45, bytes_46, bytes_47, bytes_48, bytes_49, bytes_52, bytes_53, bytes_60, bytes_63, bytes_67, bytes_75, bytes_79, true_and, and_true] <;> omega))
    | (refine NilB.mk fun b hb => Step.out ?_)
    | with_reducible trivial
    | exact noSh_bool _
    | exact noSh_lit _
    | exact noSh_int _ _
    | exact noSh_str _
    | with_reducible rfl
    | with_reducible exact same_rfl
    | (refine Wr.i64 ?_ ?_; omega)
    | (refine Wr.u8 ?_ ?_; omega)
    | (refine Wr.i32 ?_ ?_; omega)
    | (with_reducible refine Br.tt ?_)
    | (with_reducible refine Br.ff ?_)
    | (refine Br.dT ?_ ?_; omega)
    | (refine Br.dF ?_ ?_; omega)
    | (refine Met.by (pick2 12 _ _ _ (by omega) (by omega)) ?_; rintro q outs ⟨B, d, hB, rfl, rfl⟩)
    | (refine Met.by (apply_ct _ (scriptL _ _) (sl_len _ _) (sl_ok _ _) (by omega)) ?_; rintro q outs ⟨rfl, rfl⟩)
    | (refine Met.by (proves_ct _ _ (scriptL _ _) (sl_len _ _) (sl_ok _ _) (by omega)) ?_; rintro q outs ⟨rfl, rfl⟩)
    | (refine Br.d (fun h => ?_) (fun h => ?_))
    | (refine Br.swap ?_)
    | (refine Br.bnot ?_)
    | (refine Br.mk (fun h => Step.out ?_) (fun h => Step.out ?_))
    | (refine Two.mk (Step.out ?_) (Step.out ?_))
    | (refine Cp.mk fun q hq => Step.out ?_)
    | (refine Ovl.mk (by assumption) (Step.out ?_))
    | (refine CallOK.io1 (g := 11) (Step.out ?_))
    | (refine CallOK.io1F (g := 12) (Step.out ?_))
    | (refine CallOK.io1 (g := 17) (Step.out ?_))
    | (refine CallOK.of_ct (Step.out ?_))
    | (refine CallQ.of_ct (Step.out ?_))
    | (refine Met.by (g := 8) (awake_ct) ?_; rintro q outs ⟨rfl, rfl⟩)
    | (refine Met.by (g := 9) (few_ct _) ?_; rintro q outs ⟨rfl, rfl⟩)
    | (refine Met.by (g := 10) (new_ct _ (by assumption)) ?_; rintro q outs ⟨d, hd, rfl, rfl⟩)
    | (refine Met.by (g := 11) (token_ct _) ?_; rintro q outs ⟨x, d, ⟨hx1, hx2, hx3⟩, rfl, rfl⟩)
    | (refine Met.by (g := 12) (picks_ct _ [] (by first | omega | decide | (simp; done) | (simp; omega)) (by first | omega | decide | (simp; done) | (simp; omega))) ?_; rintro q outs ⟨x, d, hx, rfl, rfl⟩)
    | (refine Met.by (g := 14) (apply_ct _ _ (by omega) (by assumption) (by omega)) ?_; rintro q outs ⟨rfl, rfl⟩)
    | (refine Met.by (g := 15) (edit_ct _ _ (by first | omega | decide | (simp; done) | (simp; omega)) (by first | omega | decide | (simp; done) | (simp; omega))) ?_; rintro q outs ⟨rfl, rfl⟩)
    | (refine Met.by (g := 16) (proves_ct _ _ _ (by omega) (by assumption) (by omega)) ?_; rintro q outs ⟨rfl, rfl⟩)
    | (refine Met.by (g := 17) (bent_ct _ _ _ (by omega) (by omega)) ?_; rintro q outs ⟨t, d, ht, rfl, rfl⟩)
    | (refine Met.by (g := 18) (script_ct _ _ (by first | omega | decide | (simp; done) | (simp; omega)) (by first | omega | decide | (simp; done) | (simp; omega))) ?_; rintro q outs ⟨rfl, rfl⟩)
    | (refine Vc.mk ?_ (Step.out ?_))
  all_goals first
    | exact (sl_app (by omega) (by omega)).2.2.1
    | exact absurd (sl_app (by omega) (by omega)).2.1 h
    | exact absurd (sl_app (by omega) (by omega)).1 h
    | exact absurd (ed_eq (by omega) (by omega)).2 h
    | exact absurd (sl_dist (by omega) (by omega)) h
theorem pick3a (d : Dk) : Ct Try.prog 12 [d.b, .tab 1 3 fun i => selC [[D.str []], [D.str [120]], [D.str [97, 98]]] i] fun r outs => ∃ (x : Str) (d' : Dk), x.length ≤ 2 ∧ r = .str x ∧ outs = [Dk.b d'] := pick3 2 d _ _ _ (by decide) (by decide) (by decide)
theorem pick3b (d : Dk) : Ct Try.prog 12 [d.b, .tab 1 3 fun i => selC [[D.str []], [D.str [122]], [D.str [97, 97]]] i] fun r outs => ∃ (x : Str) (d' : Dk), x.length ≤ 2 ∧ r = .str x ∧ outs = [Dk.b d'] := pick3 2 d _ _ _ (by decide) (by decide) (by decide)
theorem ed_ends {a b p q : Str} (h : a.length ≤ 8 ∧ b.length ≤ 8 ∧ p.length ≤ 2 ∧ q.length ≤ 2) : ed (p ++ a ++ q) (p ++ b ++ q) ≤ ed a b ∧ errL (p ++ a ++ q) (p ++ b ++ q) = 0 := by
  have l1 : (p ++ a ++ q).length ≤ 64 := by simp only [List.length_append]; omega
  have l2 : (p ++ b ++ q).length ≤ 64 := by simp only [List.length_append]; omega
  have := dist_ends a b p q
  have h1 := ed_eq l1 l2
  have h2 := ed_eq (a := a) (b := b) (by omega) (by omega)
  refine ⟨?_, h1.2⟩
  rw [h1.1, h2.1]; omega
set_option maxHeartbeats 4000000 in
theorem ends_ct (y0 : List Int) : Ct Try.prog 5 [ints y0] fun r outs => r = .bool true ∧ outs = [] := by
  refine .det (.of_W (fn := Try.f5) hΓ hm Try.func5 [] [] (by kernel_rfl) (Step.out ?_))
  repeat' first
    | (refine Step.mk ?_; conv => whnf)
    | (refine Vc.om ?_ ?_; first | omega | with_reducible rfl | with_reducible exact same_rfl | (simp only [bytes_2, bytes_3, bytes_4, bytes_5, bytes_9, bytes_12, bytes_21, bytes_22, bytes_25, bytes_29, bytes_31, bytes_40, bytes_41, bytes_43, bytes_45, bytes_46, bytes_47, bytes_48, bytes_49, bytes_52, bytes_53, bytes_60, bytes_63, bytes_67, bytes_75, bytes_79, true_and, and_true] <;> omega))
    | (refine NilB.mk fun b hb => Step.out ?_)
    | with_reducible trivial
    | exact noSh_bool _
    | exact noSh_lit _
    | exact noSh_int _ _
    | exact noSh_str _
    | with_reducible rfl
    | with_reducible exact same_rfl
    | (refine Wr.i64 ?_ ?_; omega)
    | (refine Wr.u8 ?_ ?_; omega)
    | (refine Wr.i32 ?_ ?_; omega)
    | (with_reducible refine Br.tt ?_)
    | (with_reducible refine Br.ff ?_)
    | (refine Br.dT ?_ ?_; omega)
    | (refine Br.dF ?_ ?_; omega)
    | (refine Met.by (pick3a _) ?_; rintro q outs ⟨p, d, hp, rfl, rfl⟩)
    | (refine Met.by (pick3b _) ?_; rintro q outs ⟨q, d, hq, rfl, rfl⟩)
    | (refine Vc.om ?_ ?_; focus ((simp only [List.length_append]; omega); done))
    | (refine Wr.i64 ?_ ?_; focus ((simp only [List.length_append]; omega); done))
    | (refine Wr.u8 ?_ ?_; focus ((simp only [List.length_append]; omega); done))
    | (refine Br.dT ?_ ?_; focus ((simp only [List.length_append]; omega); done))
    | (refine Br.dF ?_ ?_; focus ((simp only [List.length_append]; omega); done))
    | (refine Br.d (fun h => ?_) (fun h => ?_))
    | (refine Br.swap ?_)
    | (refine Br.bnot ?_)
    | (refine Br.mk (fun h => Step.out ?_) (fun h => Step.out ?_))
    | (refine Two.mk (Step.out ?_) (Step.out ?_))
    | (refine Cp.mk fun q hq => Step.out ?_)
    | (refine Ovl.mk (by assumption) (Step.out ?_))
    | (refine CallOK.io1 (g := 11) (Step.out ?_))
    | (refine CallOK.io1F (g := 12) (Step.out ?_))
    | (refine CallOK.of_ct (Step.out ?_))
    | (refine CallQ.of_ct (Step.out ?_))
    | (refine Met.by (g := 8) (awake_ct) ?_; rintro q outs ⟨rfl, rfl⟩)
    | (refine Met.by (g := 9) (few_ct _) ?_; rintro q outs ⟨rfl, rfl⟩)
    | (refine Met.by (g := 10) (new_ct _ (by assumption)) ?_; rintro q outs ⟨d, hd, rfl, rfl⟩)
    | (refine Met.by (g := 11) (token_ct _) ?_; rintro q outs ⟨x, d, ⟨hx1, hx2, hx3⟩, rfl, rfl⟩)
    | (refine Met.by (g := 12) (picks_ct _ [] (by first | omega | decide | (simp; done) | (simp; omega)) (by first | omega | decide | (simp; done) | (simp; omega))) ?_; rintro q outs ⟨x, d, hx, rfl, rfl⟩)
    | (refine Met.by (g := 15) (edit_ct _ _ (by first | omega | decide | (simp; done) | (simp; omega)) (by first | omega | decide | (simp; done) | (simp; omega))) ?_; rintro q outs ⟨rfl, rfl⟩)
    | (refine Vc.mk ?_ (Step.out ?_))
  all_goals first
    | exact decide_eq_true (ed_ends (by omega)).1
    | exact absurd (ed_ends (by omega)).2 h
    | exact absurd (ed_eq (by omega) (by omega)).2 h
theorem quo_lt {M e : Int} (h : 0 ≤ e ∧ e ≤ M) (hM : M ≠ 0) (hb : M ≤ 64) : (1000 * (M - e)).tdiv M = 1000 ↔ e = 0 := by
  rw [Int.tdiv_eq_ediv_of_nonneg (by omega)]
  constructor
  · intro hq
    have := Int.mul_ediv_add_emod (1000 * (M - e)) M
    have h2 := Int.emod_nonneg (1000 * (M - e)) hM
    rw [hq] at this
    omega
  · rintro rfl
    rw [Int.sub_zero, Int.mul_ediv_cancel _ hM]
theorem ed_zero {a b : Str} (ha : a.length ≤ 64) (hb : b.length ≤ 64) : ed a b = 0 ↔ a = b := by
  rw [(ed_eq ha hb).1, ← dist_zero]; omega
theorem ed_le {a b : Str} (ha : a.length ≤ 64) (hb : b.length ≤ 64) : ed a b ≤ max (a.length : Int) b.length ∧ max (a.length : Int) b.length - min (a.length : Int) b.length ≤ ed a b ∧ ed a b = ed b a := by
  have h1 := dist_le a b
  have h2 := dist_diff a b
  rw [(ed_eq ha hb).1, (ed_eq hb ha).1, dist_symm b a]; omega
theorem sim_all {a b : Str} (ha : a.length ≤ 64) (hb : b.length ≤ 64) : 0 ≤ sim a b ∧ sim a b ≤ 1000 ∧ (sim a b = 1000 ↔ a = b) := by
  have h1 := ed_le ha hb
  have h0 := ed_bd a b
  have hz := ed_zero ha hb
  rw [sim, if_neg (by omega)]
  split
  · refine ⟨by decide, by decide, fun _ => ?_, fun _ => rfl⟩
    rw [List.length_eq_zero_iff.1 (show a.length = 0 by omega), List.length_eq_zero_iff.1 (show b.length = 0 by omega)]
  · rename_i hM
    have hq := quo_bd ⟨h0.1, h1.1⟩ hM
    exact ⟨hq.1, hq.2, (quo_lt ⟨h0.1, h1.1⟩ hM (by omega)).trans hz⟩
theorem dec_eq {p q : Prop} [Decidable p] [Decidable q] (h : p ↔ q) : decide p = decide q := by
  by_cases hq : q
  · rw [decide_eq_true hq, decide_eq_true (h.2 hq)]
  · rw [decide_eq_false hq, decide_eq_false (fun hp => hq (h.1 hp))]
set_option maxHeartbeats 4000000 in
theorem bounds_ct (y0 : List Int) : Ct Try.prog 7 [ints y0] fun r outs => r = .bool true ∧ outs = [] := by
  refine .det (.of_W (fn := Try.f7) hΓ hm Try.func7 [] [] (by kernel_rfl) (Step.out ?_))
  repeat' first
    | (refine Step.mk ?_; conv => whnf)
    | (refine Vc.om ?_ ?_; first | omega | with_reducible rfl | with_reducible exact same_rfl | (simp only [bytes_2, bytes_3, bytes_4, bytes_5, bytes_9, bytes_12, bytes_21, bytes_22, bytes_25, bytes_29, bytes_31, bytes_40, bytes_41, bytes_43, bytes_45, bytes_46, bytes_47, bytes_48, bytes_49, bytes_52, bytes_53, bytes_60, bytes_63, bytes_67, bytes_75, bytes_79, true_and, and_true] <;> omega))
    | (refine NilB.mk fun b hb => Step.out ?_)
    | with_reducible trivial
    | exact noSh_bool _
    | exact noSh_lit _
    | exact noSh_int _ _
    | exact noSh_str _
    | with_reducible rfl
    | with_reducible exact same_rfl
    | (refine Wr.i64 ?_ ?_; omega)
    | (refine Wr.u8 ?_ ?_; omega)
    | (refine Wr.i32 ?_ ?_; omega)
    | (with_reducible refine Br.tt ?_)
    | (with_reducible refine Br.ff ?_)
    | (refine Br.dT ?_ ?_; omega)
    | (refine Br.dF ?_ ?_; omega)
    | (refine Met.by (pick3 12 _ _ _ _ (by omega) (by omega) (by omega)) ?_; rintro q outs ⟨B, d, hB, rfl, rfl⟩)
    | (refine Br.d (fun h => ?_) (fun h => ?_))
    | (refine Br.swap ?_)
    | (refine Br.bnot ?_)
    | (refine Br.mk (fun h => Step.out ?_) (fun h => Step.out ?_))
    | (refine Two.mk (Step.out ?_) (Step.out ?_))
    | (refine Cp.mk fun q hq => Step.out ?_)
    | (refine Ovl.mk (by assumption) (Step.out ?_))
    | (refine CallOK.io1 (g := 11) (Step.out ?_))
    | (refine CallOK.io1F (g := 12) (Step.out ?_))
    | (refine CallOK.io1 (g := 17) (Step.out ?_))
    | (refine CallOK.of_ct (Step.out ?_))
    | (refine CallQ.of_ct (Step.out ?_))
    | (refine Met.by (g := 8) (awake_ct) ?_; rintro q outs ⟨rfl, rfl⟩)
    | (refine Met.by (g := 9) (few_ct _) ?_; rintro q outs ⟨rfl, rfl⟩)
    | (refine Met.by (g := 10) (new_ct _ (by assumption)) ?_; rintro q outs ⟨d, hd, rfl, rfl⟩)
    | (refine Met.by (g := 11) (token_ct _) ?_; rintro q outs ⟨x, d, ⟨hx1, hx2, hx3⟩, rfl, rfl⟩)
    | (refine Met.by (g := 12) (picks_ct _ [] (by first | omega | decide | (simp; done) | (simp; omega)) (by first | omega | decide | (simp; done) | (simp; omega))) ?_; rintro q outs ⟨x, d, hx, rfl, rfl⟩)
    | (refine Met.by (g := 15) (edit_ct _ _ (by first | omega | decide | (simp; done) | (simp; omega)) (by first | omega | decide | (simp; done) | (simp; omega))) ?_; rintro q outs ⟨rfl, rfl⟩)
    | (refine Met.by (g := 17) (bent_ct _ _ _ (by omega) (by omega)) ?_; rintro q outs ⟨t, d, ht, rfl, rfl⟩)
    | (refine Met.by (g := 21) (similar_ct _ _ (by first | omega | decide | (simp; done) | (simp; omega)) (by first | omega | decide | (simp; done) | (simp; omega))) ?_; rintro q outs ⟨rfl, rfl⟩)
    | (refine Vc.mk ?_ (Step.out ?_))
  all_goals first
    | exact absurd (ed_eq (by omega) (by omega)).2 h
    | exact absurd (ed_le (by omega) (by omega)).1 h
    | exact absurd (ed_le (by omega) (by omega)).2.1 h
    | exact absurd (ed_le (by omega) (by omega)).2.2 h
    | exact absurd (sim_all (by omega) (by omega)).1 h
    | exact absurd (sim_all (by omega) (by omega)).2.1 h
    | exact absurd (dec_eq (ed_zero (by omega) (by omega))) h
    | exact beq_iff_eq.2 (dec_eq (sim_all (by omega) (by omega)).2.2)
end Kx
