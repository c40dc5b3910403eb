/-
  channel: state, Check.
  No condition beyond those written in each theorem.
-/
import Derived.Test.YtnjjjmknmoenmaaKEa
open Go Sx Go.Proofs
set_option linter.unusedSimpArgs false
set_option linter.unusedVariables false
namespace Kx
def mAt (c : Ch) (i : Nat) : Int := if i = 0 then c.exp else (c.held.getD (i - 1) (0, [])).1
theorem held_step (c : Ch) (i : Nat) (m : Int) (h : i < c.held.length) : c.heldB m (c.held.drop i) = (decide (c.exp < (c.held.getD i (0, [])).1) && decide (m < (c.held.getD i (0, [])).1) && c.right (c.held.getD i (0, [])) && c.heldB (c.held.getD i (0, [])).1 (c.held.drop (i + 1))) := by
  rw [drop_step c.held (0, []) i h]; rfl
theorem stateB_F {c : Ch} (h : c.heldB c.exp c.held = false) : c.stateB = false := by
  rw [Ch.stateB, h]; simp
theorem held_F1 (c : Ch) (i : Nat) (m : Int) (h : i < c.held.length) (h1 : (c.held.getD (i : Int).toNat (0, [])).1 ≤ c.exp) : c.heldB m (c.held.drop i) = false := by
  rw [Int.toNat_natCast] at h1
  rw [held_step c i m h, decide_eq_false (by omega)]; rfl
theorem held_F2 (c : Ch) (i : Nat) (h : i < c.held.length) (h0 : 0 < i) (h1 : (c.held.getD (i : Int).toNat (0, [])).1 ≤ (c.held.getD ((i : Int) - 1).toNat (0, [])).1) : c.heldB (mAt c i) (c.held.drop i) = false := by
  rw [Int.toNat_natCast, show ((i : Int) - 1).toNat = i - 1 by omega] at h1
  rw [held_step c i _ h, mAt, if_neg (by omega), decide_eq_false (show ¬ (c.held.getD (i - 1) (0, [])).1 < (c.held.getD i (0, [])).1 by omega), Bool.and_false]; rfl
theorem held_F3 (c : Ch) (i : Nat) (m : Int) (h : i < c.held.length) (h1 : c.right (c.held.getD (i : Int).toNat (0, [])) = false) : c.heldB m (c.held.drop i) = false := by
  rw [Int.toNat_natCast] at h1
  rw [held_step c i m h, h1, Bool.and_false]; rfl
theorem held_T (c : Ch) (i : Nat) (h : i < c.held.length) (h1 : ¬(c.held.getD (i : Int).toNat (0, [])).1 ≤ c.exp) (h2 : (0 : Int) < (i : Int) → ¬(c.held.getD (i : Int).toNat (0, [])).1 ≤ (c.held.getD ((i : Int) - 1).toNat (0, [])).1) (h3 : c.right (c.held.getD (i : Int).toNat (0, [])) = true) :
    c.heldB (mAt c i) (c.held.drop i) = c.heldB (mAt c (i + 1)) (c.held.drop (i + 1)) := by
  rw [Int.toNat_natCast] at h1 h2 h3
  rw [held_step c i _ h, h3, decide_eq_true (by omega), Bool.true_and, Bool.and_true]
  have : mAt c i < (c.held.getD i (0, [])).1 := by
    rw [mAt]
    split
    · omega
    · have := h2 (by omega)
      rw [show ((i : Int) - 1).toNat = i - 1 by omega] at this
      omega
  rw [decide_eq_true this, Bool.true_and, mAt, if_neg (by omega), Nat.add_sub_cancel]
theorem stat1_ct (c : Ch) (hc : c.ok) (p : Pk) : Ct Try.prog 71 [.agg (pkF p), .ref c.l] fun r _ => r = .bool (decide (p.1 < 1) || !c.right p) := by
  refine Ct.mono (R := fun r outs => r = .bool (decide (p.1 < 1) || !c.right p) ∧ outs = []) ?_ (fun _ _ h => h.1)
  refine .det (.of_W (fn := Try.f71) hΓ hm Try.func71 [] [] (by kernel_rfl) (Step.out ?_))
  repeat' first
    | (refine Step.mk ?_; conv => whnf)
    | with_reducible trivial
    | (refine Br.d (fun h => ?_) (fun h => ?_))
    | (refine Br.swap ?_)
    | (refine Two.mk (Step.out ?_) (Step.out ?_))
    | (refine CallOK.of_ct (Step.out ?_))
    | (refine Met.by (g := 69) (right_ct _ (by assumption) _) ?_; rintro q outs ⟨rfl, rfl⟩)
  all_goals first
    | trivial
    | exact hb h
    | with_reducible rfl
    | with_reducible exact same_rfl
    | omega
    | ((simp [*]; done))
theorem stat2_ct (c : Ch) (n : Int) : Ct Try.prog 73 [i64 n, .ref c.l] fun r _ => r = .bool (decide (n < 1) || decide (c.exp < n)) := by
  refine Ct.mono (R := fun r outs => r = .bool (decide (n < 1) || decide (c.exp < n)) ∧ outs = []) ?_ (fun _ _ h => h.1)
  refine .det (.of_W (fn := Try.f73) hΓ hm Try.func73 [] [] (by kernel_rfl) (Step.out ?_))
  repeat' first
    | (refine Step.mk ?_; conv => whnf)
    | with_reducible trivial
    | (refine Br.d (fun h => ?_) (fun h => ?_))
    | (refine Br.swap ?_)
    | (refine Two.mk (Step.out ?_) (Step.out ?_))
  all_goals first
    | trivial
    | exact hb h
    | with_reducible rfl
    | with_reducible exact same_rfl
    | omega
    | ((simp [*]; done))
theorem state_ct (c : Ch) (hc : c.ok) : Ct Try.prog 48 [c.d] fun r outs => r = .bool c.stateB ∧ outs = [] := by
  have hc' := hc
  obtain ⟨h1, h2, h3, h4, h5, h6⟩ := hc
  refine .det (.of_W (fn := Try.f48) hΓ hm Try.func48 ord48 [] (by kernel_rfl) (Step.out ?_))
  repeat' first
    | (refine Step.mk ?_; conv => whnf)
    | with_reducible trivial
    | (refine Wr.i64 ?_ ?_; omega)
    | (refine Br.d (fun h => ?_) (fun h => ?_))
    | (refine Br.swap ?_)
    | (refine Two.mk (Step.out ?_) (Step.out ?_))
    | (refine CallQ.of_ct (Step.out ?_))
    | (refine Met.by (g := 68) (reach_ct _ (by assumption)) ?_; rintro q outs ⟨rfl, rfl⟩)
  · rw [Ch.stateB, decide_eq_false (show ¬c.base + c.wait.length ≤ 1048576 by omega)]; simp only [Bool.false_and]
  · rw [Ch.stateB, decide_eq_false (show ¬c.base ≤ c.exp by omega), Bool.and_false]; simp only [Bool.false_and]
  · rw [Ch.stateB, decide_eq_false (show ¬c.exp ≤ c.reach by omega), Bool.and_false]; simp only [Bool.false_and]
  · refine CodeOK.loopW hΓ hm ord48 [] (by kernel_rfl) (α := Nat) (fun i => [(1, .loc 0 0), (27, pks c.held), (28, i64 c.held.length), (29, i64 i)]) (fun i => [(0, .var c.l)]) 1 (fun i => i ≤ c.held.length ∧ c.heldB c.exp c.held = c.heldB (mAt c i) (c.held.drop i)) (fun i => c.held.length - i) ?_ ?_
    · refine Again.by 0 ⟨Nat.zero_le _, rfl⟩ ?_
      repeat' first
        | (refine Step.mk ?_; conv => whnf)
        | (refine Vc.om ?_ ?_; first | omega | with_reducible rfl | with_reducible exact same_rfl)
        | with_reducible trivial
    · intro i ⟨hi, hv⟩
      repeat' first
        | (refine Step.mk ?_; conv => whnf)
        | (refine Vc.om ?_ ?_; first | omega | with_reducible rfl | with_reducible exact same_rfl)
        | with_reducible trivial
        | exact noSh_bool _
        | (refine Wr.i64 ?_ ?_; omega)
        | (refine Met.by (confP_ct c.there 71 [.ref c.l] _ (by omega) rfl (fun x _ => stat1_ct c hc' x)) ?_; rintro q outs ⟨rfl, rfl⟩)
        | (refine Met.by (conf_ct c.back 73 [.ref c.l] _ (by omega) rfl (fun x _ => stat2_ct c x)) ?_; rintro q outs ⟨rfl, rfl⟩)
        | (refine Br.d (fun h => ?_) (fun h => ?_))
        | (refine Br.swap ?_)
        | (refine Br.bnot ?_)
        | (refine Br.mk (fun h => Step.out ?_) (fun h => Step.out ?_))
        | (refine Two.mk (Step.out ?_) (Step.out ?_))
        | (refine CallOK.of_ct (Step.out ?_))
        | (refine CallQ.of_ct (Step.out ?_))
        | (refine Met.by (g := 69) (right_ct _ (by assumption) _) ?_; rintro q outs ⟨rfl, rfl⟩)
        | (refine Vc.mk ?_ (Step.out ?_))
      · rw [stateB_F (hv.trans (held_F1 c i _ (by omega) ‹_›))]
      · rw [stateB_F (hv.trans (held_F2 c i (by omega) (by omega) ‹_›))]
      · refine Again.by (i + 1) ⟨⟨by omega, hv.trans (held_T c i (by omega) ‹_› (fun h0 => ‹_›) ‹_›)⟩, by omega⟩ ?_
        repeat' first
          | (refine Step.mk ?_; conv => whnf)
          | (refine Vc.om ?_ ?_; first | omega | with_reducible rfl | with_reducible exact same_rfl)
          | with_reducible trivial
      · rw [stateB_F (hv.trans (held_F3 c i _ (by omega) ‹_›))]
      · refine Again.by (i + 1) ⟨⟨by omega, hv.trans (held_T c i (by omega) ‹_› (fun h0 => absurd h0 ‹_›) ‹_›)⟩, by omega⟩ ?_
        repeat' first
          | (refine Step.mk ?_; conv => whnf)
          | (refine Vc.om ?_ ?_; first | omega | with_reducible rfl | with_reducible exact same_rfl)
          | with_reducible trivial
      · rw [stateB_F (hv.trans (held_F3 c i _ (by omega) ‹_›))]
      · rw [Ch.stateB, ‹(c.there.any _) = true›, Bool.not_true, Bool.and_false, Bool.false_and]
      · have e : c.heldB c.exp c.held = true := by rw [hv, show i = c.held.length by omega, List.drop_length]; rfl
        rw [Ch.stateB, ‹(c.there.any _) = false›, decide_eq_true (show c.base + c.wait.length ≤ 1048576 by omega), decide_eq_true (show c.base ≤ c.exp by omega), decide_eq_true (show c.exp ≤ c.reach by omega), e]; rfl
theorem check_ct (c : Ch) (hc : c.ok) : Ct Try.prog 19 [c.d] fun r outs => r = i64 c.chk ∧ outs = [] := by
  have hc' := hc
  obtain ⟨h1, h2, h3, h4, h5, h6⟩ := hc
  refine .det (.of_W (fn := Try.f19) hΓ hm Try.func19 [] [] (by kernel_rfl) (Step.out ?_))
  repeat' first
    | (refine Step.mk ?_; conv => whnf)
    | with_reducible trivial
    | (refine Br.d (fun h => ?_) (fun h => ?_))
    | (refine Br.swap ?_)
    | (refine Br.bnot ?_)
    | (refine Br.mk (fun h => Step.out ?_) (fun h => Step.out ?_))
    | (refine Two.mk (Step.out ?_) (Step.out ?_))
    | (refine CallOK.of_ct (Step.out ?_))
    | (refine Met.by (g := 47) (fits_ct _ (by assumption)) ?_; rintro q outs ⟨rfl, rfl⟩)
    | (refine Met.by (g := 48) (state_ct _ (by assumption)) ?_; rintro q outs ⟨rfl, rfl⟩)
  all_goals rw [Ch.chk]
  all_goals first
    | trivial
    | exact hb h
    | with_reducible rfl
    | with_reducible exact same_rfl
    | omega
    | ((rw [if_pos (by omega)]; done))
    | ((rw [if_neg (by omega), if_pos (by simp_all)]; done))
    | ((rw [if_neg (by omega), if_neg (by simp_all), if_neg (by simp_all)]; done))
    | ((rw [if_neg (by omega), if_neg (by simp_all), if_pos (by simp_all)]; done))
end Kx
