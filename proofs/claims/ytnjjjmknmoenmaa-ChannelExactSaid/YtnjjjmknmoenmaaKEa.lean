/-
  channel: reach, right, fits, state, Check.
  No condition beyond those written in each theorem.
-/
import Derived.Test.YtnjjjmknmoenmaaKDd
open Go Sx Go.Proofs
set_option linter.unusedSimpArgs false
set_option linter.unusedVariables false
namespace Kx
structure Ch where
  base : Int
  exp : Int
  wait : List Str
  there : List Pk
  held : List Pk
  back : List Int
def Ch.l (c : Ch) : List D := [i64 c.base, i64 c.exp, strs c.wait, pks c.there, pks c.held, ints c.back]
def Ch.d (c : Ch) : D := .agg c.l
def Ch.lo (c : Ch) : List D := [i64 c.base, i64 c.exp, strsO 9 c.wait, pksO 43 c.there, pksO 43 c.held, intsO 3 c.back]
def Ch.o (c : Ch) : D := .agg c.lo
@[reducible] def Ch.z : Ch := ⟨0, 0, [], [], [], []⟩
structure Ch.ok (c : Ch) : Prop where
  b0 : -4000000000000000000 ≤ c.base
  b1 : c.base ≤ 4000000000000000000
  w : c.wait.length ≤ 10000
  t : c.there.length ≤ 10000
  h : c.held.length ≤ 10000
  k : c.back.length ≤ 10000
def Ch.reach (c : Ch) : Int := c.base + min (c.wait.length : Int) 4
def Ch.pay (c : Ch) (n : Int) : Str := c.wait.getD (n - c.base).toNat []
def Ch.right (c : Ch) (p : Pk) : Bool := decide (p.1 < c.reach) && (decide (p.1 < c.base) || decide (c.pay p.1 = p.2))
def Ch.heldB (c : Ch) : Int → List Pk → Bool
  | _, [] => true
  | m, p :: l => decide (c.exp < p.1) && decide (m < p.1) && c.right p && Ch.heldB c p.1 l
def Ch.longB (c : Ch) : Bool := c.wait.any (fun s => decide (60000 < s.length)) || (c.there ++ c.held).any (fun p => decide (60000 < p.2.length))
def Ch.bigB (c : Ch) : Bool := decide (16 < c.wait.length) || decide (16 < c.there.length) || decide (16 < c.held.length) || decide (16 < c.back.length)
def Ch.stateB (c : Ch) : Bool := decide (c.base + c.wait.length ≤ 1048576) && decide (c.base ≤ c.exp) && decide (c.exp ≤ c.reach) && c.heldB c.exp c.held && !(c.there.any fun p => decide (p.1 < 1) || !c.right p) && !(c.back.any fun n => decide (n < 1) || decide (c.exp < n))
def Ch.chk (c : Ch) : Int := if c.base < 1 ∨ 1048576 < c.base then 2 else if (c.bigB || c.longB) = true then 1 else if c.stateB = true then 0 else 50
theorem reach_ct (c : Ch) (hc : c.ok) : Ct Try.prog 68 [c.d] fun r outs => r = i64 c.reach ∧ outs = [] := by
  obtain ⟨h1, h2, h3, h4, h5, h6⟩ := hc
  have e : c.reach = c.base + min (c.wait.length : Int) 4 := rfl
  refine .det (.of_W (fn := Try.f68) hΓ hm Try.func68 [] [] (by kernel_rfl) (Step.out ?_))
  repeat' first
    | (refine Step.mk ?_; conv => whnf)
    | with_reducible trivial
    | (refine Wr.i64 ?_ ?_; omega)
    | (refine Two.mk (Step.out ?_) (Step.out ?_))
  all_goals first
    | trivial
    | exact hb h
    | with_reducible rfl
    | with_reducible exact same_rfl
    | omega
    | ((rw [e]; done))
theorem right_ct (c : Ch) (hc : c.ok) (p : Pk) : Ct Try.prog 69 [c.d, .agg (pkF p)] fun r outs => r = .bool (c.right p) ∧ outs = [] := by
  have hc' := hc
  obtain ⟨h1, h2, h3, h4, h5, h6⟩ := hc
  have e : c.reach = c.base + min (c.wait.length : Int) 4 := rfl
  refine .det (.of_W (fn := Try.f69) hΓ hm Try.func69 ord69 [] (by kernel_rfl) (Step.out ?_))
  repeat' first
    | (refine Step.mk ?_; conv => whnf)
    | (refine Vc.om ?_ ?_; first | omega | with_reducible rfl | with_reducible exact same_rfl)
    | with_reducible trivial
    | (refine Wr.i64 ?_ ?_; omega)
    | (refine Br.d (fun h => ?_) (fun h => ?_))
    | (refine Br.swap ?_)
    | (refine Two.mk (Step.out ?_) (Step.out ?_))
    | (refine CallQ.of_ct (Step.out ?_))
    | (refine Met.by (g := 68) (reach_ct _ (by assumption)) ?_; rintro q outs ⟨rfl, rfl⟩)
  all_goals clear e
  all_goals first
    | trivial
    | exact hb h
    | with_reducible rfl
    | with_reducible exact same_rfl
    | omega
    | ((simp [Ch.right, Ch.pay, *]; done))
theorem noSh_pks (l : List Pk) : noSh (pksO 43 l) := fun _ _ => ⟨trivial, trivial, trivial⟩
theorem noSh_ints (l : List Int) : noSh (intsO 3 l) := fun _ _ => ⟨trivial, trivial⟩
theorem noSh_strs (l : List Str) : noSh (strsO 9 l) := fun _ _ => ⟨trivial, trivial⟩
theorem lim_ct (s : Str) : Ct Try.prog 67 [.str s] fun r _ => r = .bool (decide (60000 < s.length)) := by
  refine Ct.mono (R := fun r outs => r = .bool (decide (60000 < s.length)) ∧ outs = []) ?_ (fun _ _ h => h.1)
  refine .det (.of_W (fn := Try.f67) hΓ hm Try.func67 [] [] (by kernel_rfl) (Step.out ?_))
  repeat' first
    | (refine Step.mk ?_; conv => whnf)
    | with_reducible trivial
    | (refine Two.mk (Step.out ?_) (Step.out ?_))
  all_goals first
    | trivial
    | exact hb h
    | with_reducible rfl
    | with_reducible exact same_rfl
    | omega
    | ((simp only [decide_eq_decide]; omega))
theorem fits_ct (c : Ch) (hc : c.ok) : Ct Try.prog 47 [c.d] fun r outs => r = .bool (!(c.bigB || c.longB)) ∧ outs = [] := by
  have hc' := hc
  obtain ⟨h1, h2, h3, h4, h5, h6⟩ := hc
  refine .det (.of_W (fn := Try.f47) hΓ hm Try.func47 [] [] (by kernel_rfl) (Step.out ?_))
  repeat' first
    | (refine Step.mk ?_; conv => whnf)
    | with_reducible trivial
    | (refine Met.by (concatP_ct c.there c.held (by omega) (by omega)) ?_; rintro q outs ⟨rfl, rfl⟩)
    | (refine Br.d (fun h => ?_) (fun h => ?_))
    | (refine Two.mk (Step.out ?_) (Step.out ?_))
    | (refine CallOK.of_ct (Step.out ?_))
    | (refine Vc.mk ?_ (Step.out ?_))
  · simp [Ch.bigB]; omega
  · exact noSh_pks _
  · refine CodeOK.loopW hΓ hm [] [] (by kernel_rfl) (α := Nat) (fun i => [(1, .loc 0 0), (24, pks (c.there ++ c.held)), (25, i64 (c.there ++ c.held).length), (26, i64 i)]) (fun i => [(0, .var c.l)]) 1 (fun i => i ≤ (c.there ++ c.held).length ∧ ((c.there ++ c.held).any fun p => decide (60000 < p.2.length)) = ((c.there ++ c.held).drop i).any fun p => decide (60000 < p.2.length)) (fun i => (c.there ++ c.held).length - i) ?_ ?_
    · refine Again.by 0 ⟨Nat.zero_le _, rfl⟩ ?_
      repeat' first
        | (refine Step.mk ?_; conv => whnf)
        | (refine Vc.om ?_ ?_; first | omega | with_reducible rfl | with_reducible exact same_rfl)
        | with_reducible trivial
    · intro i ⟨hi, hv⟩
      have hlen : (c.there ++ c.held).length ≤ 20000 := by simp; omega
      repeat' first
        | (refine Step.mk ?_; conv => whnf)
        | (refine Vc.om ?_ ?_; first | omega | with_reducible rfl | with_reducible exact same_rfl)
        | with_reducible trivial
        | (refine Wr.i64 ?_ ?_; omega)
        | (refine Met.by (confS_ct c.wait 67 [] _ (by omega) rfl (fun x _ => lim_ct x)) ?_; rintro q outs ⟨rfl, rfl⟩)
        | (refine Br.d (fun h => ?_) (fun h => ?_))
        | (refine Two.mk (Step.out ?_) (Step.out ?_))
        | (refine CallOK.of_ct (Step.out ?_))
      all_goals try simp only [Int.toNat_natCast] at *
      · have e : c.longB = true := by
          rw [Ch.longB, hv, any_step _ _ (0, []) i (by omega), decide_eq_true (by omega), Bool.true_or, Bool.or_true]
        rw [e, Bool.or_true]; rfl
      · refine Again.by (i + 1) ⟨⟨by omega, by rw [hv, any_step _ _ (0, []) i (by omega), decide_eq_false (by omega), Bool.false_or]⟩, by omega⟩ ?_
        repeat' first
          | (refine Step.mk ?_; conv => whnf)
          | (refine Vc.om ?_ ?_; first | omega | with_reducible rfl | with_reducible exact same_rfl)
          | with_reducible trivial
      · rw [show i = (c.there ++ c.held).length by omega, List.drop_length, List.any_nil] at hv
        have e : c.bigB = false := by simp [Ch.bigB]; omega
        rw [e, Bool.false_or, Ch.longB, hv, Bool.or_false]
end Kx
