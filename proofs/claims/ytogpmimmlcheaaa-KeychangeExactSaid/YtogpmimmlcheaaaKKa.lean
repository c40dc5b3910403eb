/-
  keychange: Check, step, and what is built on it.
  No condition beyond those written in each theorem.
-/
import Derived.Test.YtogpmimmlcheaaaKCc
open Go Sx Go.Proofs
set_option linter.unusedSimpArgs false
set_option linter.unusedVariables false
namespace Kx
structure Cu where
  now : Int
  next : Int
  holds : List Int
  arrays : List Int
def Cu.l (c : Cu) : List D := [i64 c.now, i64 c.next, ints c.holds, ints c.arrays]
def Cu.d (c : Cu) : D := .agg c.l
def Cu.lo (c : Cu) : List D := [i64 c.now, i64 c.next, intsO 3 c.holds, intsO 3 c.arrays]
def Cu.o (c : Cu) : D := .agg c.lo
def Cu.ok (c : Cu) : Prop := c.holds.length ≤ 30000 ∧ c.arrays.length ≤ 30000
def misfit (c : Cu) (x : Int) : Bool := !decide (x = 0) && (!decide (x = c.now) && !decide (x = c.next))
def Cu.chk (c : Cu) : Int :=
  if c.now < 1 ∨ c.now > 65536 ∨ (c.next ≠ 0 ∧ (c.next ≠ c.now + 1 ∨ c.next > 65536)) then 2
  else if c.holds.length < 1 ∨ c.holds.length > 4 ∨ c.arrays.length ≠ c.holds.length then 8
  else if (c.holds ++ c.arrays).any (misfit c) then 47 else 0
theorem noSh_ints (l : List Int) : noSh (intsO 3 l) := fun _ _ => ⟨trivial, trivial⟩
theorem check1_ct (c : Cu) (x : Int) : Ct Try.prog 48 [i64 x, .ref c.l] fun r _ => r = .bool (misfit c x) := by
  refine Ct.mono (R := fun r outs => r = .bool (misfit c x) ∧ outs = []) ?_ (fun _ _ h => h.1)
  refine .det (.of_W (fn := Try.f48) hΓ hm (by rfl) [] [] (by kernel_rfl) (Step.out ?_))
  repeat' first
    | (refine Step.mk ?_; conv => whnf)
    | (refine Vc.om ?_ ?_; first | omega | with_reducible rfl | with_reducible exact ⟨rfl, fun _ _ => rfl⟩ | (simp only [bytes_2, bytes_3, bytes_4, bytes_5, bytes_9, bytes_12, bytes_21, bytes_22, bytes_25, bytes_27, bytes_28, bytes_31, bytes_41, bytes_43, bytes_44, bytes_45, bytes_49, bytes_51, bytes_62, bytes_71, bytes_75, bytes_78]; omega))
    | (refine NilB.mk fun b hb => Step.out ?_)
    | trivial
    | with_reducible rfl
    | with_reducible exact ⟨rfl, fun _ _ => rfl⟩
    | (refine Wr.i64 ?_ ?_; omega)
    | (refine Wr.u8 ?_ ?_; omega)
    | (refine Wr.i32 ?_ ?_; omega)
    | (refine Br.tt ?_)
    | (refine Br.ff ?_)
    | (refine Br.dT ?_ ?_; omega)
    | (refine Br.dF ?_ ?_; omega)
    | (refine Br.d (fun h => ?_) (fun h => ?_))
    | (refine Br.swap ?_)
    | (refine Br.bnot ?_)
    | (refine Br.mk (fun h => Step.out ?_) (fun h => Step.out ?_))
    | (refine Two.mk (Step.out ?_) (Step.out ?_))
    | (refine CallOK.of_ct (Step.out ?_))
    | (refine Vc.mk ?_ (Step.out ?_))
  all_goals first
    | trivial
    | exact hb h
    | with_reducible rfl
    | with_reducible exact ⟨rfl, fun _ _ => rfl⟩
    | omega
    | (simp [misfit, *])
theorem check_ct (c : Cu) (hc : c.ok) : Ct Try.prog 22 [c.d] fun r outs => r = i64 c.chk ∧ outs = [] := by
  obtain ⟨hc1, hc2⟩ := hc
  refine .det (.of_W (fn := Try.f22) hΓ hm (by rfl) [] [] (by kernel_rfl) (Step.out ?_))
  repeat' first
    | (refine Step.mk ?_; conv => whnf)
    | (refine Vc.om ?_ ?_; first | omega | with_reducible rfl | with_reducible exact ⟨rfl, fun _ _ => rfl⟩ | (simp only [bytes_2, bytes_3, bytes_4, bytes_5, bytes_9, bytes_12, bytes_21, bytes_22, bytes_25, bytes_27, bytes_28, bytes_31, bytes_41, bytes_43, bytes_44, bytes_45, bytes_49, bytes_51, bytes_62, bytes_71, bytes_75, bytes_78]; omega))
    | (refine NilB.mk fun b hb => Step.out ?_)
    | trivial
    | with_reducible rfl
    | with_reducible exact ⟨rfl, fun _ _ => rfl⟩
    | (refine Wr.i64 ?_ ?_; omega)
    | (refine Wr.u8 ?_ ?_; omega)
    | (refine Wr.i32 ?_ ?_; omega)
    | (refine Br.tt ?_)
    | (refine Br.ff ?_)
    | (refine Br.dT ?_ ?_; omega)
    | (refine Br.dF ?_ ?_; omega)
    | (refine Met.by (conf_ct (c.holds ++ c.arrays) 48 [.ref c.l] (misfit c) (by simp; omega) rfl (fun x _ => check1_ct c x)) ?_; rintro q outs ⟨rfl, rfl⟩)
    | (refine Br.d (fun h => ?_) (fun h => ?_))
    | (refine Br.swap ?_)
    | (refine Br.bnot ?_)
    | (refine Br.mk (fun h => Step.out ?_) (fun h => Step.out ?_))
    | (refine Two.mk (Step.out ?_) (Step.out ?_))
    | (refine CallOK.of_ct (Step.out ?_))
    | (refine Met.by (g := 46) (concat_ct _ _ (by omega) (by omega)) ?_; rintro q outs ⟨rfl, rfl⟩)
    | (refine Vc.mk ?_ (Step.out ?_))
  all_goals first
    | trivial
    | exact hb h
    | with_reducible rfl
    | with_reducible exact ⟨rfl, fun _ _ => rfl⟩
    | omega
    | (exact noSh_ints _)
    | ((unfold Cu.chk; (repeat' split) <;> first | rfl | omega | simp_all))
theorem fresh_ct (c : Cu) (hc : c.ok) : Ct Try.prog 43 [c.d] fun r outs => r = c.o ∧ outs = [] := by
  obtain ⟨hc1, hc2⟩ := hc
  refine .det (.of_W (fn := Try.f43) hΓ hm (by rfl) ord43 [] (by kernel_rfl) (Step.out ?_))
  repeat' first
    | (refine Step.mk ?_; conv => whnf)
    | (refine Vc.om ?_ ?_; first | omega | with_reducible rfl | with_reducible exact ⟨rfl, fun _ _ => rfl⟩ | (simp only [bytes_2, bytes_3, bytes_4, bytes_5, bytes_9, bytes_12, bytes_21, bytes_22, bytes_25, bytes_27, bytes_28, bytes_31, bytes_41, bytes_43, bytes_44, bytes_45, bytes_49, bytes_51, bytes_62, bytes_71, bytes_75, bytes_78]; omega))
    | (refine NilB.mk fun b hb => Step.out ?_)
    | trivial
    | with_reducible rfl
    | with_reducible exact ⟨rfl, fun _ _ => rfl⟩
    | (refine Wr.i64 ?_ ?_; omega)
    | (refine Wr.u8 ?_ ?_; omega)
    | (refine Wr.i32 ?_ ?_; omega)
    | (refine Br.tt ?_)
    | (refine Br.ff ?_)
    | (refine Br.dT ?_ ?_; omega)
    | (refine Br.dF ?_ ?_; omega)
    | (refine Br.d (fun h => ?_) (fun h => ?_))
    | (refine Br.swap ?_)
    | (refine Br.bnot ?_)
    | (refine Br.mk (fun h => Step.out ?_) (fun h => Step.out ?_))
    | (refine Two.mk (Step.out ?_) (Step.out ?_))
    | (refine CallOK.of_ct (Step.out ?_))
    | (refine Met.by (g := 54) (list_ct _ (by omega)) ?_; rintro q outs ⟨rfl, rfl⟩)
    | (refine Vc.mk ?_ (Step.out ?_))
def Cu.z : Cu := ⟨0, 0, [], []⟩
def res (c : Cu) (e : Int) : D := .tup [c.o, i64 e]
theorem noSh_res (c : Cu) (e : Int) : noSh (res c e) := ⟨⟨trivial, trivial, noSh_ints _, noSh_ints _, trivial⟩, trivial, trivial⟩
def stepS (c : Cu) (r : Int) (b : Bool) (u : Cu) : Cu × Int :=
  if c.chk ≠ 0 then (.z, c.chk) else if r < 0 ∨ r ≥ c.holds.length then (.z, 41) else if b then (.z, 47) else (u, 0)
theorem step_ct (c : Cu) (hc : c.ok) (r : Int) (f g : Nat) (caps caps' : List D) (b : Bool) (u : Cu) (h1 : immL caps = true) (h2 : immL caps' = true) (hb : 0 ≤ r → r < c.holds.length → c.chk = 0 → Ct Try.prog f (c.d :: caps) fun q _ => q = .bool b)
    (hd : 0 ≤ r → r < c.holds.length → c.chk = 0 → b = false → Ct Try.prog g (.fbox c.lo :: caps') fun q outs => q = .tup [] ∧ outs = [.fbox u.lo]) : Ct Try.prog 36 [c.d, i64 r, .fn f caps, .fn g caps'] fun q outs => q = res (stepS c r b u).1 (stepS c r b u).2 ∧ outs = [] := by
  refine .det (.of_W (fn := Try.f36) hΓ hm (by rfl) [] [] (by kernel_rfl) (Step.out ?_))
  repeat' first
    | (refine Step.mk ?_; conv => whnf)
    | (refine Vc.om ?_ ?_; first | omega | with_reducible rfl | with_reducible exact ⟨rfl, fun _ _ => rfl⟩ | (simp only [bytes_2, bytes_3, bytes_4, bytes_5, bytes_9, bytes_12, bytes_21, bytes_22, bytes_25, bytes_27, bytes_28, bytes_31, bytes_41, bytes_43, bytes_44, bytes_45, bytes_49, bytes_51, bytes_62, bytes_71, bytes_75, bytes_78]; omega))
    | (refine NilB.mk fun b hb => Step.out ?_)
    | trivial
    | with_reducible rfl
    | with_reducible exact ⟨rfl, fun _ _ => rfl⟩
    | (refine Wr.i64 ?_ ?_; omega)
    | (refine Wr.u8 ?_ ?_; omega)
    | (refine Wr.i32 ?_ ?_; omega)
    | (refine Br.tt ?_)
    | (refine Br.ff ?_)
    | (refine Br.dT ?_ ?_; omega)
    | (refine Br.dF ?_ ?_; omega)
    | (refine adL_imm h1 (Step.out ?_))
    | (refine adL_imm h2 (Step.out ?_))
    | (refine forceL_of (Step.out ?_))
    | (refine lesL_imm h1 (Step.out ?_))
    | (refine caL_imm h2 (Step.out ?_))
    | (refine CallOK.io1 (g := g) (Step.out ?_))
    | (refine Met.by (hb (by omega) (by omega) (by assumption)) ?_; rintro q outs rfl)
    | (refine Met.by (hd (by omega) (by omega) (by assumption) (by assumption)) ?_; rintro q outs ⟨rfl, rfl⟩)
    | (refine Br.d (fun h => ?_) (fun h => ?_))
    | (refine Br.swap ?_)
    | (refine Br.bnot ?_)
    | (refine Br.mk (fun h => Step.out ?_) (fun h => Step.out ?_))
    | (refine Two.mk (Step.out ?_) (Step.out ?_))
    | (refine CallOK.of_ct (Step.out ?_))
    | (refine Met.by (g := 22) (check_ct _ (by assumption)) ?_; rintro q outs ⟨rfl, rfl⟩)
    | (refine Met.by (g := 43) (fresh_ct _ (by assumption)) ?_; rintro q outs ⟨rfl, rfl⟩)
    | (refine Vc.mk ?_ (Step.out ?_))
  all_goals first
    | trivial
    | exact hb h
    | with_reducible rfl
    | with_reducible exact ⟨rfl, fun _ _ => rfl⟩
    | omega
    | ((simp [stepS, Cu.z, *]; done))
    | ((simp [stepS, Cu.z, *]; omega))
end Kx
