/-
  change: values, state, Check, Valid, row, both.
  No condition beyond those written in each theorem.
-/
import Derived.Test.YtgcandklomkhlaaKRb
open Go Sx Go.Proofs
set_option linter.unusedSimpArgs false
set_option linter.unusedVariables false
namespace Kx
def idx {α : Type} (p : α → Bool) : List α → Int → Int
  | [], _ => -1
  | x :: l, k => bif p x then k else idx p l (k + 1)
theorem idx_step {α : Type} (p : α → Bool) (l : List α) (z : α) (i : Nat) (h : i < l.length) : idx p (l.drop i) i = bif p (l.getD i z) then (i : Int) else idx p (l.drop (i + 1)) ((i : Int) + 1) := by
  rw [drop_step l z i h]; rfl
theorem idx_any {α : Type} (p : α → Bool) : ∀ (l : List α) (k : Int), 0 ≤ k → decide (0 ≤ idx p l k) = l.any p
  | [], k, _ => by simp [idx]
  | x :: l, k, hk => by
    have ih := idx_any p l (k + 1) (by omega)
    rw [idx, List.any_cons]
    cases h : p x
    · rw [cond_false, Bool.false_or]; exact ih
    · rw [cond_true, Bool.true_or]; simpa using hk
theorem idxfS_ct (l : List Str) (f : Nat) (caps : List D) (p : Str → Bool) (hl : l.length ≤ 100000) (hc : immL caps = true) (hp : ∀ x ∈ l, Ct Try.prog f (.str x :: caps) fun r _ => r = .bool (p x)) : Ct Try.prog 51 [strs l, .fn f caps] fun r outs => r = i64 (idx p l 0) ∧ outs = [] := by
  refine .det (.of_W (fn := Try.f51) hΓ hm Try.func51 [] [] (by kernel_rfl) (Step.out ?_))
  repeat' first
    | (refine Step.mk ?_; conv => whnf)
    | (refine Vc.om ?_ ?_; first | omega | with_reducible rfl | with_reducible exact same_rfl | (simp only [bytes_2, bytes_3, bytes_4, bytes_5, bytes_9, bytes_12, bytes_21, bytes_22, bytes_25, bytes_27, bytes_29, bytes_32, bytes_33, bytes_34, bytes_38, bytes_40, bytes_44, bytes_45, bytes_52, bytes_53, bytes_54, bytes_58, bytes_59, bytes_60, bytes_93, bytes_97, bytes_100, true_and, and_true] <;> omega))
    | (refine NilB.mk fun b hb => Step.out ?_)
    | with_reducible trivial
    | exact noSh_bool _
    | exact noSh_lit _
    | exact noSh_int _ _
    | exact noSh_str _
    | with_reducible rfl
    | with_reducible exact same_rfl
    | (refine Wr.i64 ?_ ?_; omega)
    | (refine Wr.u8 ?_ ?_; omega)
    | (refine Wr.i32 ?_ ?_; omega)
    | (with_reducible refine Br.tt ?_)
    | (with_reducible refine Br.ff ?_)
    | (refine Br.dT ?_ ?_; omega)
    | (refine Br.dF ?_ ?_; omega)
    | (refine adL_imm hc (Step.out ?_))
    | (refine Br.d (fun h => ?_) (fun h => ?_))
    | (refine Br.swap ?_)
    | (refine Br.bnot ?_)
    | (refine Br.mk (fun h => Step.out ?_) (fun h => Step.out ?_))
    | (refine Two.mk (Step.out ?_) (Step.out ?_))
    | (refine Cp.mk fun q hq => Step.out ?_)
    | (refine Ovl.mk (by assumption) (Step.out ?_))
    | (refine CallOK.of_ct (Step.out ?_))
    | (refine CallQ.of_ct (Step.out ?_))
    | (refine Vc.mk ?_ (Step.out ?_))
  refine CodeOK.loopW hΓ hm [] [] (by kernel_rfl) (α := Nat) (fun i => [(0, strs l), (1, .fn f caps), (7, i64 l.length), (8, i64 i)]) (fun i => []) 0 (fun i => i ≤ l.length ∧ idx p l 0 = idx p (l.drop i) i) (fun i => l.length - i) ?_ ?_
  · refine Again.by 0 ⟨Nat.zero_le _, rfl⟩ ?_
    repeat' first
      | (refine Step.mk ?_; conv => whnf)
      | (refine Vc.om ?_ ?_; first | omega | with_reducible rfl | with_reducible exact same_rfl | (simp only [bytes_2, bytes_3, bytes_4, bytes_5, bytes_9, bytes_12, bytes_21, bytes_22, bytes_25, bytes_27, bytes_29, bytes_32, bytes_33, bytes_34, bytes_38, bytes_40, bytes_44, bytes_45, bytes_52, bytes_53, bytes_54, bytes_58, bytes_59, bytes_60, bytes_93, bytes_97, bytes_100, true_and, and_true] <;> omega))
      | (refine NilB.mk fun b hb => Step.out ?_)
      | with_reducible trivial
      | exact noSh_bool _
      | exact noSh_lit _
      | exact noSh_int _ _
      | exact noSh_str _
      | with_reducible rfl
      | with_reducible exact same_rfl
      | (refine Wr.i64 ?_ ?_; omega)
      | (refine Wr.u8 ?_ ?_; omega)
      | (refine Wr.i32 ?_ ?_; omega)
      | (with_reducible refine Br.tt ?_)
      | (with_reducible refine Br.ff ?_)
      | (refine Br.dT ?_ ?_; omega)
      | (refine Br.dF ?_ ?_; omega)
      | (refine Cho.l (Step.out ?_))
      | (exact ⟨rfl, hc⟩)
      | (refine Br.d (fun h => ?_) (fun h => ?_))
      | (refine Br.swap ?_)
      | (refine Br.bnot ?_)
      | (refine Br.mk (fun h => Step.out ?_) (fun h => Step.out ?_))
      | (refine Two.mk (Step.out ?_) (Step.out ?_))
      | (refine Cp.mk fun q hq => Step.out ?_)
      | (refine Ovl.mk (by assumption) (Step.out ?_))
      | (refine CallOK.of_ct (Step.out ?_))
      | (refine CallQ.of_ct (Step.out ?_))
      | (refine Vc.mk ?_ (Step.out ?_))
  · intro i hi
    repeat' first
      | (refine Step.mk ?_; conv => whnf)
      | (refine Vc.om ?_ ?_; first | omega | with_reducible rfl | with_reducible exact same_rfl | (simp only [bytes_2, bytes_3, bytes_4, bytes_5, bytes_9, bytes_12, bytes_21, bytes_22, bytes_25, bytes_27, bytes_29, bytes_32, bytes_33, bytes_34, bytes_38, bytes_40, bytes_44, bytes_45, bytes_52, bytes_53, bytes_54, bytes_58, bytes_59, bytes_60, bytes_93, bytes_97, bytes_100, true_and, and_true] <;> omega))
      | (refine NilB.mk fun b hb => Step.out ?_)
      | with_reducible trivial
      | exact noSh_bool _
      | exact noSh_lit _
      | exact noSh_int _ _
      | exact noSh_str _
      | with_reducible rfl
      | with_reducible exact same_rfl
      | (refine Wr.i64 ?_ ?_; omega)
      | (refine Wr.u8 ?_ ?_; omega)
      | (refine Wr.i32 ?_ ?_; omega)
      | (with_reducible refine Br.tt ?_)
      | (with_reducible refine Br.ff ?_)
      | (refine Br.dT ?_ ?_; omega)
      | (refine Br.dF ?_ ?_; omega)
      | (refine Cho.l (Step.out ?_))
      | (refine forceL_of (Step.out ?_))
      | (refine lesL_imm hc (Step.out ?_))
      | (refine Met.by (hp _ ?_) ?_; rotate_left; (rintro q outs rfl))
      | (refine Br.d (fun h => ?_) (fun h => ?_))
      | (refine Br.swap ?_)
      | (refine Br.bnot ?_)
      | (refine Br.mk (fun h => Step.out ?_) (fun h => Step.out ?_))
      | (refine Two.mk (Step.out ?_) (Step.out ?_))
      | (refine Cp.mk fun q hq => Step.out ?_)
      | (refine Ovl.mk (by assumption) (Step.out ?_))
      | (refine CallOK.of_ct (Step.out ?_))
      | (refine CallQ.of_ct (Step.out ?_))
      | (refine Vc.mk ?_ (Step.out ?_))
    all_goals try simp only [Int.toNat_natCast] at *
    · rw [hi.2, idx_step p l [] i (by omega), h, cond_true]
    · refine Again.by (i + 1) ⟨⟨by omega, by rw [hi.2, idx_step p l [] i (by omega), h, cond_false]; rfl⟩, by omega⟩ ?_
      repeat' first
        | (refine Step.mk ?_; conv => whnf)
        | (refine Vc.om ?_ ?_; first | omega | with_reducible rfl | with_reducible exact same_rfl | (simp only [bytes_2, bytes_3, bytes_4, bytes_5, bytes_9, bytes_12, bytes_21, bytes_22, bytes_25, bytes_27, bytes_29, bytes_32, bytes_33, bytes_34, bytes_38, bytes_40, bytes_44, bytes_45, bytes_52, bytes_53, bytes_54, bytes_58, bytes_59, bytes_60, bytes_93, bytes_97, bytes_100, true_and, and_true] <;> omega))
        | (refine NilB.mk fun b hb => Step.out ?_)
        | with_reducible trivial
        | exact noSh_bool _
        | exact noSh_lit _
        | exact noSh_int _ _
        | exact noSh_str _
        | with_reducible rfl
        | with_reducible exact same_rfl
        | (refine Wr.i64 ?_ ?_; omega)
        | (refine Wr.u8 ?_ ?_; omega)
        | (refine Wr.i32 ?_ ?_; omega)
        | (with_reducible refine Br.tt ?_)
        | (with_reducible refine Br.ff ?_)
        | (refine Br.dT ?_ ?_; omega)
        | (refine Br.dF ?_ ?_; omega)
        | (refine Cho.l (Step.out ?_))
        | (exact ⟨rfl, hc⟩)
        | (refine Br.d (fun h => ?_) (fun h => ?_))
        | (refine Br.swap ?_)
        | (refine Br.bnot ?_)
        | (refine Br.mk (fun h => Step.out ?_) (fun h => Step.out ?_))
        | (refine Two.mk (Step.out ?_) (Step.out ?_))
        | (refine Cp.mk fun q hq => Step.out ?_)
        | (refine Ovl.mk (by assumption) (Step.out ?_))
        | (refine CallOK.of_ct (Step.out ?_))
        | (refine CallQ.of_ct (Step.out ?_))
        | (refine Vc.mk ?_ (Step.out ?_))
    · exact getD_in (by omega)
    · have e : i = l.length := by omega
      rw [hi.2, e, List.drop_length]; rfl
theorem confS_ct (l : List Str) (f : Nat) (caps : List D) (p : Str → Bool) (hl : l.length ≤ 100000) (hc : immL caps = true) (hp : ∀ x ∈ l, Ct Try.prog f (.str x :: caps) fun r _ => r = .bool (p x)) : Ct Try.prog 40 [strs l, .fn f caps] fun r outs => r = .bool (l.any p) ∧ outs = [] := by
  refine .det (.of_W (fn := Try.f40) hΓ hm Try.func40 [] [] (by kernel_rfl) (Step.out ?_))
  repeat' first
    | (refine Step.mk ?_; conv => whnf)
    | (refine Vc.om ?_ ?_; first | omega | with_reducible rfl | with_reducible exact same_rfl | (simp only [bytes_2, bytes_3, bytes_4, bytes_5, bytes_9, bytes_12, bytes_21, bytes_22, bytes_25, bytes_27, bytes_29, bytes_32, bytes_33, bytes_34, bytes_38, bytes_40, bytes_44, bytes_45, bytes_52, bytes_53, bytes_54, bytes_58, bytes_59, bytes_60, bytes_93, bytes_97, bytes_100, true_and, and_true] <;> omega))
    | (refine NilB.mk fun b hb => Step.out ?_)
    | with_reducible trivial
    | exact noSh_bool _
    | exact noSh_lit _
    | exact noSh_int _ _
    | exact noSh_str _
    | with_reducible rfl
    | with_reducible exact same_rfl
    | (refine Wr.i64 ?_ ?_; omega)
    | (refine Wr.u8 ?_ ?_; omega)
    | (refine Wr.i32 ?_ ?_; omega)
    | (with_reducible refine Br.tt ?_)
    | (with_reducible refine Br.ff ?_)
    | (refine Br.dT ?_ ?_; omega)
    | (refine Br.dF ?_ ?_; omega)
    | (refine adL_imm hc (Step.out ?_))
    | (refine forceL_of (Step.out ?_))
    | (refine lesL_imm hc (Step.out ?_))
    | (refine Met.by (idxfS_ct l f caps p hl hc hp) ?_; rintro q outs ⟨rfl, rfl⟩)
    | (refine Br.d (fun h => ?_) (fun h => ?_))
    | (refine Br.swap ?_)
    | (refine Br.bnot ?_)
    | (refine Br.mk (fun h => Step.out ?_) (fun h => Step.out ?_))
    | (refine Two.mk (Step.out ?_) (Step.out ?_))
    | (refine Cp.mk fun q hq => Step.out ?_)
    | (refine Ovl.mk (by assumption) (Step.out ?_))
    | (refine CallOK.of_ct (Step.out ?_))
    | (refine CallQ.of_ct (Step.out ?_))
    | (refine Vc.mk ?_ (Step.out ?_))
  exact idx_any p l 0 (by omega)
theorem lim_ct (s : Str) : Ct Try.prog 41 [.str s] fun r _ => r = .bool (decide (64 < s.length)) := by
  refine Ct.mono (R := fun r outs => r = .bool (decide (64 < s.length)) ∧ outs = []) ?_ (fun _ _ h => h.1)
  refine .det (.of_W (fn := Try.f41) hΓ hm Try.func41 [] [] (by kernel_rfl) (Step.out ?_))
  repeat' first
    | (refine Step.mk ?_; conv => whnf)
    | (refine Vc.om ?_ ?_; first | omega | with_reducible rfl | with_reducible exact same_rfl | (simp only [bytes_2, bytes_3, bytes_4, bytes_5, bytes_9, bytes_12, bytes_21, bytes_22, bytes_25, bytes_27, bytes_29, bytes_32, bytes_33, bytes_34, bytes_38, bytes_40, bytes_44, bytes_45, bytes_52, bytes_53, bytes_54, bytes_58, bytes_59, bytes_60, bytes_93, bytes_97, bytes_100, true_and, and_true] <;> omega))
    | (refine NilB.mk fun b hb => Step.out ?_)
    | with_reducible trivial
    | exact noSh_bool _
    | exact noSh_lit _
    | exact noSh_int _ _
    | exact noSh_str _
    | with_reducible rfl
    | with_reducible exact same_rfl
    | (refine Wr.i64 ?_ ?_; omega)
    | (refine Wr.u8 ?_ ?_; omega)
    | (refine Wr.i32 ?_ ?_; omega)
    | (with_reducible refine Br.tt ?_)
    | (with_reducible refine Br.ff ?_)
    | (refine Br.dT ?_ ?_; omega)
    | (refine Br.dF ?_ ?_; omega)
    | (refine Br.d (fun h => ?_) (fun h => ?_))
    | (refine Br.swap ?_)
    | (refine Br.bnot ?_)
    | (refine Br.mk (fun h => Step.out ?_) (fun h => Step.out ?_))
    | (refine Two.mk (Step.out ?_) (Step.out ?_))
    | (refine Cp.mk fun q hq => Step.out ?_)
    | (refine Ovl.mk (by assumption) (Step.out ?_))
    | (refine CallOK.of_ct (Step.out ?_))
    | (refine CallQ.of_ct (Step.out ?_))
    | (refine Vc.mk ?_ (Step.out ?_))
  all_goals first
    | trivial
    | exact hb h
    | with_reducible rfl
    | with_reducible exact same_rfl
    | omega
    | ((simp only [decide_eq_decide]; omega))
theorem values_ct (l : List Str) (hl : l.length ≤ 100000) : Ct Try.prog 31 [strs l] fun r outs => r = .bool (valsB l) ∧ outs = [] := by
  refine .det (.of_W (fn := Try.f31) hΓ hm Try.func31 [] [] (by kernel_rfl) (Step.out ?_))
  repeat' first
    | (refine Step.mk ?_; conv => whnf)
    | (refine Vc.om ?_ ?_; first | omega | with_reducible rfl | with_reducible exact same_rfl | (simp only [bytes_2, bytes_3, bytes_4, bytes_5, bytes_9, bytes_12, bytes_21, bytes_22, bytes_25, bytes_27, bytes_29, bytes_32, bytes_33, bytes_34, bytes_38, bytes_40, bytes_44, bytes_45, bytes_52, bytes_53, bytes_54, bytes_58, bytes_59, bytes_60, bytes_93, bytes_97, bytes_100, true_and, and_true] <;> omega))
    | (refine NilB.mk fun b hb => Step.out ?_)
    | with_reducible trivial
    | exact noSh_bool _
    | exact noSh_lit _
    | exact noSh_int _ _
    | exact noSh_str _
    | with_reducible rfl
    | with_reducible exact same_rfl
    | (refine Wr.i64 ?_ ?_; omega)
    | (refine Wr.u8 ?_ ?_; omega)
    | (refine Wr.i32 ?_ ?_; omega)
    | (with_reducible refine Br.tt ?_)
    | (with_reducible refine Br.ff ?_)
    | (refine Br.dT ?_ ?_; omega)
    | (refine Br.dF ?_ ?_; omega)
    | (refine Met.by (confS_ct l 41 [] _ (by omega) rfl (fun x _ => lim_ct x)) ?_; rintro q outs ⟨rfl, rfl⟩)
    | (refine Br.d (fun h => ?_) (fun h => ?_))
    | (refine Br.swap ?_)
    | (refine Br.bnot ?_)
    | (refine Br.mk (fun h => Step.out ?_) (fun h => Step.out ?_))
    | (refine Two.mk (Step.out ?_) (Step.out ?_))
    | (refine Cp.mk fun q hq => Step.out ?_)
    | (refine Ovl.mk (by assumption) (Step.out ?_))
    | (refine CallOK.of_ct (Step.out ?_))
    | (refine CallQ.of_ct (Step.out ?_))
    | (refine Vc.mk ?_ (Step.out ?_))
  · rw [valsB, decide_eq_true (by omega), decide_eq_true (by omega)]; rfl
  · rw [valsB, decide_eq_false (show ¬l.length ≤ 5 by omega), Bool.and_false]; rfl
  · rw [valsB, decide_eq_false (show ¬1 ≤ l.length by omega)]; rfl
def Rw.stateB (r : Rw) : Bool := if r.ver = 0 ∧ (r.sv = 0 ∨ 0 < r.vals.length) ∨ 0 < r.ver ∧ valsB r.vals = false then false else if r.sv = 0 then decide (r.st = 0) && decide (r.into = 0) else statB r.id r.st r.into
theorem state_ct (r : Rw) (hl : r.vals.length ≤ 100000) : Ct Try.prog 29 [r.d] fun q outs => q = .bool r.stateB ∧ outs = [] := by
  refine .det (.of_W (fn := Try.f29) hΓ hm Try.func29 [] [] (by kernel_rfl) (Step.out ?_))
  repeat' first
    | (refine Step.mk ?_; conv => whnf)
    | (refine Vc.om ?_ ?_; first | omega | with_reducible rfl | with_reducible exact same_rfl | (simp only [bytes_2, bytes_3, bytes_4, bytes_5, bytes_9, bytes_12, bytes_21, bytes_22, bytes_25, bytes_27, bytes_29, bytes_32, bytes_33, bytes_34, bytes_38, bytes_40, bytes_44, bytes_45, bytes_52, bytes_53, bytes_54, bytes_58, bytes_59, bytes_60, bytes_93, bytes_97, bytes_100, true_and, and_true] <;> omega))
    | (refine NilB.mk fun b hb => Step.out ?_)
    | with_reducible trivial
    | exact noSh_bool _
    | exact noSh_lit _
    | exact noSh_int _ _
    | exact noSh_str _
    | with_reducible rfl
    | with_reducible exact same_rfl
    | (refine Wr.i64 ?_ ?_; omega)
    | (refine Wr.u8 ?_ ?_; omega)
    | (refine Wr.i32 ?_ ?_; omega)
    | (with_reducible refine Br.tt ?_)
    | (with_reducible refine Br.ff ?_)
    | (refine Br.dT ?_ ?_; omega)
    | (refine Br.dF ?_ ?_; omega)
    | (refine Br.d (fun h => ?_) (fun h => ?_))
    | (refine Br.swap ?_)
    | (refine Br.bnot ?_)
    | (refine Br.mk (fun h => Step.out ?_) (fun h => Step.out ?_))
    | (refine Two.mk (Step.out ?_) (Step.out ?_))
    | (refine Cp.mk fun q hq => Step.out ?_)
    | (refine Ovl.mk (by assumption) (Step.out ?_))
    | (refine CallOK.of_ct (Step.out ?_))
    | (refine CallQ.of_ct (Step.out ?_))
    | (refine Met.by (g := 31) (values_ct _ (by omega)) ?_; rintro q outs ⟨rfl, rfl⟩)
    | (refine Met.by (g := 32) (status_ct _ _ _) ?_; rintro q outs ⟨rfl, rfl⟩)
    | (refine Vc.mk ?_ (Step.out ?_))
  all_goals unfold Rw.stateB
  all_goals first
    | trivial
    | exact hb h
    | with_reducible rfl
    | with_reducible exact same_rfl
    | omega
    | ((rw [if_pos (.inl (by omega))]; done))
    | ((rw [if_pos (.inr ⟨by omega, ‹_›⟩)]; done))
    | ((rw [if_neg (by rintro (h' | h') <;> first | omega | simp_all), if_neg (by omega)]; done))
    | ((rw [if_neg (by rintro (h' | h') <;> first | omega | simp_all), if_pos (by omega), decide_eq_true (show r.st = 0 by omega), Bool.true_and]; done))
    | ((rw [if_neg (by rintro (h' | h') <;> first | omega | simp_all), if_pos (by omega), decide_eq_false (show ¬r.st = 0 by omega), Bool.false_and]; done))
structure Ev where
  kind : Int
  id : Int
  ver : Int
  vals : List Str
  st : Int
  into : Int
def Ev.f (e : Ev) : List D := [i64 e.kind, i64 e.id, i64 e.ver, strs e.vals, i64 e.st, i64 e.into]
def Ev.d (e : Ev) : D := .agg e.f
def Ev.good (e : Ev) : Bool := decide (e.kind = 1) && valsB e.vals && decide (e.st = 0) && decide (e.into = 0) || decide (e.kind = 2) && decide (e.vals.length = 0) && statB e.id e.st e.into
def Ev.chk (e : Ev) : Int := if (idB e.id && decide (1 ≤ e.ver) && decide (e.ver ≤ 1048576)) = true then if e.good = true then 0 else 49 else 2
theorem check_ct (e : Ev) (hl : e.vals.length ≤ 100000) : Ct Try.prog 18 [e.d] fun q outs => q = i64 e.chk ∧ outs = [] := by
  refine .det (.of_W (fn := Try.f18) hΓ hm Try.func18 [] [] (by kernel_rfl) (Step.out ?_))
  repeat' first
    | (refine Step.mk ?_; conv => whnf)
    | (refine Vc.om ?_ ?_; first | omega | with_reducible rfl | with_reducible exact same_rfl | (simp only [bytes_2, bytes_3, bytes_4, bytes_5, bytes_9, bytes_12, bytes_21, bytes_22, bytes_25, bytes_27, bytes_29, bytes_32, bytes_33, bytes_34, bytes_38, bytes_40, bytes_44, bytes_45, bytes_52, bytes_53, bytes_54, bytes_58, bytes_59, bytes_60, bytes_93, bytes_97, bytes_100, true_and, and_true] <;> omega))
    | (refine NilB.mk fun b hb => Step.out ?_)
    | with_reducible trivial
    | exact noSh_bool _
    | exact noSh_lit _
    | exact noSh_int _ _
    | exact noSh_str _
    | with_reducible rfl
    | with_reducible exact same_rfl
    | (refine Wr.i64 ?_ ?_; omega)
    | (refine Wr.u8 ?_ ?_; omega)
    | (refine Wr.i32 ?_ ?_; omega)
    | (with_reducible refine Br.tt ?_)
    | (with_reducible refine Br.ff ?_)
    | (refine Br.dT ?_ ?_; omega)
    | (refine Br.dF ?_ ?_; omega)
    | (refine Br.d (fun h => ?_) (fun h => ?_))
    | (refine Br.swap ?_)
    | (refine Br.bnot ?_)
    | (refine Br.mk (fun h => Step.out ?_) (fun h => Step.out ?_))
    | (refine Two.mk (Step.out ?_) (Step.out ?_))
    | (refine Cp.mk fun q hq => Step.out ?_)
    | (refine Ovl.mk (by assumption) (Step.out ?_))
    | (refine CallOK.of_ct (Step.out ?_))
    | (refine CallQ.of_ct (Step.out ?_))
    | (refine Met.by (g := 27) (id_ct _) ?_; rintro q outs ⟨rfl, rfl⟩)
    | (refine Met.by (g := 31) (values_ct _ (by omega)) ?_; rintro q outs ⟨rfl, rfl⟩)
    | (refine Met.by (g := 32) (status_ct _ _ _) ?_; rintro q outs ⟨rfl, rfl⟩)
    | (refine Vc.mk ?_ (Step.out ?_))
  all_goals unfold Ev.chk Ev.good
  all_goals first
    | trivial
    | exact hb h
    | with_reducible rfl
    | with_reducible exact same_rfl
    | omega
    | ((simp [*]; done))
    | ((simp [*]; omega))
    | ((simp_all; done))
    | ((simp_all; omega))
end Kx
