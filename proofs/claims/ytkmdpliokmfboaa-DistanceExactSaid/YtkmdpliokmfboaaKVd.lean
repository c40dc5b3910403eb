/-
  Changes: widths, which fit, in order; similar texts.
  No condition beyond those written in each theorem.
-/
import Derived.Test.YtkmdpliokmfboaaKVc
import Derived.Test.YtkmdpliokmfboaaFD
open Go Sx Go.Proofs
set_option linter.unusedSimpArgs false
set_option linter.unusedVariables false
namespace Kx
/-- A change. -/
structure Cg where
  k : Int
  p : Int
  y : Int
deriving DecidableEq
def Cg.f (c : Cg) : List D := [i64 c.k, i64 c.p, i64 c.y]
def Cg.d (c : Cg) : D := .agg c.f
def Cg.z : Cg := ⟨0, 0, 0⟩
def cgs (l : List Cg) : D := .tab 3 l.length fun i => Cg.f (l.getD i Cg.z)
def Cg.ok (c : Cg) : Prop := -9223372036854775808 ≤ c.p ∧ c.p ≤ 9223372036854775807 ∧ -9223372036854775808 ≤ c.y ∧ c.y ≤ 9223372036854775807
def wid (k : Int) : Int := if k = 2 ∨ k = 3 then 1 else if k = 4 then 2 else 0
theorem wid_bd (k : Int) : 0 ≤ wid k ∧ wid k ≤ 2 := by unfold wid; (repeat' split) <;> omega
theorem width_ct (k : Int) : Ct Try.prog 34 [i64 k] fun q outs => q = i64 (wid k) ∧ outs = [] := by
  refine .det (.of_W (fn := Try.f34) hΓ hm Try.func34 [] [] (by kernel_rfl) (Step.out ?_))
  repeat' first
    | (refine Step.mk ?_; conv => whnf)
    | (refine Vc.om ?_ ?_; first | omega | with_reducible rfl | with_reducible exact same_rfl | (simp only [bytes_2, bytes_3, bytes_4, bytes_5, bytes_9, bytes_12, bytes_21, bytes_22, bytes_25, bytes_29, bytes_31, bytes_40, bytes_41, bytes_43, bytes_45, bytes_46, bytes_47, bytes_48, bytes_49, bytes_52, bytes_53, bytes_60, bytes_63, bytes_67, bytes_75, bytes_79, true_and, and_true] <;> omega))
    | (refine NilB.mk fun b hb => Step.out ?_)
    | with_reducible trivial
    | exact noSh_bool _
    | exact noSh_lit _
    | exact noSh_int _ _
    | exact noSh_str _
    | with_reducible rfl
    | with_reducible exact same_rfl
    | (refine Wr.i64 ?_ ?_; omega)
    | (refine Wr.u8 ?_ ?_; omega)
    | (refine Wr.i32 ?_ ?_; omega)
    | (with_reducible refine Br.tt ?_)
    | (with_reducible refine Br.ff ?_)
    | (refine Br.dT ?_ ?_; omega)
    | (refine Br.dF ?_ ?_; omega)
    | (refine Br.d (fun h => ?_) (fun h => ?_))
    | (refine Br.swap ?_)
    | (refine Br.bnot ?_)
    | (refine Br.mk (fun h => Step.out ?_) (fun h => Step.out ?_))
    | (refine Two.mk (Step.out ?_) (Step.out ?_))
    | (refine Cp.mk fun q hq => Step.out ?_)
    | (refine Ovl.mk (by assumption) (Step.out ?_))
    | (refine CallOK.of_ct (Step.out ?_))
    | (refine CallQ.of_ct (Step.out ?_))
    | (refine Vc.mk ?_ (Step.out ?_))
  all_goals unfold wid
  all_goals (repeat' split) <;> omega
theorem wid_at (k : Int) : (k = 1 ∧ wid k = 0) ∨ (k = 2 ∧ wid k = 1) ∨ (k = 3 ∧ wid k = 1) ∨ (k = 4 ∧ wid k = 2) ∨ (k ≠ 1 ∧ k ≠ 2 ∧ k ≠ 3 ∧ k ≠ 4 ∧ wid k = 0) := by
  unfold wid; (repeat' split) <;> omega
def fitP (c : Cg) (n : Int) : Prop := (((c.k = 1 ∨ c.k = 3) ∧ 0 ≤ c.y ∧ c.y ≤ 255) ∨ ((c.k = 2 ∨ c.k = 4) ∧ c.y = 0)) ∧ 0 ≤ c.p ∧ c.p + wid c.k ≤ n
instance (c : Cg) (n : Int) : Decidable (fitP c n) := by unfold fitP; infer_instance
def fitB (c : Cg) (n : Int) : Bool := decide (fitP c n)
theorem fits_ct (c : Cg) (n : Int) (hc : c.ok) (hn : 0 ≤ n ∧ n ≤ 1000000000) : Ct Try.prog 33 [c.d, i64 n] fun q outs => q = .bool (fitB c n) ∧ outs = [] := by
  have hw := wid_bd c.k
  have hv := wid_at c.k
  refine .det (.of_W (fn := Try.f33) hΓ hm Try.func33 ord33 [] (by kernel_rfl) (Step.out ?_))
  repeat' first
    | (refine Step.mk ?_; conv => whnf)
    | (refine Vc.om ?_ ?_; first | omega | with_reducible rfl | with_reducible exact same_rfl | (simp only [bytes_2, bytes_3, bytes_4, bytes_5, bytes_9, bytes_12, bytes_21, bytes_22, bytes_25, bytes_29, bytes_31, bytes_40, bytes_41, bytes_43, bytes_45, bytes_46, bytes_47, bytes_48, bytes_49, bytes_52, bytes_53, bytes_60, bytes_63, bytes_67, bytes_75, bytes_79, true_and, and_true] <;> omega))
    | (refine NilB.mk fun b hb => Step.out ?_)
    | with_reducible trivial
    | exact noSh_bool _
    | exact noSh_lit _
    | exact noSh_int _ _
    | exact noSh_str _
    | with_reducible rfl
    | with_reducible exact same_rfl
    | (refine Wr.i64 ?_ ?_; omega)
    | (refine Wr.u8 ?_ ?_; omega)
    | (refine Wr.i32 ?_ ?_; omega)
    | (with_reducible refine Br.tt ?_)
    | (with_reducible refine Br.ff ?_)
    | (refine Br.dT ?_ ?_; omega)
    | (refine Br.dF ?_ ?_; omega)
    | (refine Br.d (fun h => ?_) (fun h => ?_))
    | (refine Br.swap ?_)
    | (refine Br.bnot ?_)
    | (refine Br.mk (fun h => Step.out ?_) (fun h => Step.out ?_))
    | (refine Two.mk (Step.out ?_) (Step.out ?_))
    | (refine Cp.mk fun q hq => Step.out ?_)
    | (refine Ovl.mk (by assumption) (Step.out ?_))
    | (refine CallOK.of_ct (Step.out ?_))
    | (refine CallQ.of_ct (Step.out ?_))
    | (refine Met.by (g := 34) (width_ct _) ?_; rintro q outs ⟨rfl, rfl⟩)
    | (refine Vc.mk ?_ (Step.out ?_))
  all_goals
    rw [eq_comm]
    first | refine decide_eq_false (p := fitP c n) ?_ | refine decide_eq_true (p := fitP c n) ?_ | refine decide_eq_decide (p := fitP c n).2 ?_
    unfold fitP
    omega
theorem right_ct (c : Cg) (n : Int) (hc : c.ok) (hn : 0 ≤ n ∧ n ≤ 1000000000) : Ct Try.prog 42 [c.d, i64 n] fun q outs => q = .bool (fitB c n) ∧ outs = [] := by
  have hv := wid_at c.k
  refine .det (.of_W (fn := Try.f42) hΓ hm Try.func42 [] [] (by kernel_rfl) (Step.out ?_))
  repeat' first
    | (refine Step.mk ?_; conv => whnf)
    | (refine Vc.om ?_ ?_; first | omega | with_reducible rfl | with_reducible exact same_rfl | (simp only [bytes_2, bytes_3, bytes_4, bytes_5, bytes_9, bytes_12, bytes_21, bytes_22, bytes_25, bytes_29, bytes_31, bytes_40, bytes_41, bytes_43, bytes_45, bytes_46, bytes_47, bytes_48, bytes_49, bytes_52, bytes_53, bytes_60, bytes_63, bytes_67, bytes_75, bytes_79, true_and, and_true] <;> omega))
    | (refine NilB.mk fun b hb => Step.out ?_)
    | with_reducible trivial
    | exact noSh_bool _
    | exact noSh_lit _
    | exact noSh_int _ _
    | exact noSh_str _
    | with_reducible rfl
    | with_reducible exact same_rfl
    | (refine Wr.i64 ?_ ?_; omega)
    | (refine Wr.u8 ?_ ?_; omega)
    | (refine Wr.i32 ?_ ?_; omega)
    | (with_reducible refine Br.tt ?_)
    | (with_reducible refine Br.ff ?_)
    | (refine Br.dT ?_ ?_; omega)
    | (refine Br.dF ?_ ?_; omega)
    | (refine Br.d (fun h => ?_) (fun h => ?_))
    | (refine Br.swap ?_)
    | (refine Br.bnot ?_)
    | (refine Br.mk (fun h => Step.out ?_) (fun h => Step.out ?_))
    | (refine Two.mk (Step.out ?_) (Step.out ?_))
    | (refine Cp.mk fun q hq => Step.out ?_)
    | (refine Ovl.mk (by assumption) (Step.out ?_))
    | (refine CallOK.of_ct (Step.out ?_))
    | (refine CallQ.of_ct (Step.out ?_))
    | (refine Vc.mk ?_ (Step.out ?_))
  all_goals
    rw [eq_comm]
    first | refine decide_eq_false (p := fitP c n) ?_ | refine decide_eq_true (p := fitP c n) ?_ | refine decide_eq_decide (p := fitP c n).2 ?_
    unfold fitP
    omega
/-- Each change begins behind the one before it. -/
def ordP (l : List Cg) : Prop := ∀ i, i + 1 < l.length → (l.getD i Cg.z).p + wid (l.getD i Cg.z).k ≤ (l.getD (i + 1) Cg.z).p
def ordT (l : List Cg) (n : Nat) : Prop := ∀ i, i + 1 < n → (l.getD i Cg.z).p + wid (l.getD i Cg.z).k ≤ (l.getD (i + 1) Cg.z).p
instance (l : List Cg) : Decidable (ordP l) := by
  unfold ordP
  exact decidable_of_iff (∀ i, i < l.length → i + 1 < l.length → (l.getD i Cg.z).p + wid (l.getD i Cg.z).k ≤ (l.getD (i + 1) Cg.z).p) ⟨fun h i hi => h i (by omega) hi, fun h i _ hi => h i hi⟩
def ordB (l : List Cg) : Bool := decide (ordP l)
theorem ordT_step {l : List Cg} {n : Nat} (h : ordT l n) (h1 : n ≠ 0 → (l.getD (n - 1) Cg.z).p + wid (l.getD (n - 1) Cg.z).k ≤ (l.getD n Cg.z).p) : ordT l (n + 1) := fun i hi => by
  by_cases e : i + 1 < n
  · exact h i e
  · have := h1 (by omega)
    obtain rfl : n = i + 1 := by omega
    exact this
theorem ordT_all {l : List Cg} {n : Nat} (h : ordT l n) (hn : l.length ≤ n) : ordB l = true := decide_eq_true fun i hi => h i (by omega)
theorem ord_no {l : List Cg} {i : Nat} (hi : 1 ≤ i ∧ i < l.length) (h : ¬(l.getD (i - 1) Cg.z).p + wid (l.getD (i - 1) Cg.z).k ≤ (l.getD i Cg.z).p) : ordB l = false := decide_eq_false fun hh => h (by
  have := hh (i - 1) (by omega)
  rwa [Nat.sub_add_cancel hi.1] at this)
theorem u64_w (x : Int) : IntKind.u64.wrap x = x % 18446744073709551616 := by unfold IntKind.wrap; simp [IntKind.signed, IntKind.bits]
theorem u64_sub {p q : Int} (h1 : -9223372036854775808 ≤ p ∧ p ≤ q ∧ q ≤ 9223372036854775807) : IntKind.u64.wrap (IntKind.u64.wrap q - IntKind.u64.wrap p) = q - p := by
  simp only [u64_w]; omega
theorem u64_wid (k : Int) : IntKind.u64.wrap (wid k) = wid k := by have := wid_bd k; simp only [u64_w]; omega
theorem ok_at {l : List Cg} (hc : ∀ c ∈ l, c.ok) (i : Nat) : (l.getD i Cg.z).ok := by
  by_cases h : i < l.length
  · exact hc _ (getD_in h)
  · rw [show l.getD i Cg.z = Cg.z by simp [List.getElem?_eq_none (Nat.le_of_not_lt h)]]; unfold Cg.ok Cg.z; simp
section
variable {l : List Cg} {i : Nat} (h1 : 1 ≤ i) (h3 : ordT l i)
include h1
theorem ord_no' (hi : (i : Int) < l.length) (h : ¬(l.getD ((i : Int) - 1).toNat Cg.z).p + wid (l.getD ((i : Int) - 1).toNat Cg.z).k ≤ (l.getD (i : Int).toNat Cg.z).p) : false = ordB l := by
  rw [Int.toNat_natCast, show ((i : Int) - 1).toNat = i - 1 by omega] at h
  exact (ord_no ⟨h1, by omega⟩ h).symm
include h3
theorem ord_go (h : (l.getD ((i : Int) - 1).toNat Cg.z).p + wid (l.getD ((i : Int) - 1).toNat Cg.z).k ≤ (l.getD (i : Int).toNat Cg.z).p) : ordT l (i + 1) := by
  rw [Int.toNat_natCast, show ((i : Int) - 1).toNat = i - 1 by omega] at h
  exact ordT_step h3 fun _ => h
end
theorem ordered_ct (l : List Cg) (hl : l.length ≤ 1000000) (hc : ∀ c ∈ l, c.ok) : Ct Try.prog 30 [cgs l] fun q outs => q = .bool (ordB l) ∧ outs = [] := by
  refine .det (.of_W (fn := Try.f30) hΓ hm Try.func30 ord30 [] (by kernel_rfl) (Step.out ?_))
  repeat' first
    | (refine Step.mk ?_; conv => whnf)
    | (refine Vc.om ?_ ?_; first | omega | with_reducible rfl | with_reducible exact same_rfl | (simp only [bytes_2, bytes_3, bytes_4, bytes_5, bytes_9, bytes_12, bytes_21, bytes_22, bytes_25, bytes_29, bytes_31, bytes_40, bytes_41, bytes_43, bytes_45, bytes_46, bytes_47, bytes_48, bytes_49, bytes_52, bytes_53, bytes_60, bytes_63, bytes_67, bytes_75, bytes_79, true_and, and_true] <;> omega))
    | (refine NilB.mk fun b hb => Step.out ?_)
    | with_reducible trivial
    | exact noSh_bool _
    | exact noSh_lit _
    | exact noSh_int _ _
    | exact noSh_str _
    | with_reducible rfl
    | with_reducible exact same_rfl
    | (refine Wr.i64 ?_ ?_; omega)
    | (refine Wr.u8 ?_ ?_; omega)
    | (refine Wr.i32 ?_ ?_; omega)
    | (with_reducible refine Br.tt ?_)
    | (with_reducible refine Br.ff ?_)
    | (refine Br.dT ?_ ?_; omega)
    | (refine Br.dF ?_ ?_; omega)
    | (refine Br.d (fun h => ?_) (fun h => ?_))
    | (refine Br.swap ?_)
    | (refine Br.bnot ?_)
    | (refine Br.mk (fun h => Step.out ?_) (fun h => Step.out ?_))
    | (refine Two.mk (Step.out ?_) (Step.out ?_))
    | (refine Cp.mk fun q hq => Step.out ?_)
    | (refine Ovl.mk (by assumption) (Step.out ?_))
    | (refine CallOK.of_ct (Step.out ?_))
    | (refine CallQ.of_ct (Step.out ?_))
    | (refine Met.by (g := 34) (width_ct _) ?_; rintro q outs ⟨rfl, rfl⟩)
    | (refine Vc.mk ?_ (Step.out ?_))
  refine CodeOK.loopW hΓ hm ord30 [] (by kernel_rfl) (α := Nat) (fun i => [(0, cgs l), (3, i64 i)]) (fun i => []) 0 (fun i => 1 ≤ i ∧ (i ≤ l.length ∨ i = 1) ∧ ordT l i) (fun i => l.length + 1 - i) ?_ ?_
  · refine Again.by 1 ⟨Nat.le_refl _, .inr rfl, fun i hi => absurd hi (by omega)⟩ ?_
    repeat' first
      | (refine Step.mk ?_; conv => whnf)
      | (refine Vc.om ?_ ?_; first | omega | with_reducible rfl | with_reducible exact same_rfl | (simp only [bytes_2, bytes_3, bytes_4, bytes_5, bytes_9, bytes_12, bytes_21, bytes_22, bytes_25, bytes_29, bytes_31, bytes_40, bytes_41, bytes_43, bytes_45, bytes_46, bytes_47, bytes_48, bytes_49, bytes_52, bytes_53, bytes_60, bytes_63, bytes_67, bytes_75, bytes_79, true_and, and_true] <;> omega))
      | (refine NilB.mk fun b hb => Step.out ?_)
      | with_reducible trivial
      | exact noSh_bool _
      | exact noSh_lit _
      | exact noSh_int _ _
      | exact noSh_str _
      | with_reducible rfl
      | with_reducible exact same_rfl
      | (refine Wr.i64 ?_ ?_; omega)
      | (refine Wr.u8 ?_ ?_; omega)
      | (refine Wr.i32 ?_ ?_; omega)
      | (with_reducible refine Br.tt ?_)
      | (with_reducible refine Br.ff ?_)
      | (refine Br.dT ?_ ?_; omega)
      | (refine Br.dF ?_ ?_; omega)
      | (refine Br.d (fun h => ?_) (fun h => ?_))
      | (refine Br.swap ?_)
      | (refine Br.bnot ?_)
      | (refine Br.mk (fun h => Step.out ?_) (fun h => Step.out ?_))
      | (refine Two.mk (Step.out ?_) (Step.out ?_))
      | (refine Cp.mk fun q hq => Step.out ?_)
      | (refine Ovl.mk (by assumption) (Step.out ?_))
      | (refine CallOK.of_ct (Step.out ?_))
      | (refine CallQ.of_ct (Step.out ?_))
      | (refine Met.by (g := 34) (width_ct _) ?_; rintro q outs ⟨rfl, rfl⟩)
      | (refine Vc.mk ?_ (Step.out ?_))
  · intro i ⟨h1, h2, h3⟩
    have k1 := ok_at hc ((i : Int) - 1).toNat
    have k2 := ok_at hc (i : Int).toNat
    have k3 := wid_bd (l.getD ((i : Int) - 1).toNat Cg.z).k
    unfold Cg.ok at k1 k2
    repeat' first
      | (refine Step.mk ?_; conv => whnf)
      | (refine Vc.om ?_ ?_; first | omega | with_reducible rfl | with_reducible exact same_rfl | (simp only [bytes_2, bytes_3, bytes_4, bytes_5, bytes_9, bytes_12, bytes_21, bytes_22, bytes_25, bytes_29, bytes_31, bytes_40, bytes_41, bytes_43, bytes_45, bytes_46, bytes_47, bytes_48, bytes_49, bytes_52, bytes_53, bytes_60, bytes_63, bytes_67, bytes_75, bytes_79, true_and, and_true] <;> omega))
      | (refine NilB.mk fun b hb => Step.out ?_)
      | with_reducible trivial
      | exact noSh_bool _
      | exact noSh_lit _
      | exact noSh_int _ _
      | exact noSh_str _
      | with_reducible rfl
      | with_reducible exact same_rfl
      | (refine Wr.i64 ?_ ?_; omega)
      | (refine Wr.u8 ?_ ?_; omega)
      | (refine Wr.i32 ?_ ?_; omega)
      | (with_reducible refine Br.tt ?_)
      | (with_reducible refine Br.ff ?_)
      | (refine Br.dT ?_ ?_; omega)
      | (refine Br.dF ?_ ?_; omega)
      | (refine Wr.raw ?_)
      | (refine Br.d (fun h => ?_) (fun h => ?_))
      | (refine Br.swap ?_)
      | (refine Br.bnot ?_)
      | (refine Br.mk (fun h => Step.out ?_) (fun h => Step.out ?_))
      | (refine Two.mk (Step.out ?_) (Step.out ?_))
      | (refine Cp.mk fun q hq => Step.out ?_)
      | (refine Ovl.mk (by assumption) (Step.out ?_))
      | (refine CallOK.of_ct (Step.out ?_))
      | (refine CallQ.of_ct (Step.out ?_))
      | (refine Met.by (g := 34) (width_ct _) ?_; rintro q outs ⟨rfl, rfl⟩)
      | (refine Vc.mk ?_ (Step.out ?_))
    · exact ord_no' h1 ‹_› (by omega)
    · rename_i h
      rw [u64_sub (by omega), u64_wid] at h
      exact ord_no' h1 ‹_› (by omega)
    · rename_i h
      rw [u64_sub (by omega), u64_wid] at h
      refine Again.by (i + 1) ⟨⟨by omega, by omega, ord_go h1 h3 (by omega)⟩, by omega⟩ ?_
      repeat' first
        | (refine Step.mk ?_; conv => whnf)
        | (refine Vc.om ?_ ?_; first | omega | with_reducible rfl | with_reducible exact same_rfl | (simp only [bytes_2, bytes_3, bytes_4, bytes_5, bytes_9, bytes_12, bytes_21, bytes_22, bytes_25, bytes_29, bytes_31, bytes_40, bytes_41, bytes_43, bytes_45, bytes_46, bytes_47, bytes_48, bytes_49, bytes_52, bytes_53, bytes_60, bytes_63, bytes_67, bytes_75, bytes_79, true_and, and_true] <;> omega))
        | (refine NilB.mk fun b hb => Step.out ?_)
        | with_reducible trivial
        | exact noSh_bool _
        | exact noSh_lit _
        | exact noSh_int _ _
        | exact noSh_str _
        | with_reducible rfl
        | with_reducible exact same_rfl
        | (refine Wr.i64 ?_ ?_; omega)
        | (refine Wr.u8 ?_ ?_; omega)
        | (refine Wr.i32 ?_ ?_; omega)
        | (with_reducible refine Br.tt ?_)
        | (with_reducible refine Br.ff ?_)
        | (refine Br.dT ?_ ?_; omega)
        | (refine Br.dF ?_ ?_; omega)
        | (refine Br.d (fun h => ?_) (fun h => ?_))
        | (refine Br.swap ?_)
        | (refine Br.bnot ?_)
        | (refine Br.mk (fun h => Step.out ?_) (fun h => Step.out ?_))
        | (refine Two.mk (Step.out ?_) (Step.out ?_))
        | (refine Cp.mk fun q hq => Step.out ?_)
        | (refine Ovl.mk (by assumption) (Step.out ?_))
        | (refine CallOK.of_ct (Step.out ?_))
        | (refine CallQ.of_ct (Step.out ?_))
        | (refine Met.by (g := 34) (width_ct _) ?_; rintro q outs ⟨rfl, rfl⟩)
        | (refine Vc.mk ?_ (Step.out ?_))
    · exact (ordT_all h3 (by omega)).symm
set_option maxHeartbeats 4000000 in
theorem rordered_ct (l : List Cg) (hl : l.length ≤ 1000000) (hc : ∀ c ∈ l, c.ok) : Ct Try.prog 41 [cgs l] fun q outs => q = .bool (ordB l) ∧ outs = [] := by
  refine .det (.of_W (fn := Try.f41) hΓ hm Try.func41 ord41 [] (by kernel_rfl) (Step.out ?_))
  repeat' first
    | (refine Step.mk ?_; conv => whnf)
    | (refine Vc.om ?_ ?_; first | omega | with_reducible rfl | with_reducible exact same_rfl | (simp only [bytes_2, bytes_3, bytes_4, bytes_5, bytes_9, bytes_12, bytes_21, bytes_22, bytes_25, bytes_29, bytes_31, bytes_40, bytes_41, bytes_43, bytes_45, bytes_46, bytes_47, bytes_48, bytes_49, bytes_52, bytes_53, bytes_60, bytes_63, bytes_67, bytes_75, bytes_79, true_and, and_true] <;> omega))
    | (refine NilB.mk fun b hb => Step.out ?_)
    | with_reducible trivial
    | exact noSh_bool _
    | exact noSh_lit _
    | exact noSh_int _ _
    | exact noSh_str _
    | with_reducible rfl
    | with_reducible exact same_rfl
    | (refine Wr.i64 ?_ ?_; omega)
    | (refine Wr.u8 ?_ ?_; omega)
    | (refine Wr.i32 ?_ ?_; omega)
    | (with_reducible refine Br.tt ?_)
    | (with_reducible refine Br.ff ?_)
    | (refine Br.dT ?_ ?_; omega)
    | (refine Br.dF ?_ ?_; omega)
    | (refine Br.d (fun h => ?_) (fun h => ?_))
    | (refine Br.swap ?_)
    | (refine Br.bnot ?_)
    | (refine Br.mk (fun h => Step.out ?_) (fun h => Step.out ?_))
    | (refine Two.mk (Step.out ?_) (Step.out ?_))
    | (refine Cp.mk fun q hq => Step.out ?_)
    | (refine Ovl.mk (by assumption) (Step.out ?_))
    | (refine CallOK.of_ct (Step.out ?_))
    | (refine CallQ.of_ct (Step.out ?_))
    | (refine Vc.mk ?_ (Step.out ?_))
  refine CodeOK.loopW hΓ hm ord41 [] (by kernel_rfl) (α := Nat) (fun i => [(0, cgs l), (3, i64 i)]) (fun i => []) 0 (fun i => 1 ≤ i ∧ (i ≤ l.length ∨ i = 1) ∧ ordT l i) (fun i => l.length + 1 - i) ?_ ?_
  · refine Again.by 1 ⟨Nat.le_refl _, .inr rfl, fun i hi => absurd hi (by omega)⟩ ?_
    repeat' first
      | (refine Step.mk ?_; conv => whnf)
      | (refine Vc.om ?_ ?_; first | omega | with_reducible rfl | with_reducible exact same_rfl | (simp only [bytes_2, bytes_3, bytes_4, bytes_5, bytes_9, bytes_12, bytes_21, bytes_22, bytes_25, bytes_29, bytes_31, bytes_40, bytes_41, bytes_43, bytes_45, bytes_46, bytes_47, bytes_48, bytes_49, bytes_52, bytes_53, bytes_60, bytes_63, bytes_67, bytes_75, bytes_79, true_and, and_true] <;> omega))
      | (refine NilB.mk fun b hb => Step.out ?_)
      | with_reducible trivial
      | exact noSh_bool _
      | exact noSh_lit _
      | exact noSh_int _ _
      | exact noSh_str _
      | with_reducible rfl
      | with_reducible exact same_rfl
      | (refine Wr.i64 ?_ ?_; omega)
      | (refine Wr.u8 ?_ ?_; omega)
      | (refine Wr.i32 ?_ ?_; omega)
      | (with_reducible refine Br.tt ?_)
      | (with_reducible refine Br.ff ?_)
      | (refine Br.dT ?_ ?_; omega)
      | (refine Br.dF ?_ ?_; omega)
      | (refine Br.d (fun h => ?_) (fun h => ?_))
      | (refine Br.swap ?_)
      | (refine Br.bnot ?_)
      | (refine Br.mk (fun h => Step.out ?_) (fun h => Step.out ?_))
      | (refine Two.mk (Step.out ?_) (Step.out ?_))
      | (refine Cp.mk fun q hq => Step.out ?_)
      | (refine Ovl.mk (by assumption) (Step.out ?_))
      | (refine CallOK.of_ct (Step.out ?_))
      | (refine CallQ.of_ct (Step.out ?_))
      | (refine Vc.mk ?_ (Step.out ?_))
  · intro i ⟨h1, h2, h3⟩
    have k1 := ok_at hc ((i : Int) - 1).toNat
    have k2 := ok_at hc (i : Int).toNat
    have k3 := wid_at (l.getD ((i : Int) - 1).toNat Cg.z).k
    unfold Cg.ok at k1 k2
    repeat' first
      | (refine Step.mk ?_; conv => whnf)
      | (refine Vc.om ?_ ?_; first | omega | with_reducible rfl | with_reducible exact same_rfl | (simp only [bytes_2, bytes_3, bytes_4, bytes_5, bytes_9, bytes_12, bytes_21, bytes_22, bytes_25, bytes_29, bytes_31, bytes_40, bytes_41, bytes_43, bytes_45, bytes_46, bytes_47, bytes_48, bytes_49, bytes_52, bytes_53, bytes_60, bytes_63, bytes_67, bytes_75, bytes_79, true_and, and_true] <;> omega))
      | (refine NilB.mk fun b hb => Step.out ?_)
      | with_reducible trivial
      | exact noSh_bool _
      | exact noSh_lit _
      | exact noSh_int _ _
      | exact noSh_str _
      | with_reducible rfl
      | with_reducible exact same_rfl
      | (refine Wr.i64 ?_ ?_; omega)
      | (refine Wr.u8 ?_ ?_; omega)
      | (refine Wr.i32 ?_ ?_; omega)
      | (with_reducible refine Br.tt ?_)
      | (with_reducible refine Br.ff ?_)
      | (refine Br.dT ?_ ?_; omega)
      | (refine Br.dF ?_ ?_; omega)
      | (refine Br.d (fun h => ?_) (fun h => ?_))
      | (refine Br.swap ?_)
      | (refine Br.bnot ?_)
      | (refine Br.mk (fun h => Step.out ?_) (fun h => Step.out ?_))
      | (refine Two.mk (Step.out ?_) (Step.out ?_))
      | (refine Cp.mk fun q hq => Step.out ?_)
      | (refine Ovl.mk (by assumption) (Step.out ?_))
      | (refine CallOK.of_ct (Step.out ?_))
      | (refine CallQ.of_ct (Step.out ?_))
      | (refine Vc.mk ?_ (Step.out ?_))
    all_goals first
      | exact ord_no' h1 ‹_› (by omega)
      | exact (ordT_all h3 (by omega)).symm
      | (refine Again.by (i + 1) ⟨⟨by omega, by omega, ord_go h1 h3 (by omega)⟩, by omega⟩ ?_
         repeat' first
           | (refine Step.mk ?_; conv => whnf)
           | (refine Vc.om ?_ ?_; first | omega | with_reducible rfl | with_reducible exact same_rfl | (simp only [bytes_2, bytes_3, bytes_4, bytes_5, bytes_9, bytes_12, bytes_21, bytes_22, bytes_25, bytes_29, bytes_31, bytes_40, bytes_41, bytes_43, bytes_45, bytes_46, bytes_47, bytes_48, bytes_49, bytes_52, bytes_53, bytes_60, bytes_63, bytes_67, bytes_75, bytes_79, true_and, and_true] <;> omega))
           | (refine NilB.mk fun b hb => Step.out ?_)
           | with_reducible trivial
           | exact noSh_bool _
           | exact noSh_lit _
           | exact noSh_int _ _
           | exact noSh_str _
           | with_reducible rfl
           | with_reducible exact same_rfl
           | (refine Wr.i64 ?_ ?_; omega)
           | (refine Wr.u8 ?_ ?_; omega)
           | (refine Wr.i32 ?_ ?_; omega)
           | (with_reducible refine Br.tt ?_)
           | (with_reducible refine Br.ff ?_)
           | (refine Br.dT ?_ ?_; omega)
           | (refine Br.dF ?_ ?_; omega)
           | (refine Br.d (fun h => ?_) (fun h => ?_))
           | (refine Br.swap ?_)
           | (refine Br.bnot ?_)
           | (refine Br.mk (fun h => Step.out ?_) (fun h => Step.out ?_))
           | (refine Two.mk (Step.out ?_) (Step.out ?_))
           | (refine Cp.mk fun q hq => Step.out ?_)
           | (refine Ovl.mk (by assumption) (Step.out ?_))
           | (refine CallOK.of_ct (Step.out ?_))
           | (refine CallQ.of_ct (Step.out ?_))
           | (refine Vc.mk ?_ (Step.out ?_))
         done)
end Kx
