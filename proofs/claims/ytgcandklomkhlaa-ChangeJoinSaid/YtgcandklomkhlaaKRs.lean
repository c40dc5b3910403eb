/-
  The document's rows: put, Apply, All; recordlinkplay.Rows.
  No condition beyond those written in each theorem.
-/
import Derived.Test.YtgcandklomkhlaaKRq
open Go Sx Go.Proofs
set_option linter.unusedSimpArgs false
set_option linter.unusedVariables false
namespace Kx
theorem rvalues_ct (l : List Str) (hl : l.length ≤ 100000) : Ct Try.prog 57 [strs l] fun r outs => r = .bool (valsB l) ∧ outs = [] := by
  refine .det (.of_W (fn := Try.f57) hΓ hm Try.func57 [] [] (by kernel_rfl) (Step.out ?_))
  repeat' first
    | (refine Step.mk ?_; conv => whnf)
    | (refine Vc.om ?_ ?_; first | omega | with_reducible rfl | with_reducible exact same_rfl | (simp only [bytes_2, bytes_3, bytes_4, bytes_5, bytes_9, bytes_12, bytes_21, bytes_22, bytes_25, bytes_27, bytes_29, bytes_32, bytes_33, bytes_34, bytes_38, bytes_40, bytes_44, bytes_45, bytes_52, bytes_53, bytes_54, bytes_58, bytes_59, bytes_60, bytes_93, bytes_97, bytes_100, true_and, and_true] <;> omega))
    | (refine NilB.mk fun b hb => Step.out ?_)
    | with_reducible trivial
    | exact noSh_bool _
    | exact noSh_lit _
    | exact noSh_int _ _
    | exact noSh_str _
    | with_reducible rfl
    | with_reducible exact same_rfl
    | (refine Wr.i64 ?_ ?_; omega)
    | (refine Wr.u8 ?_ ?_; omega)
    | (refine Wr.i32 ?_ ?_; omega)
    | (with_reducible refine Br.tt ?_)
    | (with_reducible refine Br.ff ?_)
    | (refine Br.dT ?_ ?_; omega)
    | (refine Br.dF ?_ ?_; omega)
    | (refine Br.d (fun h => ?_) (fun h => ?_))
    | (refine Br.swap ?_)
    | (refine Br.bnot ?_)
    | (refine Br.mk (fun h => Step.out ?_) (fun h => Step.out ?_))
    | (refine Two.mk (Step.out ?_) (Step.out ?_))
    | (refine Cp.mk fun q hq => Step.out ?_)
    | (refine Ovl.mk (by assumption) (Step.out ?_))
    | (refine CallOK.of_ct (Step.out ?_))
    | (refine CallQ.of_ct (Step.out ?_))
    | (refine Vc.mk ?_ (Step.out ?_))
  · rw [valsB, decide_eq_false (show ¬1 ≤ l.length by omega)]; rfl
  · rw [valsB, decide_eq_false (show ¬l.length ≤ 5 by omega), Bool.and_false]; rfl
  · have hb : valsB l = !l.any fun s => decide (64 < s.length) := by rw [valsB, decide_eq_true (by omega), decide_eq_true (by omega)]; rfl
    refine CodeOK.loopW hΓ hm [] [] (by kernel_rfl) (α := Nat) (fun i => [(0, strs l), (3, i64 i)]) (fun i => []) 0 (fun i => i ≤ l.length ∧ (l.any fun s => decide (64 < s.length)) = (l.drop i).any fun s => decide (64 < s.length)) (fun i => l.length - i) ?_ ?_
    · refine Again.by 0 ⟨Nat.zero_le _, rfl⟩ ?_
      repeat' first
        | (refine Step.mk ?_; conv => whnf)
        | (refine Vc.om ?_ ?_; first | omega | with_reducible rfl | with_reducible exact same_rfl | (simp only [bytes_2, bytes_3, bytes_4, bytes_5, bytes_9, bytes_12, bytes_21, bytes_22, bytes_25, bytes_27, bytes_29, bytes_32, bytes_33, bytes_34, bytes_38, bytes_40, bytes_44, bytes_45, bytes_52, bytes_53, bytes_54, bytes_58, bytes_59, bytes_60, bytes_93, bytes_97, bytes_100, true_and, and_true] <;> omega))
        | (refine NilB.mk fun b hb => Step.out ?_)
        | with_reducible trivial
        | exact noSh_bool _
        | exact noSh_lit _
        | exact noSh_int _ _
        | exact noSh_str _
        | with_reducible rfl
        | with_reducible exact same_rfl
        | (refine Wr.i64 ?_ ?_; omega)
        | (refine Wr.u8 ?_ ?_; omega)
        | (refine Wr.i32 ?_ ?_; omega)
        | (with_reducible refine Br.tt ?_)
        | (with_reducible refine Br.ff ?_)
        | (refine Br.dT ?_ ?_; omega)
        | (refine Br.dF ?_ ?_; omega)
        | (refine Br.d (fun h => ?_) (fun h => ?_))
        | (refine Br.swap ?_)
        | (refine Br.bnot ?_)
        | (refine Br.mk (fun h => Step.out ?_) (fun h => Step.out ?_))
        | (refine Two.mk (Step.out ?_) (Step.out ?_))
        | (refine Cp.mk fun q hq => Step.out ?_)
        | (refine Ovl.mk (by assumption) (Step.out ?_))
        | (refine CallOK.of_ct (Step.out ?_))
        | (refine CallQ.of_ct (Step.out ?_))
        | (refine Vc.mk ?_ (Step.out ?_))
    · intro i ⟨hi, hv⟩
      repeat' first
        | (refine Step.mk ?_; conv => whnf)
        | (refine Vc.om ?_ ?_; first | omega | with_reducible rfl | with_reducible exact same_rfl | (simp only [bytes_2, bytes_3, bytes_4, bytes_5, bytes_9, bytes_12, bytes_21, bytes_22, bytes_25, bytes_27, bytes_29, bytes_32, bytes_33, bytes_34, bytes_38, bytes_40, bytes_44, bytes_45, bytes_52, bytes_53, bytes_54, bytes_58, bytes_59, bytes_60, bytes_93, bytes_97, bytes_100, true_and, and_true] <;> omega))
        | (refine NilB.mk fun b hb => Step.out ?_)
        | with_reducible trivial
        | exact noSh_bool _
        | exact noSh_lit _
        | exact noSh_int _ _
        | exact noSh_str _
        | with_reducible rfl
        | with_reducible exact same_rfl
        | (refine Wr.i64 ?_ ?_; omega)
        | (refine Wr.u8 ?_ ?_; omega)
        | (refine Wr.i32 ?_ ?_; omega)
        | (with_reducible refine Br.tt ?_)
        | (with_reducible refine Br.ff ?_)
        | (refine Br.dT ?_ ?_; omega)
        | (refine Br.dF ?_ ?_; omega)
        | (refine Br.d (fun h => ?_) (fun h => ?_))
        | (refine Br.swap ?_)
        | (refine Br.bnot ?_)
        | (refine Br.mk (fun h => Step.out ?_) (fun h => Step.out ?_))
        | (refine Two.mk (Step.out ?_) (Step.out ?_))
        | (refine Cp.mk fun q hq => Step.out ?_)
        | (refine Ovl.mk (by assumption) (Step.out ?_))
        | (refine CallOK.of_ct (Step.out ?_))
        | (refine CallQ.of_ct (Step.out ?_))
        | (refine Vc.mk ?_ (Step.out ?_))
      all_goals try simp only [Int.toNat_natCast] at *
      · rw [hb, hv, any_step _ l [] i (by omega), decide_eq_true (by omega), Bool.true_or]; rfl
      · refine Again.by (i + 1) ⟨⟨by omega, ?_⟩, by omega⟩ ?_
        · rw [hv, any_step _ l [] i (by omega), decide_eq_false (by omega), Bool.false_or]
        · repeat' first
            | (refine Step.mk ?_; conv => whnf)
            | (refine Vc.om ?_ ?_; first | omega | with_reducible rfl | with_reducible exact same_rfl | (simp only [bytes_2, bytes_3, bytes_4, bytes_5, bytes_9, bytes_12, bytes_21, bytes_22, bytes_25, bytes_27, bytes_29, bytes_32, bytes_33, bytes_34, bytes_38, bytes_40, bytes_44, bytes_45, bytes_52, bytes_53, bytes_54, bytes_58, bytes_59, bytes_60, bytes_93, bytes_97, bytes_100, true_and, and_true] <;> omega))
            | (refine NilB.mk fun b hb => Step.out ?_)
            | with_reducible trivial
            | exact noSh_bool _
            | exact noSh_lit _
            | exact noSh_int _ _
            | exact noSh_str _
            | with_reducible rfl
            | with_reducible exact same_rfl
            | (refine Wr.i64 ?_ ?_; omega)
            | (refine Wr.u8 ?_ ?_; omega)
            | (refine Wr.i32 ?_ ?_; omega)
            | (with_reducible refine Br.tt ?_)
            | (with_reducible refine Br.ff ?_)
            | (refine Br.dT ?_ ?_; omega)
            | (refine Br.dF ?_ ?_; omega)
            | (refine Br.d (fun h => ?_) (fun h => ?_))
            | (refine Br.swap ?_)
            | (refine Br.bnot ?_)
            | (refine Br.mk (fun h => Step.out ?_) (fun h => Step.out ?_))
            | (refine Two.mk (Step.out ?_) (Step.out ?_))
            | (refine Cp.mk fun q hq => Step.out ?_)
            | (refine Ovl.mk (by assumption) (Step.out ?_))
            | (refine CallOK.of_ct (Step.out ?_))
            | (refine CallQ.of_ct (Step.out ?_))
            | (refine Vc.mk ?_ (Step.out ?_))
      · rw [hb, hv, List.drop_of_length_le (by omega)]; rfl
theorem rstatus_ct (a b c : Int) : Ct Try.prog 58 [i64 a, i64 b, i64 c] fun r outs => r = .bool (statB a b c) ∧ outs = [] := by
  refine .det (.of_W (fn := Try.f58) hΓ hm Try.func58 [] [] (by kernel_rfl) (Step.out ?_))
  repeat' first
    | (refine Step.mk ?_; conv => whnf)
    | (refine Vc.om ?_ ?_; first | omega | with_reducible rfl | with_reducible exact same_rfl | (simp only [bytes_2, bytes_3, bytes_4, bytes_5, bytes_9, bytes_12, bytes_21, bytes_22, bytes_25, bytes_27, bytes_29, bytes_32, bytes_33, bytes_34, bytes_38, bytes_40, bytes_44, bytes_45, bytes_52, bytes_53, bytes_54, bytes_58, bytes_59, bytes_60, bytes_93, bytes_97, bytes_100, true_and, and_true] <;> omega))
    | (refine NilB.mk fun b hb => Step.out ?_)
    | with_reducible trivial
    | exact noSh_bool _
    | exact noSh_lit _
    | exact noSh_int _ _
    | exact noSh_str _
    | with_reducible rfl
    | with_reducible exact same_rfl
    | (refine Wr.i64 ?_ ?_; omega)
    | (refine Wr.u8 ?_ ?_; omega)
    | (refine Wr.i32 ?_ ?_; omega)
    | (with_reducible refine Br.tt ?_)
    | (with_reducible refine Br.ff ?_)
    | (refine Br.dT ?_ ?_; omega)
    | (refine Br.dF ?_ ?_; omega)
    | (refine Br.d (fun h => ?_) (fun h => ?_))
    | (refine Br.swap ?_)
    | (refine Br.bnot ?_)
    | (refine Br.mk (fun h => Step.out ?_) (fun h => Step.out ?_))
    | (refine Two.mk (Step.out ?_) (Step.out ?_))
    | (refine Cp.mk fun q hq => Step.out ?_)
    | (refine Ovl.mk (by assumption) (Step.out ?_))
    | (refine CallOK.of_ct (Step.out ?_))
    | (refine CallQ.of_ct (Step.out ?_))
    | (refine Vc.mk ?_ (Step.out ?_))
  all_goals unfold statB
  · rw [if_pos ‹b = 2›, idB, decide_eq_true ‹1 ≤ c›, decide_eq_true h]; rfl
  · rw [if_pos ‹b = 2›, idB, decide_eq_false h, Bool.and_false]; rfl
  · rw [if_pos ‹b = 2›, idB, decide_eq_false h]; rfl
  · rw [if_neg ‹¬b = 2›, if_pos (by omega)]
  · rw [if_neg ‹¬b = 2›, if_neg (by omega)]
  · rw [if_neg ‹¬b = 2›, if_neg (by omega)]
theorem rcheck_ct (e : Ev) (hl : e.vals.length ≤ 100000) : Ct Try.prog 60 [e.d] fun q outs => ∃ k, (k = 0 → e.chk = 0) ∧ q = i64 k ∧ outs = [] := by
  refine .some (.of_W (fn := Try.f60) hΓ hm Try.func60 [] [] (by kernel_rfl) (Step.out ?_))
  repeat' first
    | (refine Step.mk ?_; conv => whnf)
    | (refine Vc.om ?_ ?_; first | omega | with_reducible rfl | with_reducible exact same_rfl | (simp only [bytes_2, bytes_3, bytes_4, bytes_5, bytes_9, bytes_12, bytes_21, bytes_22, bytes_25, bytes_27, bytes_29, bytes_32, bytes_33, bytes_34, bytes_38, bytes_40, bytes_44, bytes_45, bytes_52, bytes_53, bytes_54, bytes_58, bytes_59, bytes_60, bytes_93, bytes_97, bytes_100, true_and, and_true] <;> omega))
    | (refine NilB.mk fun b hb => Step.out ?_)
    | with_reducible trivial
    | exact noSh_bool _
    | exact noSh_lit _
    | exact noSh_int _ _
    | exact noSh_str _
    | with_reducible rfl
    | with_reducible exact same_rfl
    | (refine Wr.i64 ?_ ?_; omega)
    | (refine Wr.u8 ?_ ?_; omega)
    | (refine Wr.i32 ?_ ?_; omega)
    | (with_reducible refine Br.tt ?_)
    | (with_reducible refine Br.ff ?_)
    | (refine Br.dT ?_ ?_; omega)
    | (refine Br.dF ?_ ?_; omega)
    | (refine Br.d (fun h => ?_) (fun h => ?_))
    | (refine Br.swap ?_)
    | (refine Br.bnot ?_)
    | (refine Br.mk (fun h => Step.out ?_) (fun h => Step.out ?_))
    | (refine Two.mk (Step.out ?_) (Step.out ?_))
    | (refine Cp.mk fun q hq => Step.out ?_)
    | (refine Ovl.mk (by assumption) (Step.out ?_))
    | (refine CallOK.of_ct (Step.out ?_))
    | (refine CallQ.of_ct (Step.out ?_))
    | (refine Met.by (g := 57) (rvalues_ct _ (by omega)) ?_; rintro q outs ⟨rfl, rfl⟩)
    | (refine Met.by (g := 58) (rstatus_ct _ _ _) ?_; rintro q outs ⟨rfl, rfl⟩)
    | (refine Vc.mk ?_ (Step.out ?_))
  all_goals first
    | exact Lf.by 2 (fun h => absurd h (by decide)) (Step.mk (Two.mk rfl trivial))
    | exact Lf.by 49 (fun h => absurd h (by decide)) (Step.mk (Two.mk rfl trivial))
    | skip
  all_goals
    refine Lf.by 0 (fun _ => ?_) (Step.mk (Two.mk rfl trivial))
    unfold Ev.chk
    rw [if_pos (by simp only [idB, Bool.and_eq_true, decide_eq_true_eq]; omega), if_pos]
    simp_all [Ev.good]
theorem fine_num {r : Rw} (h : r.fine) : 1 ≤ r.id ∧ r.id ≤ 1048576 ∧ 0 ≤ r.ver ∧ r.ver ≤ 1048576 ∧ 0 ≤ r.sv ∧ r.sv ≤ 1048576 ∧ (r.ver = 0 → r.sv ≠ 0 ∧ (r.vals.length : Int) = 0) ∧ (r.sv = 0 → r.st = 0 ∧ r.into = 0) ∧ r.vals.length ≤ 5 := by
  obtain ⟨i, c⟩ := (fine_iff r).1 h
  have v := c.v; have s := c.s; have v0 := c.v0; have s0 := c.s0
  simp only [idB, verB, Bool.and_eq_true, decide_eq_true_eq] at i v s
  have e1 : r.c.1.1 = r.ver := rfl
  have e2 : r.c.2.1 = r.sv := rfl
  have e3 : r.c.1.2 = r.vals := rfl
  have e4 : r.c.2.2.1 = r.st := rfl
  have e5 : r.c.2.2.2 = r.into := rfl
  rw [e1] at v v0; rw [e2] at s s0 v0; rw [e3] at v0; rw [e4, e5] at s0
  exact ⟨i.1, i.2, v.1, v.2, s.1, s.2, fun h => ⟨(v0 h).1, by have := (v0 h).2; omega⟩, s0, h.len⟩
theorem fine_boo {r : Rw} (h : r.fine) : (r.ver ≠ 0 → valsB r.vals = true) ∧ statB r.id r.st r.into = true := by
  obtain ⟨i, c⟩ := (fine_iff r).1 h
  refine ⟨c.v1, ?_⟩
  by_cases hs : r.sv = 0
  · have := c.s0 hs
    have e1 : r.st = 0 := this.1
    have e2 : r.into = 0 := this.2
    rw [e1, e2]; rfl
  · exact c.s1 hs
set_option maxHeartbeats 4000000 in
theorem rvalid_ct (l : List Rw) (hv : valid l = 0) : Ct Try.prog 47 [rws l] fun q outs => q = i64 0 ∧ outs = [] := by
  obtain ⟨v1, v2, v3⟩ := valid_zero.1 hv
  refine .det (.of_W (fn := Try.f47) hΓ hm Try.func47 ord47 [] (by kernel_rfl) (Step.out ?_))
  repeat' first
    | (refine Step.mk ?_; conv => whnf)
    | (refine Vc.om ?_ ?_; first | omega | with_reducible rfl | with_reducible exact same_rfl | (simp only [bytes_2, bytes_3, bytes_4, bytes_5, bytes_9, bytes_12, bytes_21, bytes_22, bytes_25, bytes_27, bytes_29, bytes_32, bytes_33, bytes_34, bytes_38, bytes_40, bytes_44, bytes_45, bytes_52, bytes_53, bytes_54, bytes_58, bytes_59, bytes_60, bytes_93, bytes_97, bytes_100, true_and, and_true] <;> omega))
    | (refine NilB.mk fun b hb => Step.out ?_)
    | with_reducible trivial
    | exact noSh_bool _
    | exact noSh_lit _
    | exact noSh_int _ _
    | exact noSh_str _
    | with_reducible rfl
    | with_reducible exact same_rfl
    | (refine Wr.i64 ?_ ?_; omega)
    | (refine Wr.u8 ?_ ?_; omega)
    | (refine Wr.i32 ?_ ?_; omega)
    | (with_reducible refine Br.tt ?_)
    | (with_reducible refine Br.ff ?_)
    | (refine Br.dT ?_ ?_; omega)
    | (refine Br.dF ?_ ?_; omega)
    | (refine Br.d (fun h => ?_) (fun h => ?_))
    | (refine Br.swap ?_)
    | (refine Br.bnot ?_)
    | (refine Br.mk (fun h => Step.out ?_) (fun h => Step.out ?_))
    | (refine Two.mk (Step.out ?_) (Step.out ?_))
    | (refine Cp.mk fun q hq => Step.out ?_)
    | (refine Ovl.mk (by assumption) (Step.out ?_))
    | (refine CallOK.of_ct (Step.out ?_))
    | (refine CallQ.of_ct (Step.out ?_))
    | (refine Met.by (g := 57) (rvalues_ct _ (by omega)) ?_; rintro q outs ⟨rfl, rfl⟩)
    | (refine Met.by (g := 58) (rstatus_ct _ _ _) ?_; rintro q outs ⟨rfl, rfl⟩)
    | (refine Vc.mk ?_ (Step.out ?_))
  refine CodeOK.loopW hΓ hm ord47 [] (by kernel_rfl) (α := Nat) (fun i => [(0, rws l), (3, i64 i)]) (fun i => []) 0 (fun i => i ≤ l.length) (fun i => l.length - i) ?_ ?_
  · refine Again.by 0 (Nat.zero_le _) ?_
    repeat' first
      | (refine Step.mk ?_; conv => whnf)
      | (refine Vc.om ?_ ?_; first | omega | with_reducible rfl | with_reducible exact same_rfl | (simp only [bytes_2, bytes_3, bytes_4, bytes_5, bytes_9, bytes_12, bytes_21, bytes_22, bytes_25, bytes_27, bytes_29, bytes_32, bytes_33, bytes_34, bytes_38, bytes_40, bytes_44, bytes_45, bytes_52, bytes_53, bytes_54, bytes_58, bytes_59, bytes_60, bytes_93, bytes_97, bytes_100, true_and, and_true] <;> omega))
      | (refine NilB.mk fun b hb => Step.out ?_)
      | with_reducible trivial
      | exact noSh_bool _
      | exact noSh_lit _
      | exact noSh_int _ _
      | exact noSh_str _
      | with_reducible rfl
      | with_reducible exact same_rfl
      | (refine Wr.i64 ?_ ?_; omega)
      | (refine Wr.u8 ?_ ?_; omega)
      | (refine Wr.i32 ?_ ?_; omega)
      | (with_reducible refine Br.tt ?_)
      | (with_reducible refine Br.ff ?_)
      | (refine Br.dT ?_ ?_; omega)
      | (refine Br.dF ?_ ?_; omega)
      | (refine Br.d (fun h => ?_) (fun h => ?_))
      | (refine Br.swap ?_)
      | (refine Br.bnot ?_)
      | (refine Br.mk (fun h => Step.out ?_) (fun h => Step.out ?_))
      | (refine Two.mk (Step.out ?_) (Step.out ?_))
      | (refine Cp.mk fun q hq => Step.out ?_)
      | (refine Ovl.mk (by assumption) (Step.out ?_))
      | (refine CallOK.of_ct (Step.out ?_))
      | (refine CallQ.of_ct (Step.out ?_))
      | (refine Met.by (g := 57) (rvalues_ct _ (by omega)) ?_; rintro q outs ⟨rfl, rfl⟩)
      | (refine Met.by (g := 58) (rstatus_ct _ _ _) ?_; rintro q outs ⟨rfl, rfl⟩)
      | (refine Vc.mk ?_ (Step.out ?_))
  · intro i hi
    have hf := fun h : i < l.length => v2 _ (getD_in (z := Rw.z) (i := (i : Int).toNat) h)
    have n1 := fun h : i < l.length => fine_num (hf h)
    have n2 := fun h : i < l.length => fine_boo (hf h)
    have n3 : 0 < i → i < l.length → (l.getD ((i : Int) - 1).toNat Rw.z).id < (l.getD (i : Int).toNat Rw.z).id := fun h1 h2 => by
      have e1 : ((i : Int) - 1).toNat < l.length := by omega
      have e2 : (i : Int).toNat < l.length := by omega
      rw [List.getD_eq_getElem?_getD, List.getElem?_eq_getElem e1, List.getD_eq_getElem?_getD, List.getElem?_eq_getElem e2]
      exact List.pairwise_iff_getElem.1 v3 _ _ e1 e2 (by omega)
    repeat' first
      | (refine Step.mk ?_; conv => whnf)
      | (refine Vc.om ?_ ?_; first | omega | with_reducible rfl | with_reducible exact same_rfl | (simp only [bytes_2, bytes_3, bytes_4, bytes_5, bytes_9, bytes_12, bytes_21, bytes_22, bytes_25, bytes_27, bytes_29, bytes_32, bytes_33, bytes_34, bytes_38, bytes_40, bytes_44, bytes_45, bytes_52, bytes_53, bytes_54, bytes_58, bytes_59, bytes_60, bytes_93, bytes_97, bytes_100, true_and, and_true] <;> omega))
      | (refine NilB.mk fun b hb => Step.out ?_)
      | with_reducible trivial
      | exact noSh_bool _
      | exact noSh_lit _
      | exact noSh_int _ _
      | exact noSh_str _
      | with_reducible rfl
      | with_reducible exact same_rfl
      | (refine Wr.i64 ?_ ?_; omega)
      | (refine Wr.u8 ?_ ?_; omega)
      | (refine Wr.i32 ?_ ?_; omega)
      | (with_reducible refine Br.tt ?_)
      | (with_reducible refine Br.ff ?_)
      | (refine Br.dT ?_ ?_; omega)
      | (refine Br.dF ?_ ?_; omega)
      | (refine Br.d (fun h => ?_) (fun h => ?_))
      | (refine Br.swap ?_)
      | (refine Br.bnot ?_)
      | (refine Br.mk (fun h => Step.out ?_) (fun h => Step.out ?_))
      | (refine Two.mk (Step.out ?_) (Step.out ?_))
      | (refine Cp.mk fun q hq => Step.out ?_)
      | (refine Ovl.mk (by assumption) (Step.out ?_))
      | (refine CallOK.of_ct (Step.out ?_))
      | (refine CallQ.of_ct (Step.out ?_))
      | (refine Met.by (g := 57) (rvalues_ct _ (by omega)) ?_; rintro q outs ⟨rfl, rfl⟩)
      | (refine Met.by (g := 58) (rstatus_ct _ _ _) ?_; rintro q outs ⟨rfl, rfl⟩)
      | (refine Vc.mk ?_ (Step.out ?_))
    all_goals first
      | (refine Again.by (i + 1) ⟨by omega, by omega⟩ ?_)
      | (exfalso
         have n1 := n1 (by omega)
         have n2 := n2 (by omega)
         first
           | omega
           | (have n3 := n3 (by omega) (by omega); omega)
           | (rw [n2.2] at *; simp_all; done)
           | (have n4 := n2.1 (by omega); simp_all; done)
           | fail)
    all_goals
      repeat' first
        | (refine Step.mk ?_; conv => whnf)
        | (refine Vc.om ?_ ?_; first | omega | with_reducible rfl | with_reducible exact same_rfl | (simp only [bytes_2, bytes_3, bytes_4, bytes_5, bytes_9, bytes_12, bytes_21, bytes_22, bytes_25, bytes_27, bytes_29, bytes_32, bytes_33, bytes_34, bytes_38, bytes_40, bytes_44, bytes_45, bytes_52, bytes_53, bytes_54, bytes_58, bytes_59, bytes_60, bytes_93, bytes_97, bytes_100, true_and, and_true] <;> omega))
        | (refine NilB.mk fun b hb => Step.out ?_)
        | with_reducible trivial
        | exact noSh_bool _
        | exact noSh_lit _
        | exact noSh_int _ _
        | exact noSh_str _
        | with_reducible rfl
        | with_reducible exact same_rfl
        | (refine Wr.i64 ?_ ?_; omega)
        | (refine Wr.u8 ?_ ?_; omega)
        | (refine Wr.i32 ?_ ?_; omega)
        | (with_reducible refine Br.tt ?_)
        | (with_reducible refine Br.ff ?_)
        | (refine Br.dT ?_ ?_; omega)
        | (refine Br.dF ?_ ?_; omega)
        | (refine Br.d (fun h => ?_) (fun h => ?_))
        | (refine Br.swap ?_)
        | (refine Br.bnot ?_)
        | (refine Br.mk (fun h => Step.out ?_) (fun h => Step.out ?_))
        | (refine Two.mk (Step.out ?_) (Step.out ?_))
        | (refine Cp.mk fun q hq => Step.out ?_)
        | (refine Ovl.mk (by assumption) (Step.out ?_))
        | (refine CallOK.of_ct (Step.out ?_))
        | (refine CallQ.of_ct (Step.out ?_))
        | (refine Met.by (g := 57) (rvalues_ct _ (by omega)) ?_; rintro q outs ⟨rfl, rfl⟩)
        | (refine Met.by (g := 58) (rstatus_ct _ _ _) ?_; rintro q outs ⟨rfl, rfl⟩)
        | (refine Vc.mk ?_ (Step.out ?_))
end Kx
