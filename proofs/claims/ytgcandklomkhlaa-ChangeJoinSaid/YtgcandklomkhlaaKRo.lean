/-
  ChangeLimit.
  No condition beyond those written in each theorem.
-/
import Derived.Test.YtgcandklomkhlaaKRn
open Go Sx Go.Proofs
set_option linter.unusedSimpArgs false
set_option linter.unusedVariables false
namespace Kx
def rowA (k : Int) : Rw := ⟨2 * k, 1, [[97]], 0, 0, 0⟩
/-- The first n rows: of the numbers 2, 4 .. 2n. -/
def lim (n : Nat) : List Rw := (List.range n).map fun i : Nat => rowA ((i : Int) + 1)
theorem lim_len (n : Nat) : (lim n).length = n := by simp [lim]
theorem lim_fine {n : Nat} (hn : n ≤ 64) : ∀ r ∈ lim n, r.fine := fun r hr => by
  obtain ⟨i, hi, rfl⟩ := List.mem_map.1 hr
  have hi := List.mem_range.1 hi
  refine ⟨?_, rfl, rfl, rfl⟩
  show idB (2 * ((i : Int) + 1)) = true
  simp only [idB, Bool.and_eq_true, decide_eq_true_eq]; omega
theorem lim_asc (n : Nat) : AscR (lim n) := by
  refine List.pairwise_map.2 ?_
  refine List.Pairwise.imp ?_ (List.pairwise_lt_range (n := n))
  intro a b h
  simp only [rowA]; omega
theorem lim_valid {n : Nat} (hn : n ≤ 64) : valid (lim n) = 0 := valid_zero.2 ⟨by rw [lim_len]; exact hn, lim_fine hn, lim_asc n⟩
theorem ins_end : ∀ (l : List Rw) (r : Rw), (∀ x ∈ l, x.id < r.id) → ins l r = l ++ [r]
  | [], _, _ => rfl
  | x :: l, r, h => by rw [ins, if_pos (h x (by simp)), ins_end l r fun y hy => h y (by simp [hy])]; rfl
theorem chkA {k : Int} (h : 1 ≤ k ∧ k ≤ 1048576) (v : Int) (hv : 1 ≤ v ∧ v ≤ 10) (c : UInt8) : Ev.chk ⟨1, k, v, [[c]], 0, 0⟩ = 0 := by
  simp [Ev.chk, idB, Ev.good, valsB]; omega
theorem lim_step {n : Nat} (hn : n < 64) : apply (lim n) ⟨1, 2 * ((n : Int) + 1), 1, [[97]], 0, 0⟩ = (lim (n + 1), 0) := by
  have e : ins (lim n) (Ev.row ⟨1, 2 * ((n : Int) + 1), 1, [[97]], 0, 0⟩) = lim (n + 1) := by
    rw [ins_end]
    · simp [lim, List.range_succ, rowA, Ev.row]
    · intro x hx
      obtain ⟨i, hi, rfl⟩ := List.mem_map.1 hx
      have hi := List.mem_range.1 hi
      simp only [rowA, Ev.row, if_pos]; omega
  rw [apply, if_neg (not_not_intro (lim_valid (by omega))), if_neg (not_not_intro (chkA (by omega) 1 (by omega) 97)), e, if_neg (by rw [lim_len]; omega)]
theorem ins_len_new : ∀ {l : List Rw} {r : Rw}, (∀ x ∈ l, x.id ≠ r.id) → (ins l r).length = l.length + 1
  | [], _, _ => rfl
  | x :: l, r, h => by
    rw [ins]; split
    · rw [List.length_cons, ins_len_new fun y hy => h y (by simp [hy])]; rfl
    · rw [if_neg (h x (by simp))]; rfl
theorem ins_len_old : ∀ {l : List Rw} {r : Rw}, AscR l → (∃ x ∈ l, x.id = r.id) → (ins l r).length = l.length
  | [], _, _, ⟨x, hx, _⟩ => by cases hx
  | x :: l, r, ha, ⟨y, hy, e⟩ => by
    have ha := List.pairwise_cons.1 ha
    rw [ins]
    rcases List.mem_cons.1 hy with rfl | hy
    · rw [if_neg (by omega), if_pos e]; rfl
    · have := ha.1 y hy
      rw [if_pos (by omega), List.length_cons, ins_len_old ha.2 ⟨y, hy, e⟩]; rfl
theorem lim_over (k : Int) (hk : 0 ≤ k ∧ k < 60) : apply (lim 64) ⟨1, 1 + 2 * k, 1, [[97]], 0, 0⟩ = ([], 1) := by
  have e : (ins (lim 64) (Ev.row ⟨1, 1 + 2 * k, 1, [[97]], 0, 0⟩)).length = 65 := by
    rw [ins_len_new, lim_len]
    intro x hx
    obtain ⟨i, hi, rfl⟩ := List.mem_map.1 hx
    simp only [rowA, Ev.row, if_pos]; omega
  rw [apply, if_neg (not_not_intro (lim_valid (by omega))), if_neg (not_not_intro (chkA (by omega) 1 (by omega) 97)), if_pos (by omega)]
def limB (k : Int) : List Rw := ins (lim 64) ⟨2 + 2 * k, 2, [[98]], 0, 0, 0⟩
theorem limB_len (k : Int) (hk : 0 ≤ k ∧ k < 60) : (limB k).length = 64 := by
  rw [limB, ins_len_old (lim_asc 64), lim_len]
  refine ⟨rowA (k + 1), List.mem_map.2 ⟨k.toNat, List.mem_range.2 (by omega), by rw [show ((k.toNat : Nat) : Int) = k by omega]⟩, ?_⟩
  simp only [rowA]; omega
theorem lim_on (k : Int) (hk : 0 ≤ k ∧ k < 60) : apply (lim 64) ⟨1, 2 + 2 * k, 2, [[98]], 0, 0⟩ = (limB k, 0) := by
  have hl := limB_len k hk
  rw [apply, if_neg (not_not_intro (lim_valid (by omega))), if_neg (not_not_intro (chkA (by omega) 2 (by omega) 98))]
  rw [show ins (lim 64) (Ev.row ⟨1, 2 + 2 * k, 2, [[98]], 0, 0⟩) = limB k from rfl, if_neg (by omega)]
theorem lim_all (k : Int) (hk : 0 ≤ k ∧ k < 60) : all (lim 64) [⟨1, 1, 1, [[97]], 0, 0⟩, ⟨1, 2 + 2 * k, 2, [[98]], 0, 0⟩] = (limB k, 1) := by
  have h0 := lim_over 0 (by omega)
  rw [show (1 : Int) + 2 * 0 = 1 from rfl] at h0
  rw [all, if_neg (not_not_intro (lim_valid (by omega))), allGo, h0, if_pos (by decide), allGo, lim_on k hk, if_neg (by simp), allGo]
  rfl
theorem lim_ok (n : Nat) (hn : n ≤ 64) : RwsOK (lim n) := valid_ok (lim_valid hn)
theorem limB_ok (k : Int) (hk : 0 ≤ k ∧ k < 60) : RwsOK (limB k) := by
  have := apply_valid (l := lim 64) (e := ⟨1, 2 + 2 * k, 2, [[98]], 0, 0⟩) (by rw [lim_on k hk])
  rw [lim_on k hk] at this
  exact valid_ok this
theorem limit_ct (v : Int) (hv : 0 ≤ v ∧ v ≤ 255) : Ct Try.prog 5 [.int .u8 v] fun r outs => r = .bool true ∧ outs = [] := by
  have hk := tmod_bd v 60 hv.1 (by omega)
  have k1 := lim_over (v.tmod 60) (by omega)
  have k2 := lim_on (v.tmod 60) (by omega)
  have k3 := lim_all (v.tmod 60) (by omega)
  have k4 := limB_ok (v.tmod 60) (by omega)
  have k5 := limB_len (v.tmod 60) (by omega)
  refine .det (.of_W (fn := Try.f5) hΓ hm Try.func5 [] [] (by kernel_rfl) (Step.out ?_))
  repeat' first
    | (refine Step.mk ?_; conv => whnf)
    | (refine Vc.om ?_ ?_; first | omega | with_reducible rfl | with_reducible exact same_rfl | (simp only [bytes_2, bytes_3, bytes_4, bytes_5, bytes_9, bytes_12, bytes_21, bytes_22, bytes_25, bytes_27, bytes_29, bytes_32, bytes_33, bytes_34, bytes_38, bytes_40, bytes_44, bytes_45, bytes_52, bytes_53, bytes_54, bytes_58, bytes_59, bytes_60, bytes_93, bytes_97, bytes_100, true_and, and_true] <;> omega))
    | (refine NilB.mk fun b hb => Step.out ?_)
    | with_reducible trivial
    | exact noSh_bool _
    | exact noSh_lit _
    | exact noSh_int _ _
    | exact noSh_str _
    | with_reducible rfl
    | with_reducible exact same_rfl
    | (refine Wr.i64 ?_ ?_; omega)
    | (refine Wr.u8 ?_ ?_; omega)
    | (refine Wr.i32 ?_ ?_; omega)
    | (with_reducible refine Br.tt ?_)
    | (with_reducible refine Br.ff ?_)
    | (refine Br.dT ?_ ?_; omega)
    | (refine Br.dF ?_ ?_; omega)
    | (refine Met.by awake_ct ?_; rintro q outs ⟨rfl, rfl⟩)
    | (refine Br.d (fun h => ?_) (fun h => ?_))
    | (refine Br.swap ?_)
    | (refine Br.bnot ?_)
    | (refine Br.mk (fun h => Step.out ?_) (fun h => Step.out ?_))
    | (refine Two.mk (Step.out ?_) (Step.out ?_))
    | (refine Cp.mk fun q hq => Step.out ?_)
    | (refine Ovl.mk (by assumption) (Step.out ?_))
    | (refine CallOK.ctF (g := 12) (Step.out ?_))
    | (refine CallOK.ctF (g := 15) (Step.out ?_))
    | (refine CallOK.ctF (g := 19) (Step.out ?_))
    | (refine CallOK.of_ct (Step.out ?_))
    | (refine CallQ.of_ct (Step.out ?_))
    | (refine Met.by (g := 12) (all_ct _ _ (by assumption) (by assumption)) ?_; rintro q outs ⟨rfl, rfl⟩)
    | (refine Met.by (g := 15) (same_ct _ _ (by assumption) (by assumption)) ?_; rintro q outs ⟨x, hx, rfl, rfl⟩)
    | (refine Met.by (g := 19) (apply_ct _ _ (by assumption) (by omega)) ?_; rintro q outs ⟨rfl, rfl⟩)
    | (refine Vc.mk ?_ (Step.out ?_))
  refine CodeOK.loopW hΓ hm [] [] (by kernel_rfl) (α := Nat) (fun n => [(0, .int .u8 v), (3, rws (lim n)), (4, i64 ((n : Int) + 1))]) (fun n => []) 0 (fun n => n ≤ 64) (fun n => 64 - n) ?_ ?_
  · refine Again.by 0 (Nat.zero_le _) ?_
    repeat' first
      | (refine Step.mk ?_; conv => whnf)
      | (refine Vc.om ?_ ?_; first | omega | with_reducible rfl | with_reducible exact same_rfl | (simp only [bytes_2, bytes_3, bytes_4, bytes_5, bytes_9, bytes_12, bytes_21, bytes_22, bytes_25, bytes_27, bytes_29, bytes_32, bytes_33, bytes_34, bytes_38, bytes_40, bytes_44, bytes_45, bytes_52, bytes_53, bytes_54, bytes_58, bytes_59, bytes_60, bytes_93, bytes_97, bytes_100, true_and, and_true] <;> omega))
      | (refine NilB.mk fun b hb => Step.out ?_)
      | with_reducible trivial
      | exact noSh_bool _
      | exact noSh_lit _
      | exact noSh_int _ _
      | exact noSh_str _
      | with_reducible rfl
      | with_reducible exact same_rfl
      | (refine Wr.i64 ?_ ?_; omega)
      | (refine Wr.u8 ?_ ?_; omega)
      | (refine Wr.i32 ?_ ?_; omega)
      | (with_reducible refine Br.tt ?_)
      | (with_reducible refine Br.ff ?_)
      | (refine Br.dT ?_ ?_; omega)
      | (refine Br.dF ?_ ?_; omega)
      | (refine Br.d (fun h => ?_) (fun h => ?_))
      | (refine Br.swap ?_)
      | (refine Br.bnot ?_)
      | (refine Br.mk (fun h => Step.out ?_) (fun h => Step.out ?_))
      | (refine Two.mk (Step.out ?_) (Step.out ?_))
      | (refine Cp.mk fun q hq => Step.out ?_)
      | (refine Ovl.mk (by assumption) (Step.out ?_))
      | (refine CallOK.ctF (g := 12) (Step.out ?_))
      | (refine CallOK.ctF (g := 15) (Step.out ?_))
      | (refine CallOK.ctF (g := 19) (Step.out ?_))
      | (refine CallOK.of_ct (Step.out ?_))
      | (refine CallQ.of_ct (Step.out ?_))
      | (refine Met.by (g := 12) (all_ct _ _ (by assumption) (by assumption)) ?_; rintro q outs ⟨rfl, rfl⟩)
      | (refine Met.by (g := 15) (same_ct _ _ (by assumption) (by assumption)) ?_; rintro q outs ⟨x, hx, rfl, rfl⟩)
      | (refine Met.by (g := 19) (apply_ct _ _ (by assumption) (by omega)) ?_; rintro q outs ⟨rfl, rfl⟩)
      | (refine Vc.mk ?_ (Step.out ?_))
  · intro n hn
    have s1 := fun h : n < 64 => lim_step h
    have s2 := lim_ok n hn
    repeat' first
      | (refine Step.mk ?_; conv => whnf)
      | (refine Vc.om ?_ ?_; first | omega | with_reducible rfl | with_reducible exact same_rfl | (simp only [bytes_2, bytes_3, bytes_4, bytes_5, bytes_9, bytes_12, bytes_21, bytes_22, bytes_25, bytes_27, bytes_29, bytes_32, bytes_33, bytes_34, bytes_38, bytes_40, bytes_44, bytes_45, bytes_52, bytes_53, bytes_54, bytes_58, bytes_59, bytes_60, bytes_93, bytes_97, bytes_100, true_and, and_true] <;> omega))
      | (refine NilB.mk fun b hb => Step.out ?_)
      | with_reducible trivial
      | exact noSh_bool _
      | exact noSh_lit _
      | exact noSh_int _ _
      | exact noSh_str _
      | with_reducible rfl
      | with_reducible exact same_rfl
      | (refine Wr.i64 ?_ ?_; omega)
      | (refine Wr.u8 ?_ ?_; omega)
      | (refine Wr.i32 ?_ ?_; omega)
      | (with_reducible refine Br.tt ?_)
      | (with_reducible refine Br.ff ?_)
      | (refine Br.dT ?_ ?_; omega)
      | (refine Br.dF ?_ ?_; omega)
      | (refine Br.d (fun h => ?_) (fun h => ?_))
      | (refine Br.swap ?_)
      | (refine Br.bnot ?_)
      | (refine Br.mk (fun h => Step.out ?_) (fun h => Step.out ?_))
      | (refine Two.mk (Step.out ?_) (Step.out ?_))
      | (refine Cp.mk fun q hq => Step.out ?_)
      | (refine Ovl.mk (by assumption) (Step.out ?_))
      | (refine CallOK.ctF (g := 12) (Step.out ?_))
      | (refine CallOK.ctF (g := 15) (Step.out ?_))
      | (refine CallOK.ctF (g := 19) (Step.out ?_))
      | (refine CallOK.of_ct (Step.out ?_))
      | (refine CallQ.of_ct (Step.out ?_))
      | (refine Met.by (g := 12) (all_ct _ _ (by assumption) (by assumption)) ?_; rintro q outs ⟨rfl, rfl⟩)
      | (refine Met.by (g := 15) (same_ct _ _ (by assumption) (by assumption)) ?_; rintro q outs ⟨x, hx, rfl, rfl⟩)
      | (refine Met.by (g := 19) (apply_ct _ _ (by assumption) (by omega)) ?_; rintro q outs ⟨rfl, rfl⟩)
      | (refine Vc.mk ?_ (Step.out ?_))
    · have s3 := applyL (s1 (by omega)) s2 (by decide) (rws_rws _) (lit_one _)
      generalize lim n = A at *
      generalize hB : lim (n + 1) = B at *
      refine Met.by s3 ?_
      rintro q outs ⟨rfl, rfl⟩
      repeat' first
        | (refine Step.mk ?_; conv => whnf)
        | (refine Vc.om ?_ ?_; first | omega | with_reducible rfl | with_reducible exact same_rfl | (simp only [bytes_2, bytes_3, bytes_4, bytes_5, bytes_9, bytes_12, bytes_21, bytes_22, bytes_25, bytes_27, bytes_29, bytes_32, bytes_33, bytes_34, bytes_38, bytes_40, bytes_44, bytes_45, bytes_52, bytes_53, bytes_54, bytes_58, bytes_59, bytes_60, bytes_93, bytes_97, bytes_100, true_and, and_true] <;> omega))
        | (refine NilB.mk fun b hb => Step.out ?_)
        | with_reducible trivial
        | exact noSh_bool _
        | exact noSh_lit _
        | exact noSh_int _ _
        | exact noSh_str _
        | with_reducible rfl
        | with_reducible exact same_rfl
        | (refine Wr.i64 ?_ ?_; omega)
        | (refine Wr.u8 ?_ ?_; omega)
        | (refine Wr.i32 ?_ ?_; omega)
        | (with_reducible refine Br.tt ?_)
        | (with_reducible refine Br.ff ?_)
        | (refine Br.dT ?_ ?_; omega)
        | (refine Br.dF ?_ ?_; omega)
        | (refine Br.d (fun h => ?_) (fun h => ?_))
        | (refine Br.swap ?_)
        | (refine Br.bnot ?_)
        | (refine Br.mk (fun h => Step.out ?_) (fun h => Step.out ?_))
        | (refine Two.mk (Step.out ?_) (Step.out ?_))
        | (refine Cp.mk fun q hq => Step.out ?_)
        | (refine Ovl.mk (by assumption) (Step.out ?_))
        | (refine CallOK.ctF (g := 12) (Step.out ?_))
        | (refine CallOK.ctF (g := 15) (Step.out ?_))
        | (refine CallOK.ctF (g := 19) (Step.out ?_))
        | (refine CallOK.of_ct (Step.out ?_))
        | (refine CallQ.of_ct (Step.out ?_))
        | (refine Met.by (g := 12) (all_ct _ _ (by assumption) (by assumption)) ?_; rintro q outs ⟨rfl, rfl⟩)
        | (refine Met.by (g := 15) (same_ct _ _ (by assumption) (by assumption)) ?_; rintro q outs ⟨x, hx, rfl, rfl⟩)
        | (refine Met.by (g := 19) (apply_ct _ _ (by assumption) (by omega)) ?_; rintro q outs ⟨rfl, rfl⟩)
        | (refine Vc.mk ?_ (Step.out ?_))
      refine Again.by (n + 1) ⟨by omega, by omega⟩ ?_
      rw [hB]
      repeat' first
        | (refine Step.mk ?_; conv => whnf)
        | (refine Vc.om ?_ ?_; first | omega | with_reducible rfl | with_reducible exact same_rfl | (simp only [bytes_2, bytes_3, bytes_4, bytes_5, bytes_9, bytes_12, bytes_21, bytes_22, bytes_25, bytes_27, bytes_29, bytes_32, bytes_33, bytes_34, bytes_38, bytes_40, bytes_44, bytes_45, bytes_52, bytes_53, bytes_54, bytes_58, bytes_59, bytes_60, bytes_93, bytes_97, bytes_100, true_and, and_true] <;> omega))
        | (refine NilB.mk fun b hb => Step.out ?_)
        | with_reducible trivial
        | exact noSh_bool _
        | exact noSh_lit _
        | exact noSh_int _ _
        | exact noSh_str _
        | with_reducible rfl
        | with_reducible exact same_rfl
        | (refine Wr.i64 ?_ ?_; omega)
        | (refine Wr.u8 ?_ ?_; omega)
        | (refine Wr.i32 ?_ ?_; omega)
        | (with_reducible refine Br.tt ?_)
        | (with_reducible refine Br.ff ?_)
        | (refine Br.dT ?_ ?_; omega)
        | (refine Br.dF ?_ ?_; omega)
        | (refine Br.d (fun h => ?_) (fun h => ?_))
        | (refine Br.swap ?_)
        | (refine Br.bnot ?_)
        | (refine Br.mk (fun h => Step.out ?_) (fun h => Step.out ?_))
        | (refine Two.mk (Step.out ?_) (Step.out ?_))
        | (refine Cp.mk fun q hq => Step.out ?_)
        | (refine Ovl.mk (by assumption) (Step.out ?_))
        | (refine CallOK.ctF (g := 12) (Step.out ?_))
        | (refine CallOK.ctF (g := 15) (Step.out ?_))
        | (refine CallOK.ctF (g := 19) (Step.out ?_))
        | (refine CallOK.of_ct (Step.out ?_))
        | (refine CallQ.of_ct (Step.out ?_))
        | (refine Met.by (g := 12) (all_ct _ _ (by assumption) (by assumption)) ?_; rintro q outs ⟨rfl, rfl⟩)
        | (refine Met.by (g := 15) (same_ct _ _ (by assumption) (by assumption)) ?_; rintro q outs ⟨x, hx, rfl, rfl⟩)
        | (refine Met.by (g := 19) (apply_ct _ _ (by assumption) (by omega)) ?_; rintro q outs ⟨rfl, rfl⟩)
        | (refine Vc.mk ?_ (Step.out ?_))
    · obtain rfl : n = 64 := by omega
      clear s1
      generalize lim 64 = A at *
      generalize limB (v.tmod 60) = B at *
      repeat' first
        | (refine Step.mk ?_; conv => whnf)
        | (refine Vc.om ?_ ?_; first | omega | with_reducible rfl | with_reducible exact same_rfl | (simp only [bytes_2, bytes_3, bytes_4, bytes_5, bytes_9, bytes_12, bytes_21, bytes_22, bytes_25, bytes_27, bytes_29, bytes_32, bytes_33, bytes_34, bytes_38, bytes_40, bytes_44, bytes_45, bytes_52, bytes_53, bytes_54, bytes_58, bytes_59, bytes_60, bytes_93, bytes_97, bytes_100, true_and, and_true] <;> omega))
        | (refine NilB.mk fun b hb => Step.out ?_)
        | with_reducible trivial
        | exact noSh_bool _
        | exact noSh_lit _
        | exact noSh_int _ _
        | exact noSh_str _
        | with_reducible rfl
        | with_reducible exact same_rfl
        | (refine Wr.i64 ?_ ?_; omega)
        | (refine Wr.u8 ?_ ?_; omega)
        | (refine Wr.i32 ?_ ?_; omega)
        | (with_reducible refine Br.tt ?_)
        | (with_reducible refine Br.ff ?_)
        | (refine Br.dT ?_ ?_; omega)
        | (refine Br.dF ?_ ?_; omega)
        | (refine Met.by (applyL k1 s2 (by decide) (rws_rws _) (lit_one _)) ?_; rintro q outs ⟨rfl, rfl⟩)
        | (refine Met.by (applyL k2 s2 (by decide) (rws_rws _) (lit_one _)) ?_; rintro q outs ⟨rfl, rfl⟩)
        | (refine Met.by (allL k3 s2 (ev_ok _ rfl rfl) rfl (im_rws _) (im_evs2 _ _ _ _ _ _ _ _ _ _ _ _)) ?_; rintro q outs ⟨rfl, rfl⟩)
        | (refine Br.d (fun h => ?_) (fun h => ?_))
        | (refine Br.swap ?_)
        | (refine Br.bnot ?_)
        | (refine Br.mk (fun h => Step.out ?_) (fun h => Step.out ?_))
        | (refine Two.mk (Step.out ?_) (Step.out ?_))
        | (refine Cp.mk fun q hq => Step.out ?_)
        | (refine Ovl.mk (by assumption) (Step.out ?_))
        | (refine CallOK.ctF (g := 12) (Step.out ?_))
        | (refine CallOK.ctF (g := 15) (Step.out ?_))
        | (refine CallOK.ctF (g := 19) (Step.out ?_))
        | (refine CallOK.of_ct (Step.out ?_))
        | (refine CallQ.of_ct (Step.out ?_))
        | (refine Met.by (g := 12) (all_ct _ _ (by assumption) (by assumption)) ?_; rintro q outs ⟨rfl, rfl⟩)
        | (refine Met.by (g := 15) (same_ct _ _ (by assumption) (by assumption)) ?_; rintro q outs ⟨x, hx, rfl, rfl⟩)
        | (refine Met.by (g := 19) (apply_ct _ _ (by assumption) (by omega)) ?_; rintro q outs ⟨rfl, rfl⟩)
        | (refine Vc.mk ?_ (Step.out ?_))
      exact hx rfl
end Kx
