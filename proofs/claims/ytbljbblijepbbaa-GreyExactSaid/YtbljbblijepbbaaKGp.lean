/-
  Lists of sheets dealt; the law Stands.
  No condition beyond those written in each theorem.
-/
import Derived.Test.YtbljbblijepbbaaKGn
open Go Sx Go.Proofs
set_option linter.unusedSimpArgs false
set_option linter.unusedVariables false
namespace Kx
theorem ite_sns1 (c : Prop) [Decidable c] (a b : List Sn) : iteL c [sns a] [sns b] = [sns (if c then a else b)] := by
  show [D.ite c (sns a) (sns b)] = _
  have : D.ite c (sns a) (sns b) = sns (if c then a else b) := by
    show D.tab 5 (if c then _ else _) (fun q => iteL1 c (Sn.f (a.getD q Sn.z)) (Sn.f (b.getD q Sn.z))) = _
    have : (fun q => iteL1 c (Sn.f (a.getD q Sn.z)) (Sn.f (b.getD q Sn.z))) = fun q => Sn.f ((if c then a else b).getD q Sn.z) := by
      funext q
      show [i64 (if c then _ else _), i64 (if c then _ else _), if c then bts _ else bts _, if c then w64s _ else w64s _, if c then bls _ else bls _] = _
      split <;> rfl
    rw [this]
    split <;> rfl
  rw [this]
structure ShsV (L : List (List Sn)) (n : Int) : Prop where
  n : (L.length : Int) = n
  l : ∀ l ∈ L, ShV l
theorem ShsV.ok {L : List (List Sn)} {n : Int} (h : ShsV L n) (hn : n ≤ 100) : ShOK L := ⟨by have := h.n; omega, fun l hl => by have := (h.l l hl).n; omega⟩
theorem sheets_ct (d : Dk) (fl ky n m : Int) (hfl : 0 ≤ fl ∧ fl ≤ 10) (hky : 0 ≤ ky ∧ ky ≤ 10) (hn : 0 ≤ n ∧ n ≤ 10) (hmo : 0 ≤ m ∧ m ≤ 100) : Ct Try.prog 19 [d.b, i64 fl, i64 ky, i64 n, i64 m] fun r outs => ∃ (L : List (List Sn)) (d' : Dk), ShsV L n ∧ r = shs L ∧ outs = [Dk.b d'] := by
  refine .some2 (.of_W (fn := Try.f19) hΓ hm Try.func19 [] [] (by kernel_rfl) (Step.out ?_))
  repeat' first
    | (refine Step.mk ?_; conv => whnf)
    | (refine Vc.om ?_ ?_; first | omega | with_reducible rfl | with_reducible exact same_rfl | (simp only [bytes_2, bytes_3, bytes_4, bytes_5, bytes_9, bytes_12, bytes_21, bytes_22, bytes_25, bytes_27, bytes_28, bytes_30, bytes_32, bytes_33, bytes_36, bytes_37, bytes_38, bytes_39, bytes_41, bytes_42, bytes_43, bytes_44, bytes_45, bytes_46, bytes_52, bytes_56, bytes_58, bytes_60, bytes_67, bytes_68, bytes_69, bytes_70, bytes_71, bytes_72, bytes_73, bytes_74, bytes_75, bytes_76, bytes_77, bytes_81, bytes_84, bytes_85, bytes_87, bytes_95, bytes_96, bytes_111, bytes_115, true_and, and_true] <;> omega))
    | (refine NilB.mk fun b hb => Step.out ?_)
    | with_reducible trivial
    | exact noSh_bool _
    | exact noSh_lit _
    | exact noSh_int _ _
    | exact noSh_str _
    | with_reducible rfl
    | with_reducible exact same_rfl
    | (refine Wr.i64 ?_ ?_; omega)
    | (refine Wr.u8 ?_ ?_; omega)
    | (refine Wr.i32 ?_ ?_; omega)
    | (with_reducible refine Br.tt ?_)
    | (with_reducible refine Br.ff ?_)
    | (refine Br.dT ?_ ?_; omega)
    | (refine Br.dF ?_ ?_; omega)
    | (refine Br.d (fun h => ?_) (fun h => ?_))
    | (refine Br.swap ?_)
    | (refine Br.bnot ?_)
    | (refine Br.mk (fun h => Step.out ?_) (fun h => Step.out ?_))
    | (refine Two.mk (Step.out ?_) (Step.out ?_))
    | (refine Cp.mk fun q hq => Step.out ?_)
    | (refine Ovl.mk (by assumption) (Step.out ?_))
    | (refine CallOK.io1 (g := 44) (Step.out ?_))
    | (refine CallOK.of_ct (Step.out ?_))
    | (refine CallQ.of_ct (Step.out ?_))
    | (refine Met.by (g := 44) (sheet_ct _ _ _ _ (by omega) (by omega) (by omega)) ?_; rintro q outs ⟨l, d, hl, rfl, rfl⟩)
    | (refine Vc.mk ?_ (Step.out ?_))
  refine CodeOK.loopW hΓ hm [] [] (by kernel_rfl) (α := Dk × List (List Sn) × Int) (fun z => [(0, .loc 0 0), (1, i64 fl), (2, i64 ky), (3, i64 n), (4, i64 m), (11, .own 1), (12, i64 z.2.2)]) (fun z => [(0, .var z.1.ls), (1, .arr 68 1 z.2.1.length fun j => [sns (z.2.1.getD j [])])]) 2 (fun z => 0 ≤ z.2.2 ∧ z.2.2 ≤ n ∧ ShsV z.2.1 z.2.2) (fun z => (n - z.2.2).toNat) ?_ ?_
  · refine Again.by (d, [], 0) ⟨Int.le_refl _, hn.1, ⟨rfl, by simp⟩⟩ ?_
    repeat' first
      | (refine Step.mk ?_; conv => whnf)
      | (refine Vc.om ?_ ?_; first | omega | with_reducible rfl | with_reducible exact same_rfl | (simp only [bytes_2, bytes_3, bytes_4, bytes_5, bytes_9, bytes_12, bytes_21, bytes_22, bytes_25, bytes_27, bytes_28, bytes_30, bytes_32, bytes_33, bytes_36, bytes_37, bytes_38, bytes_39, bytes_41, bytes_42, bytes_43, bytes_44, bytes_45, bytes_46, bytes_52, bytes_56, bytes_58, bytes_60, bytes_67, bytes_68, bytes_69, bytes_70, bytes_71, bytes_72, bytes_73, bytes_74, bytes_75, bytes_76, bytes_77, bytes_81, bytes_84, bytes_85, bytes_87, bytes_95, bytes_96, bytes_111, bytes_115, true_and, and_true] <;> omega))
      | (refine NilB.mk fun b hb => Step.out ?_)
      | with_reducible trivial
      | exact noSh_bool _
      | exact noSh_lit _
      | exact noSh_int _ _
      | exact noSh_str _
      | with_reducible rfl
      | with_reducible exact same_rfl
      | (refine Wr.i64 ?_ ?_; omega)
      | (refine Wr.u8 ?_ ?_; omega)
      | (refine Wr.i32 ?_ ?_; omega)
      | (with_reducible refine Br.tt ?_)
      | (with_reducible refine Br.ff ?_)
      | (refine Br.dT ?_ ?_; omega)
      | (refine Br.dF ?_ ?_; omega)
      | (refine Br.d (fun h => ?_) (fun h => ?_))
      | (refine Br.swap ?_)
      | (refine Br.bnot ?_)
      | (refine Br.mk (fun h => Step.out ?_) (fun h => Step.out ?_))
      | (refine Two.mk (Step.out ?_) (Step.out ?_))
      | (refine Cp.mk fun q hq => Step.out ?_)
      | (refine Ovl.mk (by assumption) (Step.out ?_))
      | (refine CallOK.io1 (g := 44) (Step.out ?_))
      | (refine CallOK.of_ct (Step.out ?_))
      | (refine CallQ.of_ct (Step.out ?_))
      | (refine Met.by (g := 44) (sheet_ct _ _ _ _ (by omega) (by omega) (by omega)) ?_; rintro q outs ⟨l, d, hl, rfl, rfl⟩)
      | (refine Vc.mk ?_ (Step.out ?_))
    all_goals rfl
  · intro ⟨d, L, i⟩ ⟨h1, h2, h3⟩
    dsimp only at h1 h2 h3 ⊢
    have hL := h3.n
    repeat' first
      | (refine Step.mk ?_; conv => whnf)
      | (refine Vc.om ?_ ?_; first | omega | with_reducible rfl | with_reducible exact same_rfl | (simp only [bytes_2, bytes_3, bytes_4, bytes_5, bytes_9, bytes_12, bytes_21, bytes_22, bytes_25, bytes_27, bytes_28, bytes_30, bytes_32, bytes_33, bytes_36, bytes_37, bytes_38, bytes_39, bytes_41, bytes_42, bytes_43, bytes_44, bytes_45, bytes_46, bytes_52, bytes_56, bytes_58, bytes_60, bytes_67, bytes_68, bytes_69, bytes_70, bytes_71, bytes_72, bytes_73, bytes_74, bytes_75, bytes_76, bytes_77, bytes_81, bytes_84, bytes_85, bytes_87, bytes_95, bytes_96, bytes_111, bytes_115, true_and, and_true] <;> omega))
      | (refine NilB.mk fun b hb => Step.out ?_)
      | with_reducible trivial
      | exact noSh_bool _
      | exact noSh_lit _
      | exact noSh_int _ _
      | exact noSh_str _
      | with_reducible rfl
      | with_reducible exact same_rfl
      | (refine Wr.i64 ?_ ?_; omega)
      | (refine Wr.u8 ?_ ?_; omega)
      | (refine Wr.i32 ?_ ?_; omega)
      | (with_reducible refine Br.tt ?_)
      | (with_reducible refine Br.ff ?_)
      | (refine Br.dT ?_ ?_; omega)
      | (refine Br.dF ?_ ?_; omega)
      | (refine Br.d (fun h => ?_) (fun h => ?_))
      | (refine Br.swap ?_)
      | (refine Br.bnot ?_)
      | (refine Br.mk (fun h => Step.out ?_) (fun h => Step.out ?_))
      | (refine Two.mk (Step.out ?_) (Step.out ?_))
      | (refine Cp.mk fun q hq => Step.out ?_)
      | (refine Ovl.mk (by assumption) (Step.out ?_))
      | (refine CallOK.io1 (g := 44) (Step.out ?_))
      | (refine CallOK.of_ct (Step.out ?_))
      | (refine CallQ.of_ct (Step.out ?_))
      | (refine Met.by (g := 44) (sheet_ct _ _ _ _ (by omega) (by omega) (by omega)) ?_; rintro q outs ⟨l, d, hl, rfl, rfl⟩)
      | (refine Vc.mk ?_ (Step.out ?_))
    · refine Again.by (d, L ++ [l], i + 1) ?_ ?_
      · dsimp only
        refine ⟨⟨by omega, by omega, ⟨by simp; omega, fun x hx => ?_⟩⟩, by omega⟩
        rcases List.mem_append.1 hx with hx | hx
        · exact h3.l x hx
        · rw [List.mem_singleton.1 hx]; exact hl
      · repeat' first
          | (refine Step.mk ?_; conv => whnf)
          | (refine Vc.om ?_ ?_; first | omega | with_reducible rfl | with_reducible exact same_rfl | (simp only [bytes_2, bytes_3, bytes_4, bytes_5, bytes_9, bytes_12, bytes_21, bytes_22, bytes_25, bytes_27, bytes_28, bytes_30, bytes_32, bytes_33, bytes_36, bytes_37, bytes_38, bytes_39, bytes_41, bytes_42, bytes_43, bytes_44, bytes_45, bytes_46, bytes_52, bytes_56, bytes_58, bytes_60, bytes_67, bytes_68, bytes_69, bytes_70, bytes_71, bytes_72, bytes_73, bytes_74, bytes_75, bytes_76, bytes_77, bytes_81, bytes_84, bytes_85, bytes_87, bytes_95, bytes_96, bytes_111, bytes_115, true_and, and_true] <;> omega))
          | (refine NilB.mk fun b hb => Step.out ?_)
          | with_reducible trivial
          | exact noSh_bool _
          | exact noSh_lit _
          | exact noSh_int _ _
          | exact noSh_str _
          | with_reducible rfl
          | with_reducible exact same_rfl
          | (refine Wr.i64 ?_ ?_; omega)
          | (refine Wr.u8 ?_ ?_; omega)
          | (refine Wr.i32 ?_ ?_; omega)
          | (with_reducible refine Br.tt ?_)
          | (with_reducible refine Br.ff ?_)
          | (refine Br.dT ?_ ?_; omega)
          | (refine Br.dF ?_ ?_; omega)
          | (refine Br.d (fun h => ?_) (fun h => ?_))
          | (refine Br.swap ?_)
          | (refine Br.bnot ?_)
          | (refine Br.mk (fun h => Step.out ?_) (fun h => Step.out ?_))
          | (refine Two.mk (Step.out ?_) (Step.out ?_))
          | (refine Cp.mk fun q hq => Step.out ?_)
          | (refine Ovl.mk (by assumption) (Step.out ?_))
          | (refine CallOK.io1 (g := 44) (Step.out ?_))
          | (refine CallOK.of_ct (Step.out ?_))
          | (refine CallQ.of_ct (Step.out ?_))
          | (refine Met.by (g := 44) (sheet_ct _ _ _ _ (by omega) (by omega) (by omega)) ?_; rintro q outs ⟨l, d, hl, rfl, rfl⟩)
          | (refine Vc.mk ?_ (Step.out ?_))
        all_goals exact app1 (fun x : List Sn => [sns x]) [] ite_sns1 L l
    · obtain rfl : i = n := by omega
      refine Lf2.by L d h3 ?_
      repeat' first
        | (refine Step.mk ?_; conv => whnf)
        | (refine Vc.om ?_ ?_; first | omega | with_reducible rfl | with_reducible exact same_rfl | (simp only [bytes_2, bytes_3, bytes_4, bytes_5, bytes_9, bytes_12, bytes_21, bytes_22, bytes_25, bytes_27, bytes_28, bytes_30, bytes_32, bytes_33, bytes_36, bytes_37, bytes_38, bytes_39, bytes_41, bytes_42, bytes_43, bytes_44, bytes_45, bytes_46, bytes_52, bytes_56, bytes_58, bytes_60, bytes_67, bytes_68, bytes_69, bytes_70, bytes_71, bytes_72, bytes_73, bytes_74, bytes_75, bytes_76, bytes_77, bytes_81, bytes_84, bytes_85, bytes_87, bytes_95, bytes_96, bytes_111, bytes_115, true_and, and_true] <;> omega))
        | (refine NilB.mk fun b hb => Step.out ?_)
        | with_reducible trivial
        | exact noSh_bool _
        | exact noSh_lit _
        | exact noSh_int _ _
        | exact noSh_str _
        | with_reducible rfl
        | with_reducible exact same_rfl
        | (refine Wr.i64 ?_ ?_; omega)
        | (refine Wr.u8 ?_ ?_; omega)
        | (refine Wr.i32 ?_ ?_; omega)
        | (with_reducible refine Br.tt ?_)
        | (with_reducible refine Br.ff ?_)
        | (refine Br.dT ?_ ?_; omega)
        | (refine Br.dF ?_ ?_; omega)
        | (refine Br.d (fun h => ?_) (fun h => ?_))
        | (refine Br.swap ?_)
        | (refine Br.bnot ?_)
        | (refine Br.mk (fun h => Step.out ?_) (fun h => Step.out ?_))
        | (refine Two.mk (Step.out ?_) (Step.out ?_))
        | (refine Cp.mk fun q hq => Step.out ?_)
        | (refine Ovl.mk (by assumption) (Step.out ?_))
        | (refine CallOK.io1 (g := 44) (Step.out ?_))
        | (refine CallOK.of_ct (Step.out ?_))
        | (refine CallQ.of_ct (Step.out ?_))
        | (refine Met.by (g := 44) (sheet_ct _ _ _ _ (by omega) (by omega) (by omega)) ?_; rintro q outs ⟨l, d, hl, rfl, rfl⟩)
        | (refine Vc.mk ?_ (Step.out ?_))
      all_goals exact ⟨rfl, fun _ _ => rfl⟩
/-- A record of an ID and a version stands in a sheet. -/
def isHere (l : List Sn) (n v : Int) : Bool := l.any fun s => decide (s.id = n) && decide (s.v = v)
theorem isHere_step (l : List Sn) (n v : Int) (i : Nat) (h : i < l.length) : isHere (l.take (i + 1)) n v = (isHere (l.take i) n v || (decide ((l.getD i Sn.z).id = n) && decide ((l.getD i Sn.z).v = v))) := by
  rw [isHere, take_step l Sn.z i h, List.any_append]; simp [isHere]
theorem here_find : ∀ (l : List Sn) (n v k : Int), 0 ≤ k → (l.Pairwise fun a b => a.id < b.id) → isHere l n v = (decide (0 ≤ findI l n k) && decide ((l.getD (findI l n k - k).toNat Sn.z).v = v))
  | [], n, v, k, _, _ => by simp [isHere, findI]
  | s :: l, n, v, k, hk, hp => by
    obtain ⟨h1, h2⟩ := List.pairwise_cons.1 hp
    rw [isHere, List.any_cons, findI]
    by_cases hs : s.id = n
    · have h0 : isHere l n v = false := by
        rw [isHere, List.any_eq_false]
        intro x hx hb
        simp only [Bool.and_eq_true, decide_eq_true_eq] at hb
        have := h1 x hx
        omega
      rw [isHere] at h0
      rw [h0, if_pos hs, decide_eq_true hs, decide_eq_true hk, Int.sub_self]
      simp
    · have ih := here_find l n v (k + 1) (by omega) h2
      rw [isHere] at ih
      rw [ih, if_neg hs, decide_eq_false hs, Bool.false_and, Bool.false_or]
      rcases findI_in l n (k + 1) with h | h
      · rw [h]; rfl
      · have e : (findI l n (k + 1) - k).toNat = (findI l n (k + 1) - (k + 1)).toNat + 1 := by omega
        rw [e, List.getD_cons_succ]
theorem cur_here {L : List (List Sn)} {n : Int} (hL : ShsV L n) {r : Rf} (v : Int) (h0 : 0 ≤ r.g) (h1 : r.g < n) : curB L r v = isHere (L.getD r.g.toNat []) r.i v := by
  have hn := hL.n
  have hp := (hL.l _ (getD_in (z := []) (i := r.g.toNat) (by omega))).p
  rw [curB, if_neg (by omega), here_find _ _ _ 0 (Int.le_refl _) hp, Int.sub_zero]
end Kx
