/-
  Texts joined and folded: the program's functions.
  No condition beyond those written in each theorem.
-/
import Derived.Test.YthokblligmllfaaDoorKTk
import Derived.Test.YthokblligmllfaaDoorFD
open Go Sx Go.Proofs
set_option linter.unusedSimpArgs false
set_option linter.unusedVariables false
namespace Kx
theorem sjoin_ct (l : List Str) (sep : Str) (hl : l.length ≤ 1000000000) (hj : (joinS sep l).length ≤ 1000000000) : Ct Tryd.prog 46 [strs l, .str sep] fun r outs => r = .str (joinS sep l) ∧ outs = [] :=
  join_ct ⟨Tryd.f46, Tryd.func46, by decide, by decide⟩ l sep (by omega) (by omega) Kx.strings_Join_none Kx.strings_Join
theorem join1_ct (l : List Str) (hl : l.length ≤ 1000000000) (hj : (joinS [32] l).length ≤ 1000000000) : Ct Tryd.prog 44 [strs l] fun r outs => r = .str (joinS [32] l) ∧ outs = [] := by
  refine .det (.of_W (fn := Tryd.f44) hΓ hm Tryd.func44 [] [] (by kernel_rfl) (Step.out ?_))
  repeat' first
    | (refine Step.mk ?_; conv => whnf)
    | (refine Vc.om ?_ ?_; first | omega | with_reducible rfl | with_reducible exact same_rfl | (simp only [bytes_2, bytes_3, bytes_4, bytes_5, bytes_9, bytes_12, bytes_21, bytes_22, bytes_25, bytes_27, bytes_28, bytes_29, bytes_30, bytes_34, bytes_45, bytes_49, bytes_50, bytes_51, bytes_52, bytes_53, bytes_54, bytes_64, bytes_67, bytes_68, bytes_73, bytes_75, bytes_76, bytes_77, bytes_92, bytes_93, bytes_94, bytes_95, bytes_98, bytes_102, bytes_112, bytes_123, bytes_129]; omega))
    | (refine NilB.mk fun b hb => Step.out ?_)
    | with_reducible trivial
    | exact noSh_bool _
    | exact noSh_lit _
    | exact noSh_int _ _
    | exact noSh_str _
    | with_reducible rfl
    | with_reducible exact same_rfl
    | (refine Wr.i64 ?_ ?_; omega)
    | (refine Wr.u8 ?_ ?_; omega)
    | (refine Wr.i32 ?_ ?_; omega)
    | (with_reducible refine Br.tt ?_)
    | (with_reducible refine Br.ff ?_)
    | (refine Br.dT ?_ ?_; omega)
    | (refine Br.dF ?_ ?_; omega)
    | (refine Met.by (sjoin_ct l [32] hl hj) ?_; rintro q outs ⟨rfl, rfl⟩)
    | (refine Br.d (fun h => ?_) (fun h => ?_))
    | (refine Br.swap ?_)
    | (refine Br.bnot ?_)
    | (refine Br.mk (fun h => Step.out ?_) (fun h => Step.out ?_))
    | (refine Two.mk (Step.out ?_) (Step.out ?_))
    | (refine CallOK.of_ct (Step.out ?_))
    | (refine Vc.mk ?_ (Step.out ?_))
theorem digit_ct (x : UInt8) : Ct Tryd.prog 84 [u8 x.toNat] fun r outs => r = .bool (isDig x) ∧ outs = [] := by
  refine .det (.of_W (fn := Tryd.f84) hΓ hm Tryd.func84 [] [] (by kernel_rfl) (Step.out ?_))
  repeat' first
    | (refine Step.mk ?_; conv => whnf)
    | (refine Vc.om ?_ ?_; first | omega | with_reducible rfl | with_reducible exact same_rfl | (simp only [bytes_2, bytes_3, bytes_4, bytes_5, bytes_9, bytes_12, bytes_21, bytes_22, bytes_25, bytes_27, bytes_28, bytes_29, bytes_30, bytes_34, bytes_45, bytes_49, bytes_50, bytes_51, bytes_52, bytes_53, bytes_54, bytes_64, bytes_67, bytes_68, bytes_73, bytes_75, bytes_76, bytes_77, bytes_92, bytes_93, bytes_94, bytes_95, bytes_98, bytes_102, bytes_112, bytes_123, bytes_129]; omega))
    | (refine NilB.mk fun b hb => Step.out ?_)
    | with_reducible trivial
    | exact noSh_bool _
    | exact noSh_lit _
    | exact noSh_int _ _
    | exact noSh_str _
    | with_reducible rfl
    | with_reducible exact same_rfl
    | (refine Wr.i64 ?_ ?_; omega)
    | (refine Wr.u8 ?_ ?_; omega)
    | (refine Wr.i32 ?_ ?_; omega)
    | (with_reducible refine Br.tt ?_)
    | (with_reducible refine Br.ff ?_)
    | (refine Br.dT ?_ ?_; omega)
    | (refine Br.dF ?_ ?_; omega)
    | (refine Br.d (fun h => ?_) (fun h => ?_))
    | (refine Br.swap ?_)
    | (refine Br.bnot ?_)
    | (refine Br.mk (fun h => Step.out ?_) (fun h => Step.out ?_))
    | (refine Two.mk (Step.out ?_) (Step.out ?_))
    | (refine CallOK.of_ct (Step.out ?_))
    | (refine Vc.mk ?_ (Step.out ?_))
  all_goals first
    | trivial
    | exact hb h
    | with_reducible rfl
    | with_reducible exact same_rfl
    | omega
    | ((simp [isDig, *]; done))
theorem pair_ct (s : Str) (i : Nat) (hi : i < s.length) (hs : s.length ≤ 1000000000) : Ct Tryd.prog 62 [.str s, i64 i] fun r outs => r = .bool (pairAt s i) ∧ outs = [] := by
  refine .det (.of_W (fn := Tryd.f62) hΓ hm Tryd.func62 [] [] (by kernel_rfl) (Step.out ?_))
  repeat' first
    | (refine Step.mk ?_; conv => whnf)
    | (refine Vc.om ?_ ?_; first | omega | with_reducible rfl | with_reducible exact same_rfl | (simp only [bytes_2, bytes_3, bytes_4, bytes_5, bytes_9, bytes_12, bytes_21, bytes_22, bytes_25, bytes_27, bytes_28, bytes_29, bytes_30, bytes_34, bytes_45, bytes_49, bytes_50, bytes_51, bytes_52, bytes_53, bytes_54, bytes_64, bytes_67, bytes_68, bytes_73, bytes_75, bytes_76, bytes_77, bytes_92, bytes_93, bytes_94, bytes_95, bytes_98, bytes_102, bytes_112, bytes_123, bytes_129]; omega))
    | (refine NilB.mk fun b hb => Step.out ?_)
    | with_reducible trivial
    | exact noSh_bool _
    | exact noSh_lit _
    | exact noSh_int _ _
    | exact noSh_str _
    | with_reducible rfl
    | with_reducible exact same_rfl
    | (refine Wr.i64 ?_ ?_; omega)
    | (refine Wr.u8 ?_ ?_; omega)
    | (refine Wr.i32 ?_ ?_; omega)
    | (with_reducible refine Br.tt ?_)
    | (with_reducible refine Br.ff ?_)
    | (refine Br.dT ?_ ?_; omega)
    | (refine Br.dF ?_ ?_; omega)
    | (refine Br.d (fun h => ?_) (fun h => ?_))
    | (refine Br.swap ?_)
    | (refine Br.bnot ?_)
    | (refine Br.mk (fun h => Step.out ?_) (fun h => Step.out ?_))
    | (refine Two.mk (Step.out ?_) (Step.out ?_))
    | (refine CallOK.of_ct (Step.out ?_))
    | (refine Vc.mk ?_ (Step.out ?_))
  all_goals try simp only [Int.toNat_natCast, show ((i : Int) + 1).toNat = i + 1 by omega] at *
  all_goals first
    | trivial
    | exact hb h
    | with_reducible rfl
    | with_reducible exact same_rfl
    | omega
    | ((simp_all [-List.getD_eq_getElem?_getD, pairAt, isPair, isSnd]; done))
    | ((simp_all [-List.getD_eq_getElem?_getD, pairAt, isPair, isSnd]; omega))
theorem prn_F1 {x : UInt8} (h : (x.toNat : Int) < 32) : isPrn x = false := by simp only [isPrn, decide_eq_false (show ¬(32 : Int) ≤ x.toNat by omega), Bool.false_and]
theorem prn_F2 {x : UInt8} (h : (126 : Int) < x.toNat) : isPrn x = false := by simp only [isPrn, decide_eq_false (show ¬(x.toNat : Int) ≤ 126 by omega), Bool.and_false]
theorem prn_T {x : UInt8} (h1 : ¬(x.toNat : Int) < 32) (h2 : ¬(126 : Int) < x.toNat) : isPrn x = true := by simp only [isPrn, decide_eq_true (show (32 : Int) ≤ x.toNat by omega), decide_eq_true (show (x.toNat : Int) ≤ 126 by omega), Bool.and_self]
theorem pairAt_lt {s : Str} {i : Nat} (h : pairAt s i = true) : i + 1 < s.length := by
  simp only [pairAt, Bool.and_eq_true, decide_eq_true_eq] at h; exact h.1
theorem valid_ct (s : Str) (hs : s.length ≤ 1000000000) : Ct Tryd.prog 60 [.str s] fun r outs => r = .bool (validS s) ∧ outs = [] := by
  refine .det (.of_W (fn := Tryd.f60) hΓ hm Tryd.func60 [] [] (by kernel_rfl) (Step.out ?_))
  repeat' first
    | (refine Step.mk ?_; conv => whnf)
    | (refine Vc.om ?_ ?_; first | omega | with_reducible rfl | with_reducible exact same_rfl | (simp only [bytes_2, bytes_3, bytes_4, bytes_5, bytes_9, bytes_12, bytes_21, bytes_22, bytes_25, bytes_27, bytes_28, bytes_29, bytes_30, bytes_34, bytes_45, bytes_49, bytes_50, bytes_51, bytes_52, bytes_53, bytes_54, bytes_64, bytes_67, bytes_68, bytes_73, bytes_75, bytes_76, bytes_77, bytes_92, bytes_93, bytes_94, bytes_95, bytes_98, bytes_102, bytes_112, bytes_123, bytes_129]; omega))
    | (refine NilB.mk fun b hb => Step.out ?_)
    | with_reducible trivial
    | exact noSh_bool _
    | exact noSh_lit _
    | exact noSh_int _ _
    | exact noSh_str _
    | with_reducible rfl
    | with_reducible exact same_rfl
    | (refine Wr.i64 ?_ ?_; omega)
    | (refine Wr.u8 ?_ ?_; omega)
    | (refine Wr.i32 ?_ ?_; omega)
    | (with_reducible refine Br.tt ?_)
    | (with_reducible refine Br.ff ?_)
    | (refine Br.dT ?_ ?_; omega)
    | (refine Br.dF ?_ ?_; omega)
    | (refine Br.d (fun h => ?_) (fun h => ?_))
    | (refine Br.swap ?_)
    | (refine Br.bnot ?_)
    | (refine Br.mk (fun h => Step.out ?_) (fun h => Step.out ?_))
    | (refine Two.mk (Step.out ?_) (Step.out ?_))
    | (refine CallOK.of_ct (Step.out ?_))
    | (refine Met.by (g := 62) (pair_ct _ _ (by omega) (by omega)) ?_; rintro q outs ⟨rfl, rfl⟩)
    | (refine Vc.mk ?_ (Step.out ?_))
  refine CodeOK.loopW hΓ hm [] [] (by kernel_rfl) (α := Nat) (fun i => [(0, .str s), (3, i64 i)]) (fun i => []) 0 (fun i => i ≤ s.length ∧ validL s = validL (s.drop i)) (fun i => s.length - i) ?_ ?_
  · refine Again.by 0 ⟨Nat.zero_le _, rfl⟩ ?_
    repeat' first
      | (refine Step.mk ?_; conv => whnf)
      | (refine Vc.om ?_ ?_; first | omega | with_reducible rfl | with_reducible exact same_rfl | (simp only [bytes_2, bytes_3, bytes_4, bytes_5, bytes_9, bytes_12, bytes_21, bytes_22, bytes_25, bytes_27, bytes_28, bytes_29, bytes_30, bytes_34, bytes_45, bytes_49, bytes_50, bytes_51, bytes_52, bytes_53, bytes_54, bytes_64, bytes_67, bytes_68, bytes_73, bytes_75, bytes_76, bytes_77, bytes_92, bytes_93, bytes_94, bytes_95, bytes_98, bytes_102, bytes_112, bytes_123, bytes_129]; omega))
      | (refine NilB.mk fun b hb => Step.out ?_)
      | with_reducible trivial
      | exact noSh_bool _
      | exact noSh_lit _
      | exact noSh_int _ _
      | exact noSh_str _
      | with_reducible rfl
      | with_reducible exact same_rfl
      | (refine Wr.i64 ?_ ?_; omega)
      | (refine Wr.u8 ?_ ?_; omega)
      | (refine Wr.i32 ?_ ?_; omega)
      | (with_reducible refine Br.tt ?_)
      | (with_reducible refine Br.ff ?_)
      | (refine Br.dT ?_ ?_; omega)
      | (refine Br.dF ?_ ?_; omega)
      | (refine Br.d (fun h => ?_) (fun h => ?_))
      | (refine Br.swap ?_)
      | (refine Br.bnot ?_)
      | (refine Br.mk (fun h => Step.out ?_) (fun h => Step.out ?_))
      | (refine Two.mk (Step.out ?_) (Step.out ?_))
      | (refine CallOK.of_ct (Step.out ?_))
      | (refine Met.by (g := 62) (pair_ct _ _ (by omega) (by omega)) ?_; rintro q outs ⟨rfl, rfl⟩)
      | (refine Vc.mk ?_ (Step.out ?_))
  · intro i ⟨hi, hv⟩
    repeat' first
      | (refine Step.mk ?_; conv => whnf)
      | (refine Vc.om ?_ ?_; first | omega | with_reducible rfl | with_reducible exact same_rfl | (simp only [bytes_2, bytes_3, bytes_4, bytes_5, bytes_9, bytes_12, bytes_21, bytes_22, bytes_25, bytes_27, bytes_28, bytes_29, bytes_30, bytes_34, bytes_45, bytes_49, bytes_50, bytes_51, bytes_52, bytes_53, bytes_54, bytes_64, bytes_67, bytes_68, bytes_73, bytes_75, bytes_76, bytes_77, bytes_92, bytes_93, bytes_94, bytes_95, bytes_98, bytes_102, bytes_112, bytes_123, bytes_129]; omega))
      | (refine NilB.mk fun b hb => Step.out ?_)
      | with_reducible trivial
      | exact noSh_bool _
      | exact noSh_lit _
      | exact noSh_int _ _
      | exact noSh_str _
      | with_reducible rfl
      | with_reducible exact same_rfl
      | (refine Wr.i64 ?_ ?_; omega)
      | (refine Wr.u8 ?_ ?_; omega)
      | (refine Wr.i32 ?_ ?_; omega)
      | (with_reducible refine Br.tt ?_)
      | (with_reducible refine Br.ff ?_)
      | (refine Br.dT ?_ ?_; omega)
      | (refine Br.dF ?_ ?_; omega)
      | (refine Br.d (fun h => ?_) (fun h => ?_))
      | (refine Br.swap ?_)
      | (refine Br.bnot ?_)
      | (refine Br.mk (fun h => Step.out ?_) (fun h => Step.out ?_))
      | (refine Two.mk (Step.out ?_) (Step.out ?_))
      | (refine CallOK.of_ct (Step.out ?_))
      | (refine Met.by (g := 62) (pair_ct _ _ (by omega) (by omega)) ?_; rintro q outs ⟨rfl, rfl⟩)
      | (refine Vc.mk ?_ (Step.out ?_))
    all_goals try simp only [Int.toNat_natCast] at *
    · have := pairAt_lt ‹_›
      refine Again.by (i + 2) ⟨⟨by omega, by rw [hv, validL_pair ‹_›]⟩, by omega⟩ ?_
      repeat' first
        | (refine Step.mk ?_; conv => whnf)
        | (refine Vc.om ?_ ?_; first | omega | with_reducible rfl | with_reducible exact same_rfl | (simp only [bytes_2, bytes_3, bytes_4, bytes_5, bytes_9, bytes_12, bytes_21, bytes_22, bytes_25, bytes_27, bytes_28, bytes_29, bytes_30, bytes_34, bytes_45, bytes_49, bytes_50, bytes_51, bytes_52, bytes_53, bytes_54, bytes_64, bytes_67, bytes_68, bytes_73, bytes_75, bytes_76, bytes_77, bytes_92, bytes_93, bytes_94, bytes_95, bytes_98, bytes_102, bytes_112, bytes_123, bytes_129]; omega))
        | (refine NilB.mk fun b hb => Step.out ?_)
        | with_reducible trivial
        | exact noSh_bool _
        | exact noSh_lit _
        | exact noSh_int _ _
        | exact noSh_str _
        | with_reducible rfl
        | with_reducible exact same_rfl
        | (refine Wr.i64 ?_ ?_; omega)
        | (refine Wr.u8 ?_ ?_; omega)
        | (refine Wr.i32 ?_ ?_; omega)
        | (with_reducible refine Br.tt ?_)
        | (with_reducible refine Br.ff ?_)
        | (refine Br.dT ?_ ?_; omega)
        | (refine Br.dF ?_ ?_; omega)
        | (refine Br.d (fun h => ?_) (fun h => ?_))
        | (refine Br.swap ?_)
        | (refine Br.bnot ?_)
        | (refine Br.mk (fun h => Step.out ?_) (fun h => Step.out ?_))
        | (refine Two.mk (Step.out ?_) (Step.out ?_))
        | (refine CallOK.of_ct (Step.out ?_))
        | (refine Met.by (g := 62) (pair_ct _ _ (by omega) (by omega)) ?_; rintro q outs ⟨rfl, rfl⟩)
        | (refine Vc.mk ?_ (Step.out ?_))
    · rw [validS, hv, validL_one (by omega) ‹_›, prn_F1 ‹_›]; rfl
    · rw [validS, hv, validL_one (by omega) ‹_›, prn_F2 ‹_›]; rfl
    · refine Again.by (i + 1) ⟨⟨by omega, by rw [hv, validL_one (by omega) ‹_›, prn_T ‹_› ‹_›, Bool.true_and]⟩, by omega⟩ ?_
      repeat' first
        | (refine Step.mk ?_; conv => whnf)
        | (refine Vc.om ?_ ?_; first | omega | with_reducible rfl | with_reducible exact same_rfl | (simp only [bytes_2, bytes_3, bytes_4, bytes_5, bytes_9, bytes_12, bytes_21, bytes_22, bytes_25, bytes_27, bytes_28, bytes_29, bytes_30, bytes_34, bytes_45, bytes_49, bytes_50, bytes_51, bytes_52, bytes_53, bytes_54, bytes_64, bytes_67, bytes_68, bytes_73, bytes_75, bytes_76, bytes_77, bytes_92, bytes_93, bytes_94, bytes_95, bytes_98, bytes_102, bytes_112, bytes_123, bytes_129]; omega))
        | (refine NilB.mk fun b hb => Step.out ?_)
        | with_reducible trivial
        | exact noSh_bool _
        | exact noSh_lit _
        | exact noSh_int _ _
        | exact noSh_str _
        | with_reducible rfl
        | with_reducible exact same_rfl
        | (refine Wr.i64 ?_ ?_; omega)
        | (refine Wr.u8 ?_ ?_; omega)
        | (refine Wr.i32 ?_ ?_; omega)
        | (with_reducible refine Br.tt ?_)
        | (with_reducible refine Br.ff ?_)
        | (refine Br.dT ?_ ?_; omega)
        | (refine Br.dF ?_ ?_; omega)
        | (refine Br.d (fun h => ?_) (fun h => ?_))
        | (refine Br.swap ?_)
        | (refine Br.bnot ?_)
        | (refine Br.mk (fun h => Step.out ?_) (fun h => Step.out ?_))
        | (refine Two.mk (Step.out ?_) (Step.out ?_))
        | (refine CallOK.of_ct (Step.out ?_))
        | (refine Met.by (g := 62) (pair_ct _ _ (by omega) (by omega)) ?_; rintro q outs ⟨rfl, rfl⟩)
        | (refine Vc.mk ?_ (Step.out ?_))
    · rw [validS, hv, List.drop_of_length_le (by omega), validL, Bool.true_and, decide_eq_decide]; omega
def replD (i : Nat) : D := .str (replL.getD i [])
theorem nthA_str : ∀ (ps : List (Nat × D)) (l : List Str), ps.map (·.2) = l.map .str → ∀ i, i < l.length → nthA ps i = .str (l.getD i [])
  | [], [], _, _, h => by simp at h
  | (k, d) :: ps, x :: l, h, 0, _ => by simp at h; simp [nthA, h.1]
  | (k, d) :: ps, x :: l, h, i + 1, hi => by simp at h; simpa [nthA] using nthA_str ps l (by simpa using h.2) i (by simpa using hi)
  | [], _ :: _, h, _, _ => by simp at h
  | _ :: _, [], h, _, _ => by simp at h
set_option maxRecDepth 4000 in
theorem repls_ct : Ct Tryd.prog 61 [] fun r outs => r = .vec 64 replD ∧ outs = [] := by
  refine .det (.of_W (fn := Tryd.f61) hΓ hm Tryd.func61 [] [] (by kernel_rfl) (Step.out ?_))
  repeat' first
    | (exact fun i hi => nthA_str _ replL rfl i (by simpa [replL] using hi))
    | (intro i hi; rw [nthA_str _ replL rfl i (by simpa [replL] using hi)]; rfl)
    | (refine Step.mk ?_; conv => whnf)
    | (refine Vc.om ?_ ?_; first | omega | with_reducible rfl | with_reducible exact same_rfl | (simp only [bytes_2, bytes_3, bytes_4, bytes_5, bytes_9, bytes_12, bytes_21, bytes_22, bytes_25, bytes_27, bytes_28, bytes_29, bytes_30, bytes_34, bytes_45, bytes_49, bytes_50, bytes_51, bytes_52, bytes_53, bytes_54, bytes_64, bytes_67, bytes_68, bytes_73, bytes_75, bytes_76, bytes_77, bytes_92, bytes_93, bytes_94, bytes_95, bytes_98, bytes_102, bytes_112, bytes_123, bytes_129]; omega))
    | (refine NilB.mk fun b hb => Step.out ?_)
    | with_reducible trivial
    | exact noSh_bool _
    | exact noSh_lit _
    | exact noSh_int _ _
    | exact noSh_str _
    | with_reducible rfl
    | with_reducible exact same_rfl
    | (refine Wr.i64 ?_ ?_; omega)
    | (refine Wr.u8 ?_ ?_; omega)
    | (refine Wr.i32 ?_ ?_; omega)
    | (with_reducible refine Br.tt ?_)
    | (with_reducible refine Br.ff ?_)
    | (refine Br.dT ?_ ?_; omega)
    | (refine Br.dF ?_ ?_; omega)
    | (refine Br.d (fun h => ?_) (fun h => ?_))
    | (refine Br.swap ?_)
    | (refine Br.bnot ?_)
    | (refine Br.mk (fun h => Step.out ?_) (fun h => Step.out ?_))
    | (refine Two.mk (Step.out ?_) (Step.out ?_))
    | (refine CallOK.of_ct (Step.out ?_))
    | (refine Vc.mk ?_ (Step.out ?_))
theorem utf8_one (x : UInt8) (h : x.toNat < 128) : utf8 (x.toNat : Int) = [x] := by
  have := all_u8 (p := fun x => !decide (x.toNat < 128) || (utf8 (x.toNat : Int) == [x])) (by decide +kernel) x
  simpa [h] using this
theorem utf8_low (x : UInt8) (h1 : 65 ≤ (x.toNat : Int)) (h2 : (x.toNat : Int) ≤ 90) : utf8 ((x.toNat : Int) - 65 + 97) = plainS x := by
  have := all_u8 (p := fun x => !(decide (65 ≤ (x.toNat : Int)) && decide ((x.toNat : Int) ≤ 90)) || (utf8 ((x.toNat : Int) - 65 + 97) == plainS x)) (by decide +kernel) x
  simpa [h1, h2] using this
theorem pl_let (x : UInt8) (h : isLet x = true) : utf8 (x.toNat : Int) = plainS x := by
  have := all_u8 (p := fun x => !(isLet x) || (utf8 (x.toNat : Int) == plainS x)) (by decide +kernel) x
  simpa [h] using this
theorem pl_dig (x : UInt8) (h : isDig x = true) : utf8 (x.toNat : Int) = plainS x := by
  have := all_u8 (p := fun x => !(isDig x) || (utf8 (x.toNat : Int) == plainS x)) (by decide +kernel) x
  simpa [h] using this
theorem pl_ap (x : UInt8) (h : (x.toNat : Int) = 39) : ({ data := #[] } : ByteArray).data.toList = plainS x := by
  have := all_u8 (p := fun x => !(decide ((x.toNat : Int) = 39)) || (([] : Str) == plainS x)) (by decide +kernel) x
  simpa [h] using this
theorem pl_sp (x : UInt8) (h1 : ¬(65 ≤ (x.toNat : Int) ∧ (x.toNat : Int) ≤ 90)) (h2 : isLet x = false) (h3 : isDig x = false) (h4 : ¬(x.toNat : Int) = 39) : ({ data := #[32] } : ByteArray).data.toList = plainS x := by
  have := all_u8 (p := fun x => (decide (65 ≤ (x.toNat : Int)) && decide ((x.toNat : Int) ≤ 90)) || isLet x || isDig x || decide ((x.toNat : Int) = 39) || (([32] : Str) == plainS x)) (by decide +kernel) x
  have h5 : (decide (65 ≤ (x.toNat : Int)) && decide ((x.toNat : Int) ≤ 90)) = false := by simpa using fun a => by omega
  simp only [h5, h2, h3, decide_eq_false h4, Bool.false_or] at this
  simpa using this
theorem plain_ct (x : UInt8) : Ct Tryd.prog 64 [u8 x.toNat] fun r outs => r = .str (plainS x) ∧ outs = [] := by
  have hx : x.toNat < 256 := UInt8.toNat_lt x
  refine .det (.of_W (fn := Tryd.f64) hΓ hm Tryd.func64 [] [] (by kernel_rfl) (Step.out ?_))
  repeat' first
    | (refine Step.mk ?_; conv => whnf)
    | (refine Vc.om ?_ ?_; first | omega | with_reducible rfl | with_reducible exact same_rfl | (simp only [bytes_2, bytes_3, bytes_4, bytes_5, bytes_9, bytes_12, bytes_21, bytes_22, bytes_25, bytes_27, bytes_28, bytes_29, bytes_30, bytes_34, bytes_45, bytes_49, bytes_50, bytes_51, bytes_52, bytes_53, bytes_54, bytes_64, bytes_67, bytes_68, bytes_73, bytes_75, bytes_76, bytes_77, bytes_92, bytes_93, bytes_94, bytes_95, bytes_98, bytes_102, bytes_112, bytes_123, bytes_129]; omega))
    | (refine NilB.mk fun b hb => Step.out ?_)
    | with_reducible trivial
    | exact noSh_bool _
    | exact noSh_lit _
    | exact noSh_int _ _
    | exact noSh_str _
    | with_reducible rfl
    | with_reducible exact same_rfl
    | (refine Wr.i64 ?_ ?_; omega)
    | (refine Wr.u8 ?_ ?_; omega)
    | (refine Wr.i32 ?_ ?_; omega)
    | (with_reducible refine Br.tt ?_)
    | (with_reducible refine Br.ff ?_)
    | (refine Br.dT ?_ ?_; omega)
    | (refine Br.dF ?_ ?_; omega)
    | (refine Br.d (fun h => ?_) (fun h => ?_))
    | (refine Br.swap ?_)
    | (refine Br.bnot ?_)
    | (refine Br.mk (fun h => Step.out ?_) (fun h => Step.out ?_))
    | (refine Two.mk (Step.out ?_) (Step.out ?_))
    | (refine CallOK.of_ct (Step.out ?_))
    | (refine Met.by (g := 83) (letter_ct _) ?_; rintro q outs ⟨rfl, rfl⟩)
    | (refine Met.by (g := 84) (digit_ct _) ?_; rintro q outs ⟨rfl, rfl⟩)
    | (refine Vc.mk ?_ (Step.out ?_))
  · exact utf8_low x ‹_› ‹_›
  · exact pl_let x ‹_›
  · exact pl_dig x ‹_›
  · exact pl_sp x (by omega) ‹_› ‹_› (by omega)
  · exact pl_let x ‹_›
  · exact pl_dig x ‹_›
  · exact pl_ap x ‹_›
  · exact pl_sp x (by omega) ‹_› ‹_› ‹_›
end Kx
