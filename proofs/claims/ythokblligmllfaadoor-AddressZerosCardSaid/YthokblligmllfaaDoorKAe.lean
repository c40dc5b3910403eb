/-
  Addresses: numbers and parts.
  No condition beyond those written in each theorem.
-/
import Derived.Test.YthokblligmllfaaDoorKNe
import Derived.Test.YthokblligmllfaaDoorKAd
open Go Sx Go.Proofs
set_option linter.unusedSimpArgs false
set_option linter.unusedVariables false
namespace Kx
theorem num_cons {s : Str} (h : ¬s = []) : num s = isDig (s.getD 0 0) := by
  match s, h with
  | [], h => exact absurd rfl h
  | x :: l, _ => rfl
theorem dig_T {x : UInt8} (h1 : (48 : Int) ≤ x.toNat) (h2 : (x.toNat : Int) ≤ 57) : isDig x = true := by simp only [isDig, decide_eq_true h1, decide_eq_true h2, Bool.and_self]
theorem dig_F1 {x : UInt8} (h1 : ¬(48 : Int) ≤ x.toNat) : isDig x = false := by simp only [isDig, decide_eq_false h1, Bool.false_and]
theorem dig_F2 {x : UInt8} (h2 : ¬(x.toNat : Int) ≤ 57) : isDig x = false := by simp only [isDig, decide_eq_false h2, Bool.and_false]
theorem ne_len {s : Str} (h : ¬s = []) : 1 ≤ s.length := by
  match s, h with
  | [], h => exact absurd rfl h
  | x :: l, _ => simp
theorem slice1 (z : Str) : List.drop (Int.toNat 1) (List.take ((z.length : Int)).toNat z) = z.drop 1 := by simp
theorem trim0_at {z : Str} (hl : 0 < (z.length : Int)) (h : ((z.getD (Int.toNat 0) 0).toNat : Int) = 48) : trim0 z = trim0 (z.drop 1) := by
  match z, hl, h with
  | x :: l, _, h =>
    have : x = 48 := UInt8.toNat_inj.1 (by show x.toNat = 48; have : (x.toNat : Int) = 48 := h; omega)
    rw [trim0, if_pos this]; rfl
theorem trim0_end {z : Str} (h : ¬0 < (z.length : Int) ∨ ¬((z.getD (Int.toNat 0) 0).toNat : Int) = 48) : trim0 z = z := by
  match z, h with
  | [], _ => rfl
  | x :: l, h =>
    have : ¬x = 48 := fun e => by
      rcases h with h | h
      · simp at h
        try omega
      · exact h (by rw [e]; rfl)
    rw [trim0, if_neg this]
theorem numeral_ct (s : Str) : Ct Tryd.prog 41 [.str s] fun r outs => r = .bool (num s) ∧ outs = [] := by
  refine .det (.of_W (fn := Tryd.f41) hΓ hm Tryd.func41 [] [] (by kernel_rfl) (Step.out ?_))
  repeat' first
    | (refine Step.mk ?_; conv => whnf)
    | (refine Vc.om ?_ ?_; first | omega | with_reducible rfl | with_reducible exact same_rfl | (simp only [bytes_2, bytes_3, bytes_4, bytes_5, bytes_9, bytes_12, bytes_21, bytes_22, bytes_25, bytes_27, bytes_28, bytes_29, bytes_30, bytes_34, bytes_45, bytes_49, bytes_50, bytes_51, bytes_52, bytes_53, bytes_54, bytes_64, bytes_67, bytes_68, bytes_73, bytes_75, bytes_76, bytes_77, bytes_92, bytes_93, bytes_94, bytes_95, bytes_98, bytes_102, bytes_112, bytes_123, bytes_129]; omega))
    | (refine NilB.mk fun b hb => Step.out ?_)
    | with_reducible trivial
    | exact noSh_bool _
    | exact noSh_lit _
    | exact noSh_int _ _
    | exact noSh_str _
    | with_reducible rfl
    | with_reducible exact same_rfl
    | (refine Wr.i64 ?_ ?_; omega)
    | (refine Wr.u8 ?_ ?_; omega)
    | (refine Wr.i32 ?_ ?_; omega)
    | (with_reducible refine Br.tt ?_)
    | (with_reducible refine Br.ff ?_)
    | (refine Br.dT ?_ ?_; omega)
    | (refine Br.dF ?_ ?_; omega)
    | (refine Vc.om ?_ ?_; focus ((have := ne_len (s := s) ‹_›; omega); done))
    | (refine Wr.i64 ?_ ?_; focus ((have := ne_len (s := s) ‹_›; omega); done))
    | (refine Wr.u8 ?_ ?_; focus ((have := ne_len (s := s) ‹_›; omega); done))
    | (refine Br.dT ?_ ?_; focus ((have := ne_len (s := s) ‹_›; omega); done))
    | (refine Br.dF ?_ ?_; focus ((have := ne_len (s := s) ‹_›; omega); done))
    | (refine Br.d (fun h => ?_) (fun h => ?_))
    | (refine Br.swap ?_)
    | (refine Br.bnot ?_)
    | (refine Br.mk (fun h => Step.out ?_) (fun h => Step.out ?_))
    | (refine Two.mk (Step.out ?_) (Step.out ?_))
    | (refine CallOK.of_ct (Step.out ?_))
    | (refine Vc.mk ?_ (Step.out ?_))
  · rw [show s = [] from h]; rfl
  · rw [num_cons (s := s) ‹_›, isDig, decide_eq_true (show (48 : Int) ≤ ((s.getD 0 0).toNat : Int) from ‹_›), Bool.true_and]; rfl
  · rw [num_cons (s := s) ‹_›]; exact (dig_F1 ‹_›).symm
theorem rnumber_ct (s : Str) : Ct Tryd.prog 78 [.str s] fun r outs => r = .bool (num s) ∧ outs = [] := by
  refine .det (.of_W (fn := Tryd.f78) hΓ hm Tryd.func78 [] [] (by kernel_rfl) (Step.out ?_))
  repeat' first
    | (refine Step.mk ?_; conv => whnf)
    | (refine Vc.om ?_ ?_; first | omega | with_reducible rfl | with_reducible exact same_rfl | (simp only [bytes_2, bytes_3, bytes_4, bytes_5, bytes_9, bytes_12, bytes_21, bytes_22, bytes_25, bytes_27, bytes_28, bytes_29, bytes_30, bytes_34, bytes_45, bytes_49, bytes_50, bytes_51, bytes_52, bytes_53, bytes_54, bytes_64, bytes_67, bytes_68, bytes_73, bytes_75, bytes_76, bytes_77, bytes_92, bytes_93, bytes_94, bytes_95, bytes_98, bytes_102, bytes_112, bytes_123, bytes_129]; omega))
    | (refine NilB.mk fun b hb => Step.out ?_)
    | with_reducible trivial
    | exact noSh_bool _
    | exact noSh_lit _
    | exact noSh_int _ _
    | exact noSh_str _
    | with_reducible rfl
    | with_reducible exact same_rfl
    | (refine Wr.i64 ?_ ?_; omega)
    | (refine Wr.u8 ?_ ?_; omega)
    | (refine Wr.i32 ?_ ?_; omega)
    | (with_reducible refine Br.tt ?_)
    | (with_reducible refine Br.ff ?_)
    | (refine Br.dT ?_ ?_; omega)
    | (refine Br.dF ?_ ?_; omega)
    | (refine Vc.om ?_ ?_; focus ((have := ne_len (s := s) ‹_›; omega); done))
    | (refine Wr.i64 ?_ ?_; focus ((have := ne_len (s := s) ‹_›; omega); done))
    | (refine Wr.u8 ?_ ?_; focus ((have := ne_len (s := s) ‹_›; omega); done))
    | (refine Br.dT ?_ ?_; focus ((have := ne_len (s := s) ‹_›; omega); done))
    | (refine Br.dF ?_ ?_; focus ((have := ne_len (s := s) ‹_›; omega); done))
    | (refine Br.d (fun h => ?_) (fun h => ?_))
    | (refine Br.swap ?_)
    | (refine Br.bnot ?_)
    | (refine Br.mk (fun h => Step.out ?_) (fun h => Step.out ?_))
    | (refine Two.mk (Step.out ?_) (Step.out ?_))
    | (refine CallOK.of_ct (Step.out ?_))
    | (refine Vc.mk ?_ (Step.out ?_))
  · rw [show s = [] from h]; rfl
  · rw [num_cons (s := s) ‹_›, isDig, decide_eq_true (show (48 : Int) ≤ ((s.getD 0 0).toNat : Int) from ‹_›), Bool.true_and]; rfl
  · rw [num_cons (s := s) ‹_›]; exact (dig_F1 ‹_›).symm
theorem tlb_ct (s : Str) (hs : s.length ≤ 1000000000) : Ct Tryd.prog 85 [.str s, u8 48] fun r outs => r = .str (trim0 s) ∧ outs = [] := by
  refine .det (.of_W (fn := Tryd.f85) hΓ hm Tryd.func85 [] [] (by kernel_rfl) (Step.out ?_))
  repeat' first
    | (refine Step.mk ?_; conv => whnf)
    | (refine Vc.om ?_ ?_; first | omega | with_reducible rfl | with_reducible exact same_rfl | (simp only [bytes_2, bytes_3, bytes_4, bytes_5, bytes_9, bytes_12, bytes_21, bytes_22, bytes_25, bytes_27, bytes_28, bytes_29, bytes_30, bytes_34, bytes_45, bytes_49, bytes_50, bytes_51, bytes_52, bytes_53, bytes_54, bytes_64, bytes_67, bytes_68, bytes_73, bytes_75, bytes_76, bytes_77, bytes_92, bytes_93, bytes_94, bytes_95, bytes_98, bytes_102, bytes_112, bytes_123, bytes_129]; omega))
    | (refine NilB.mk fun b hb => Step.out ?_)
    | with_reducible trivial
    | exact noSh_bool _
    | exact noSh_lit _
    | exact noSh_int _ _
    | exact noSh_str _
    | with_reducible rfl
    | with_reducible exact same_rfl
    | (refine Wr.i64 ?_ ?_; omega)
    | (refine Wr.u8 ?_ ?_; omega)
    | (refine Wr.i32 ?_ ?_; omega)
    | (with_reducible refine Br.tt ?_)
    | (with_reducible refine Br.ff ?_)
    | (refine Br.dT ?_ ?_; omega)
    | (refine Br.dF ?_ ?_; omega)
    | (refine Br.d (fun h => ?_) (fun h => ?_))
    | (refine Br.swap ?_)
    | (refine Br.bnot ?_)
    | (refine Br.mk (fun h => Step.out ?_) (fun h => Step.out ?_))
    | (refine Two.mk (Step.out ?_) (Step.out ?_))
    | (refine CallOK.of_ct (Step.out ?_))
    | (refine Vc.mk ?_ (Step.out ?_))
  refine CodeOK.loopW hΓ hm [] [] (by kernel_rfl) (α := Str) (fun z => [(0, .str z), (1, u8 48)]) (fun z => []) 0 (fun z => z.length ≤ s.length ∧ trim0 s = trim0 z) (fun z => z.length) ?_ ?_
  · refine Again.by s ⟨Nat.le_refl _, rfl⟩ ?_
    repeat' first
      | (refine Step.mk ?_; conv => whnf)
      | (refine Vc.om ?_ ?_; first | omega | with_reducible rfl | with_reducible exact same_rfl | (simp only [bytes_2, bytes_3, bytes_4, bytes_5, bytes_9, bytes_12, bytes_21, bytes_22, bytes_25, bytes_27, bytes_28, bytes_29, bytes_30, bytes_34, bytes_45, bytes_49, bytes_50, bytes_51, bytes_52, bytes_53, bytes_54, bytes_64, bytes_67, bytes_68, bytes_73, bytes_75, bytes_76, bytes_77, bytes_92, bytes_93, bytes_94, bytes_95, bytes_98, bytes_102, bytes_112, bytes_123, bytes_129]; omega))
      | (refine NilB.mk fun b hb => Step.out ?_)
      | with_reducible trivial
      | exact noSh_bool _
      | exact noSh_lit _
      | exact noSh_int _ _
      | exact noSh_str _
      | with_reducible rfl
      | with_reducible exact same_rfl
      | (refine Wr.i64 ?_ ?_; omega)
      | (refine Wr.u8 ?_ ?_; omega)
      | (refine Wr.i32 ?_ ?_; omega)
      | (with_reducible refine Br.tt ?_)
      | (with_reducible refine Br.ff ?_)
      | (refine Br.dT ?_ ?_; omega)
      | (refine Br.dF ?_ ?_; omega)
      | (refine Br.d (fun h => ?_) (fun h => ?_))
      | (refine Br.swap ?_)
      | (refine Br.bnot ?_)
      | (refine Br.mk (fun h => Step.out ?_) (fun h => Step.out ?_))
      | (refine Two.mk (Step.out ?_) (Step.out ?_))
      | (refine CallOK.of_ct (Step.out ?_))
      | (refine Vc.mk ?_ (Step.out ?_))
  · intro z ⟨hi, hv⟩
    repeat' first
      | (refine Step.mk ?_; conv => whnf)
      | (refine Vc.om ?_ ?_; first | omega | with_reducible rfl | with_reducible exact same_rfl | (simp only [bytes_2, bytes_3, bytes_4, bytes_5, bytes_9, bytes_12, bytes_21, bytes_22, bytes_25, bytes_27, bytes_28, bytes_29, bytes_30, bytes_34, bytes_45, bytes_49, bytes_50, bytes_51, bytes_52, bytes_53, bytes_54, bytes_64, bytes_67, bytes_68, bytes_73, bytes_75, bytes_76, bytes_77, bytes_92, bytes_93, bytes_94, bytes_95, bytes_98, bytes_102, bytes_112, bytes_123, bytes_129]; omega))
      | (refine NilB.mk fun b hb => Step.out ?_)
      | with_reducible trivial
      | exact noSh_bool _
      | exact noSh_lit _
      | exact noSh_int _ _
      | exact noSh_str _
      | with_reducible rfl
      | with_reducible exact same_rfl
      | (refine Wr.i64 ?_ ?_; omega)
      | (refine Wr.u8 ?_ ?_; omega)
      | (refine Wr.i32 ?_ ?_; omega)
      | (with_reducible refine Br.tt ?_)
      | (with_reducible refine Br.ff ?_)
      | (refine Br.dT ?_ ?_; omega)
      | (refine Br.dF ?_ ?_; omega)
      | (refine Br.d (fun h => ?_) (fun h => ?_))
      | (refine Br.swap ?_)
      | (refine Br.bnot ?_)
      | (refine Br.mk (fun h => Step.out ?_) (fun h => Step.out ?_))
      | (refine Two.mk (Step.out ?_) (Step.out ?_))
      | (refine CallOK.of_ct (Step.out ?_))
      | (refine Vc.mk ?_ (Step.out ?_))
    · refine Again.by (List.drop (Int.toNat 1) (List.take ((z.length : Int)).toNat z)) ⟨⟨by rw [slice1, List.length_drop]; omega, by rw [slice1, hv, trim0_at ‹_› ‹_›]⟩, by rw [slice1, List.length_drop]; omega⟩ ?_
      repeat' first
        | (refine Step.mk ?_; conv => whnf)
        | (refine Vc.om ?_ ?_; first | omega | with_reducible rfl | with_reducible exact same_rfl | (simp only [bytes_2, bytes_3, bytes_4, bytes_5, bytes_9, bytes_12, bytes_21, bytes_22, bytes_25, bytes_27, bytes_28, bytes_29, bytes_30, bytes_34, bytes_45, bytes_49, bytes_50, bytes_51, bytes_52, bytes_53, bytes_54, bytes_64, bytes_67, bytes_68, bytes_73, bytes_75, bytes_76, bytes_77, bytes_92, bytes_93, bytes_94, bytes_95, bytes_98, bytes_102, bytes_112, bytes_123, bytes_129]; omega))
        | (refine NilB.mk fun b hb => Step.out ?_)
        | with_reducible trivial
        | exact noSh_bool _
        | exact noSh_lit _
        | exact noSh_int _ _
        | exact noSh_str _
        | with_reducible rfl
        | with_reducible exact same_rfl
        | (refine Wr.i64 ?_ ?_; omega)
        | (refine Wr.u8 ?_ ?_; omega)
        | (refine Wr.i32 ?_ ?_; omega)
        | (with_reducible refine Br.tt ?_)
        | (with_reducible refine Br.ff ?_)
        | (refine Br.dT ?_ ?_; omega)
        | (refine Br.dF ?_ ?_; omega)
        | (refine Br.d (fun h => ?_) (fun h => ?_))
        | (refine Br.swap ?_)
        | (refine Br.bnot ?_)
        | (refine Br.mk (fun h => Step.out ?_) (fun h => Step.out ?_))
        | (refine Two.mk (Step.out ?_) (Step.out ?_))
        | (refine CallOK.of_ct (Step.out ?_))
        | (refine Vc.mk ?_ (Step.out ?_))
    · rw [hv, trim0_end (.inr ‹_›)]
    · rw [hv, trim0_end (.inl ‹_›)]
theorem triml_ct (s : Str) (hs : s.length ≤ 1000000000) : Ct Tryd.prog 68 [.str s, .str [48]] fun r outs => r = .str (trim0 s) ∧ outs = [] := by
  refine .det (.of_W (fn := Tryd.f68) hΓ hm Tryd.func68 [] [] (by kernel_rfl) (Step.out ?_))
  repeat' first
    | (refine Step.mk ?_; conv => whnf)
    | (refine Vc.om ?_ ?_; first | omega | with_reducible rfl | with_reducible exact same_rfl | (simp only [bytes_2, bytes_3, bytes_4, bytes_5, bytes_9, bytes_12, bytes_21, bytes_22, bytes_25, bytes_27, bytes_28, bytes_29, bytes_30, bytes_34, bytes_45, bytes_49, bytes_50, bytes_51, bytes_52, bytes_53, bytes_54, bytes_64, bytes_67, bytes_68, bytes_73, bytes_75, bytes_76, bytes_77, bytes_92, bytes_93, bytes_94, bytes_95, bytes_98, bytes_102, bytes_112, bytes_123, bytes_129]; omega))
    | (refine NilB.mk fun b hb => Step.out ?_)
    | with_reducible trivial
    | exact noSh_bool _
    | exact noSh_lit _
    | exact noSh_int _ _
    | exact noSh_str _
    | with_reducible rfl
    | with_reducible exact same_rfl
    | (refine Wr.i64 ?_ ?_; omega)
    | (refine Wr.u8 ?_ ?_; omega)
    | (refine Wr.i32 ?_ ?_; omega)
    | (with_reducible refine Br.tt ?_)
    | (with_reducible refine Br.ff ?_)
    | (refine Br.dT ?_ ?_; omega)
    | (refine Br.dF ?_ ?_; omega)
    | (with_reducible exact Br.dT (by decide) (Step.mk ?_))
    | (refine Br.d (fun h => ?_) (fun h => ?_))
    | (refine Br.swap ?_)
    | (refine Br.bnot ?_)
    | (refine Br.mk (fun h => Step.out ?_) (fun h => Step.out ?_))
    | (refine Two.mk (Step.out ?_) (Step.out ?_))
    | (refine CallOK.of_ct (Step.out ?_))
    | (refine Met.by (g := 85) (tlb_ct _ (by first | omega | decide | (simp; done) | (simp; omega))) ?_; rintro q outs ⟨rfl, rfl⟩)
    | (refine Vc.mk ?_ (Step.out ?_))
  rw [show s = [] from h]; rfl
theorem addrshort_ct (s : Str) (hs : s.length ≤ 100000000) : Ct Tryd.prog 42 [.str s] fun r outs => r = .str (shortS s) ∧ outs = [] := by
  have hl := trim0_len s
  refine .det (.of_W (fn := Tryd.f42) hΓ hm Tryd.func42 [] [] (by kernel_rfl) (Step.out ?_))
  repeat' first
    | (refine Step.mk ?_; conv => whnf)
    | (refine Vc.om ?_ ?_; first | omega | with_reducible rfl | with_reducible exact same_rfl | (simp only [bytes_2, bytes_3, bytes_4, bytes_5, bytes_9, bytes_12, bytes_21, bytes_22, bytes_25, bytes_27, bytes_28, bytes_29, bytes_30, bytes_34, bytes_45, bytes_49, bytes_50, bytes_51, bytes_52, bytes_53, bytes_54, bytes_64, bytes_67, bytes_68, bytes_73, bytes_75, bytes_76, bytes_77, bytes_92, bytes_93, bytes_94, bytes_95, bytes_98, bytes_102, bytes_112, bytes_123, bytes_129]; omega))
    | (refine NilB.mk fun b hb => Step.out ?_)
    | with_reducible trivial
    | exact noSh_bool _
    | exact noSh_lit _
    | exact noSh_int _ _
    | exact noSh_str _
    | with_reducible rfl
    | with_reducible exact same_rfl
    | (refine Wr.i64 ?_ ?_; omega)
    | (refine Wr.u8 ?_ ?_; omega)
    | (refine Wr.i32 ?_ ?_; omega)
    | (with_reducible refine Br.tt ?_)
    | (with_reducible refine Br.ff ?_)
    | (refine Br.dT ?_ ?_; omega)
    | (refine Br.dF ?_ ?_; omega)
    | (refine Vc.om ?_ ?_; focus ((simp only [List.length_cons, List.length_append, List.length_nil]; omega); done))
    | (refine Wr.i64 ?_ ?_; focus ((simp only [List.length_cons, List.length_append, List.length_nil]; omega); done))
    | (refine Wr.u8 ?_ ?_; focus ((simp only [List.length_cons, List.length_append, List.length_nil]; omega); done))
    | (refine Br.dT ?_ ?_; focus ((simp only [List.length_cons, List.length_append, List.length_nil]; omega); done))
    | (refine Br.dF ?_ ?_; focus ((simp only [List.length_cons, List.length_append, List.length_nil]; omega); done))
    | (refine Br.d (fun h => ?_) (fun h => ?_))
    | (refine Br.swap ?_)
    | (refine Br.bnot ?_)
    | (refine Br.mk (fun h => Step.out ?_) (fun h => Step.out ?_))
    | (refine Two.mk (Step.out ?_) (Step.out ?_))
    | (refine CallOK.of_ct (Step.out ?_))
    | (refine Met.by (g := 41) (numeral_ct _) ?_; rintro q outs ⟨rfl, rfl⟩)
    | (refine Met.by (g := 68) (triml_ct _ (by first | omega | decide | (simp; done) | (simp; omega))) ?_; rintro q outs ⟨rfl, rfl⟩)
    | (refine Vc.mk ?_ (Step.out ?_))
  · rw [shortS, if_pos ‹_›]
  · rw [shortS, if_neg (by rw [‹num _ = false›]; simp)]; rfl
theorem num_drop {z : Str} (hl : 1 < z.length) : num (z.drop 1) = isDig (z.getD 1 0) := by
  match z, hl with
  | x :: y :: l, _ => rfl
theorem rtrimmed_ct (s : Str) (hs : s.length ≤ 1000000000) (hn : num s = true) : Ct Tryd.prog 53 [.str s] fun r outs => r = .str (shortS s) ∧ outs = [] := by
  refine .det (.of_W (fn := Tryd.f53) hΓ hm Tryd.func53 [] [] (by kernel_rfl) (Step.out ?_))
  repeat' first
    | (refine Step.mk ?_; conv => whnf)
    | (refine Vc.om ?_ ?_; first | omega | with_reducible rfl | with_reducible exact same_rfl | (simp only [bytes_2, bytes_3, bytes_4, bytes_5, bytes_9, bytes_12, bytes_21, bytes_22, bytes_25, bytes_27, bytes_28, bytes_29, bytes_30, bytes_34, bytes_45, bytes_49, bytes_50, bytes_51, bytes_52, bytes_53, bytes_54, bytes_64, bytes_67, bytes_68, bytes_73, bytes_75, bytes_76, bytes_77, bytes_92, bytes_93, bytes_94, bytes_95, bytes_98, bytes_102, bytes_112, bytes_123, bytes_129]; omega))
    | (refine NilB.mk fun b hb => Step.out ?_)
    | with_reducible trivial
    | exact noSh_bool _
    | exact noSh_lit _
    | exact noSh_int _ _
    | exact noSh_str _
    | with_reducible rfl
    | with_reducible exact same_rfl
    | (refine Wr.i64 ?_ ?_; omega)
    | (refine Wr.u8 ?_ ?_; omega)
    | (refine Wr.i32 ?_ ?_; omega)
    | (with_reducible refine Br.tt ?_)
    | (with_reducible refine Br.ff ?_)
    | (refine Br.dT ?_ ?_; omega)
    | (refine Br.dF ?_ ?_; omega)
    | (refine Br.d (fun h => ?_) (fun h => ?_))
    | (refine Br.swap ?_)
    | (refine Br.bnot ?_)
    | (refine Br.mk (fun h => Step.out ?_) (fun h => Step.out ?_))
    | (refine Two.mk (Step.out ?_) (Step.out ?_))
    | (refine CallOK.of_ct (Step.out ?_))
    | (refine Vc.mk ?_ (Step.out ?_))
  refine CodeOK.loopW hΓ hm [] [] (by kernel_rfl) (α := Str) (fun z => [(0, .str z)]) (fun z => []) 0 (fun z => z.length ≤ s.length ∧ shortS s = shortS z ∧ num z = true) (fun z => z.length) ?_ ?_
  · refine Again.by s ⟨Nat.le_refl _, rfl, hn⟩ ?_
    repeat' first
      | (refine Step.mk ?_; conv => whnf)
      | (refine Vc.om ?_ ?_; first | omega | with_reducible rfl | with_reducible exact same_rfl | (simp only [bytes_2, bytes_3, bytes_4, bytes_5, bytes_9, bytes_12, bytes_21, bytes_22, bytes_25, bytes_27, bytes_28, bytes_29, bytes_30, bytes_34, bytes_45, bytes_49, bytes_50, bytes_51, bytes_52, bytes_53, bytes_54, bytes_64, bytes_67, bytes_68, bytes_73, bytes_75, bytes_76, bytes_77, bytes_92, bytes_93, bytes_94, bytes_95, bytes_98, bytes_102, bytes_112, bytes_123, bytes_129]; omega))
      | (refine NilB.mk fun b hb => Step.out ?_)
      | with_reducible trivial
      | exact noSh_bool _
      | exact noSh_lit _
      | exact noSh_int _ _
      | exact noSh_str _
      | with_reducible rfl
      | with_reducible exact same_rfl
      | (refine Wr.i64 ?_ ?_; omega)
      | (refine Wr.u8 ?_ ?_; omega)
      | (refine Wr.i32 ?_ ?_; omega)
      | (with_reducible refine Br.tt ?_)
      | (with_reducible refine Br.ff ?_)
      | (refine Br.dT ?_ ?_; omega)
      | (refine Br.dF ?_ ?_; omega)
      | (refine Br.d (fun h => ?_) (fun h => ?_))
      | (refine Br.swap ?_)
      | (refine Br.bnot ?_)
      | (refine Br.mk (fun h => Step.out ?_) (fun h => Step.out ?_))
      | (refine Two.mk (Step.out ?_) (Step.out ?_))
      | (refine CallOK.of_ct (Step.out ?_))
      | (refine Vc.mk ?_ (Step.out ?_))
  · intro z ⟨hi, hv, hn⟩
    have h48 : ((z.getD (Int.toNat 0) 0).toNat : Int) = 48 → z.getD 0 0 = 48 := fun h => UInt8.toNat_inj.1 (by show (z.getD 0 0).toNat = 48; have : ((z.getD 0 0).toNat : Int) = 48 := h; omega)
    have hd := fun h : 1 < z.length => num_drop h
    repeat' first
      | (refine Step.mk ?_; conv => whnf)
      | (refine Vc.om ?_ ?_; first | omega | with_reducible rfl | with_reducible exact same_rfl | (simp only [bytes_2, bytes_3, bytes_4, bytes_5, bytes_9, bytes_12, bytes_21, bytes_22, bytes_25, bytes_27, bytes_28, bytes_29, bytes_30, bytes_34, bytes_45, bytes_49, bytes_50, bytes_51, bytes_52, bytes_53, bytes_54, bytes_64, bytes_67, bytes_68, bytes_73, bytes_75, bytes_76, bytes_77, bytes_92, bytes_93, bytes_94, bytes_95, bytes_98, bytes_102, bytes_112, bytes_123, bytes_129]; omega))
      | (refine NilB.mk fun b hb => Step.out ?_)
      | with_reducible trivial
      | exact noSh_bool _
      | exact noSh_lit _
      | exact noSh_int _ _
      | exact noSh_str _
      | with_reducible rfl
      | with_reducible exact same_rfl
      | (refine Wr.i64 ?_ ?_; omega)
      | (refine Wr.u8 ?_ ?_; omega)
      | (refine Wr.i32 ?_ ?_; omega)
      | (with_reducible refine Br.tt ?_)
      | (with_reducible refine Br.ff ?_)
      | (refine Br.dT ?_ ?_; omega)
      | (refine Br.dF ?_ ?_; omega)
      | (refine Br.d (fun h => ?_) (fun h => ?_))
      | (refine Br.swap ?_)
      | (refine Br.bnot ?_)
      | (refine Br.mk (fun h => Step.out ?_) (fun h => Step.out ?_))
      | (refine Two.mk (Step.out ?_) (Step.out ?_))
      | (refine CallOK.of_ct (Step.out ?_))
      | (refine Vc.mk ?_ (Step.out ?_))
    · have hnd : num (z.drop 1) = true := by rw [hd (by omega)]; exact dig_T ‹_› ‹_›
      refine Again.by (List.drop (Int.toNat 1) (List.take ((z.length : Int)).toNat z)) ⟨⟨by rw [slice1, List.length_drop]; omega, by rw [slice1, hv, short_step (h48 ‹_›) (by omega) hnd], by rw [slice1]; exact hnd⟩, by rw [slice1, List.length_drop]; omega⟩ ?_
      repeat' first
        | (refine Step.mk ?_; conv => whnf)
        | (refine Vc.om ?_ ?_; first | omega | with_reducible rfl | with_reducible exact same_rfl | (simp only [bytes_2, bytes_3, bytes_4, bytes_5, bytes_9, bytes_12, bytes_21, bytes_22, bytes_25, bytes_27, bytes_28, bytes_29, bytes_30, bytes_34, bytes_45, bytes_49, bytes_50, bytes_51, bytes_52, bytes_53, bytes_54, bytes_64, bytes_67, bytes_68, bytes_73, bytes_75, bytes_76, bytes_77, bytes_92, bytes_93, bytes_94, bytes_95, bytes_98, bytes_102, bytes_112, bytes_123, bytes_129]; omega))
        | (refine NilB.mk fun b hb => Step.out ?_)
        | with_reducible trivial
        | exact noSh_bool _
        | exact noSh_lit _
        | exact noSh_int _ _
        | exact noSh_str _
        | with_reducible rfl
        | with_reducible exact same_rfl
        | (refine Wr.i64 ?_ ?_; omega)
        | (refine Wr.u8 ?_ ?_; omega)
        | (refine Wr.i32 ?_ ?_; omega)
        | (with_reducible refine Br.tt ?_)
        | (with_reducible refine Br.ff ?_)
        | (refine Br.dT ?_ ?_; omega)
        | (refine Br.dF ?_ ?_; omega)
        | (refine Br.d (fun h => ?_) (fun h => ?_))
        | (refine Br.swap ?_)
        | (refine Br.bnot ?_)
        | (refine Br.mk (fun h => Step.out ?_) (fun h => Step.out ?_))
        | (refine Two.mk (Step.out ?_) (Step.out ?_))
        | (refine CallOK.of_ct (Step.out ?_))
        | (refine Vc.mk ?_ (Step.out ?_))
    · have hnd : num (z.drop 1) = false := by rw [hd (by omega)]; exact dig_F2 ‹_›
      rw [hv, short_fix hn (.inr (.inr hnd))]
    · have hnd : num (z.drop 1) = false := by rw [hd (by omega)]; exact dig_F1 ‹_›
      rw [hv, short_fix hn (.inr (.inr hnd))]
    · rw [hv, short_fix hn (.inr (.inl fun e => ‹¬_ = (48 : Int)› (by show ((z.getD 0 0).toNat : Int) = 48; rw [e]; rfl)))]
    · rw [hv, short_fix hn (.inl (by omega))]
theorem numbers_step {l : List Str} {i : Nat} (h : i < l.length) : numbers (l.take (i + 1)) = numbers (l.take i) ++ if num (l.getD i []) = true then [l.getD i []] else [] := filter_step num l [] i h
theorem others_step {l : List Str} {i : Nat} (h : i < l.length) : others (l.take (i + 1)) = others (l.take i) ++ if num (l.getD i []) = true then [] else [l.getD i []] := by
  have := filter_step notNum l [] i h
  rw [others, this]
  unfold notNum
  cases num (l.getD i []) <;> rfl
theorem noSh_two (e : Nat) (a b : List Str) : noSh (.tup [strsO e a, strsO e b]) := ⟨fun _ _ => ⟨trivial, trivial⟩, fun _ _ => ⟨trivial, trivial⟩, trivial⟩
theorem part_ct (l : List Str) (hl : l.length ≤ 1000000) : Ct Tryd.prog 43 [strs l, .fn 41 []] fun r outs => r = .tup [strsO 9 (numbers l), strsO 9 (others l)] ∧ outs = [] := by
  refine .det (.of_W (fn := Tryd.f43) hΓ hm Tryd.func43 [] [] (by kernel_rfl) (Step.out ?_))
  repeat' first
    | (refine Step.mk ?_; conv => whnf)
    | (refine Vc.om ?_ ?_; first | omega | with_reducible rfl | with_reducible exact same_rfl | (simp only [bytes_2, bytes_3, bytes_4, bytes_5, bytes_9, bytes_12, bytes_21, bytes_22, bytes_25, bytes_27, bytes_28, bytes_29, bytes_30, bytes_34, bytes_45, bytes_49, bytes_50, bytes_51, bytes_52, bytes_53, bytes_54, bytes_64, bytes_67, bytes_68, bytes_73, bytes_75, bytes_76, bytes_77, bytes_92, bytes_93, bytes_94, bytes_95, bytes_98, bytes_102, bytes_112, bytes_123, bytes_129]; omega))
    | (refine NilB.mk fun b hb => Step.out ?_)
    | with_reducible trivial
    | exact noSh_bool _
    | exact noSh_lit _
    | exact noSh_int _ _
    | exact noSh_str _
    | with_reducible rfl
    | with_reducible exact same_rfl
    | (refine Wr.i64 ?_ ?_; omega)
    | (refine Wr.u8 ?_ ?_; omega)
    | (refine Wr.i32 ?_ ?_; omega)
    | (with_reducible refine Br.tt ?_)
    | (with_reducible refine Br.ff ?_)
    | (refine Br.dT ?_ ?_; omega)
    | (refine Br.dF ?_ ?_; omega)
    | (refine Br.d (fun h => ?_) (fun h => ?_))
    | (refine Br.swap ?_)
    | (refine Br.bnot ?_)
    | (refine Br.mk (fun h => Step.out ?_) (fun h => Step.out ?_))
    | (refine Two.mk (Step.out ?_) (Step.out ?_))
    | (refine CallOK.of_ct (Step.out ?_))
    | (refine Vc.mk ?_ (Step.out ?_))
  refine CodeOK.loopW hΓ hm [] [] (by kernel_rfl) (α := Nat) (fun i => [(1, .fn 41 []), (4, .own 0), (5, .own 1), (8, strs l), (9, i64 l.length), (10, i64 i)]) (fun i => [(0, .arr 9 1 (numbers (l.take i)).length fun j => [.str ((numbers (l.take i)).getD j [])]), (1, .arr 9 1 (others (l.take i)).length fun j => [.str ((others (l.take i)).getD j [])])]) 2 (fun i => i ≤ l.length) (fun i => l.length - i) ?_ ?_
  · refine Again.by 0 (Nat.zero_le _) ?_
    repeat' first
      | (refine Step.mk ?_; conv => whnf)
      | (refine Vc.om ?_ ?_; first | omega | with_reducible rfl | with_reducible exact same_rfl | (simp only [bytes_2, bytes_3, bytes_4, bytes_5, bytes_9, bytes_12, bytes_21, bytes_22, bytes_25, bytes_27, bytes_28, bytes_29, bytes_30, bytes_34, bytes_45, bytes_49, bytes_50, bytes_51, bytes_52, bytes_53, bytes_54, bytes_64, bytes_67, bytes_68, bytes_73, bytes_75, bytes_76, bytes_77, bytes_92, bytes_93, bytes_94, bytes_95, bytes_98, bytes_102, bytes_112, bytes_123, bytes_129]; omega))
      | (refine NilB.mk fun b hb => Step.out ?_)
      | with_reducible trivial
      | exact noSh_bool _
      | exact noSh_lit _
      | exact noSh_int _ _
      | exact noSh_str _
      | with_reducible rfl
      | with_reducible exact same_rfl
      | (refine Wr.i64 ?_ ?_; omega)
      | (refine Wr.u8 ?_ ?_; omega)
      | (refine Wr.i32 ?_ ?_; omega)
      | (with_reducible refine Br.tt ?_)
      | (with_reducible refine Br.ff ?_)
      | (refine Br.dT ?_ ?_; omega)
      | (refine Br.dF ?_ ?_; omega)
      | (refine Cho.r ?_)
      | (rfl)
      | (refine Br.d (fun h => ?_) (fun h => ?_))
      | (refine Br.swap ?_)
      | (refine Br.bnot ?_)
      | (refine Br.mk (fun h => Step.out ?_) (fun h => Step.out ?_))
      | (refine Two.mk (Step.out ?_) (Step.out ?_))
      | (refine CallOK.of_ct (Step.out ?_))
      | (refine Vc.mk ?_ (Step.out ?_))
  · intro i hi
    have hp := parts_len (l.take i)
    rw [List.length_take] at hp
    repeat' first
      | (refine Step.mk ?_; conv => whnf)
      | (refine Vc.om ?_ ?_; first | omega | with_reducible rfl | with_reducible exact same_rfl | (simp only [bytes_2, bytes_3, bytes_4, bytes_5, bytes_9, bytes_12, bytes_21, bytes_22, bytes_25, bytes_27, bytes_28, bytes_29, bytes_30, bytes_34, bytes_45, bytes_49, bytes_50, bytes_51, bytes_52, bytes_53, bytes_54, bytes_64, bytes_67, bytes_68, bytes_73, bytes_75, bytes_76, bytes_77, bytes_92, bytes_93, bytes_94, bytes_95, bytes_98, bytes_102, bytes_112, bytes_123, bytes_129]; omega))
      | (refine NilB.mk fun b hb => Step.out ?_)
      | with_reducible trivial
      | exact noSh_bool _
      | exact noSh_lit _
      | exact noSh_int _ _
      | exact noSh_str _
      | with_reducible rfl
      | with_reducible exact same_rfl
      | (refine Wr.i64 ?_ ?_; omega)
      | (refine Wr.u8 ?_ ?_; omega)
      | (refine Wr.i32 ?_ ?_; omega)
      | (with_reducible refine Br.tt ?_)
      | (with_reducible refine Br.ff ?_)
      | (refine Br.dT ?_ ?_; omega)
      | (refine Br.dF ?_ ?_; omega)
      | (refine Met.by (numeral_ct _) ?_; rintro q outs ⟨rfl, rfl⟩)
      | (refine Br.d (fun h => ?_) (fun h => ?_))
      | (refine Br.swap ?_)
      | (refine Br.bnot ?_)
      | (refine Br.mk (fun h => Step.out ?_) (fun h => Step.out ?_))
      | (refine Two.mk (Step.out ?_) (Step.out ?_))
      | (refine CallOK.of_ct (Step.out ?_))
      | (refine Vc.mk ?_ (Step.out ?_))
    all_goals try simp only [Int.toNat_natCast] at *
    · refine Again.by (i + 1) ⟨by omega, by omega⟩ ?_
      rw [numbers_step (by omega), others_step (by omega), if_pos ‹_›, if_pos ‹_›, List.append_nil]
      repeat' first
        | (refine Step.mk ?_; conv => whnf)
        | (refine Vc.om ?_ ?_; first | omega | with_reducible rfl | with_reducible exact same_rfl | (simp only [bytes_2, bytes_3, bytes_4, bytes_5, bytes_9, bytes_12, bytes_21, bytes_22, bytes_25, bytes_27, bytes_28, bytes_29, bytes_30, bytes_34, bytes_45, bytes_49, bytes_50, bytes_51, bytes_52, bytes_53, bytes_54, bytes_64, bytes_67, bytes_68, bytes_73, bytes_75, bytes_76, bytes_77, bytes_92, bytes_93, bytes_94, bytes_95, bytes_98, bytes_102, bytes_112, bytes_123, bytes_129]; omega))
        | (refine NilB.mk fun b hb => Step.out ?_)
        | with_reducible trivial
        | exact noSh_bool _
        | exact noSh_lit _
        | exact noSh_int _ _
        | exact noSh_str _
        | with_reducible rfl
        | with_reducible exact same_rfl
        | (refine Wr.i64 ?_ ?_; omega)
        | (refine Wr.u8 ?_ ?_; omega)
        | (refine Wr.i32 ?_ ?_; omega)
        | (with_reducible refine Br.tt ?_)
        | (with_reducible refine Br.ff ?_)
        | (refine Br.dT ?_ ?_; omega)
        | (refine Br.dF ?_ ?_; omega)
        | (refine Cho.r ?_)
        | (exact str_app _ _ rfl)
        | (refine Br.d (fun h => ?_) (fun h => ?_))
        | (refine Br.swap ?_)
        | (refine Br.bnot ?_)
        | (refine Br.mk (fun h => Step.out ?_) (fun h => Step.out ?_))
        | (refine Two.mk (Step.out ?_) (Step.out ?_))
        | (refine CallOK.of_ct (Step.out ?_))
        | (refine Vc.mk ?_ (Step.out ?_))
    · have hn : ¬num (l.getD i []) = true := by rw [‹num _ = false›]; simp
      refine Again.by (i + 1) ⟨by omega, by omega⟩ ?_
      rw [numbers_step (by omega), others_step (by omega), if_neg hn, if_neg hn, List.append_nil]
      repeat' first
        | (refine Step.mk ?_; conv => whnf)
        | (refine Vc.om ?_ ?_; first | omega | with_reducible rfl | with_reducible exact same_rfl | (simp only [bytes_2, bytes_3, bytes_4, bytes_5, bytes_9, bytes_12, bytes_21, bytes_22, bytes_25, bytes_27, bytes_28, bytes_29, bytes_30, bytes_34, bytes_45, bytes_49, bytes_50, bytes_51, bytes_52, bytes_53, bytes_54, bytes_64, bytes_67, bytes_68, bytes_73, bytes_75, bytes_76, bytes_77, bytes_92, bytes_93, bytes_94, bytes_95, bytes_98, bytes_102, bytes_112, bytes_123, bytes_129]; omega))
        | (refine NilB.mk fun b hb => Step.out ?_)
        | with_reducible trivial
        | exact noSh_bool _
        | exact noSh_lit _
        | exact noSh_int _ _
        | exact noSh_str _
        | with_reducible rfl
        | with_reducible exact same_rfl
        | (refine Wr.i64 ?_ ?_; omega)
        | (refine Wr.u8 ?_ ?_; omega)
        | (refine Wr.i32 ?_ ?_; omega)
        | (with_reducible refine Br.tt ?_)
        | (with_reducible refine Br.ff ?_)
        | (refine Br.dT ?_ ?_; omega)
        | (refine Br.dF ?_ ?_; omega)
        | (refine Cho.r ?_)
        | (exact str_app _ _ rfl)
        | (refine Br.d (fun h => ?_) (fun h => ?_))
        | (refine Br.swap ?_)
        | (refine Br.bnot ?_)
        | (refine Br.mk (fun h => Step.out ?_) (fun h => Step.out ?_))
        | (refine Two.mk (Step.out ?_) (Step.out ?_))
        | (refine CallOK.of_ct (Step.out ?_))
        | (refine Vc.mk ?_ (Step.out ?_))
    all_goals exact ⟨by rw [show i = l.length by omega, List.take_length], fun j _ => by rw [show i = l.length by omega, List.take_length]⟩
theorem rparts_ct (l : List Str) (hl : l.length ≤ 1000000) : Ct Tryd.prog 51 [strs l] fun r outs => r = .tup [strsO 9 (others l), strsO 9 (numbers l)] ∧ outs = [] := by
  refine .det (.of_W (fn := Tryd.f51) hΓ hm Tryd.func51 [] [] (by kernel_rfl) (Step.out ?_))
  repeat' first
    | (refine Step.mk ?_; conv => whnf)
    | (refine Vc.om ?_ ?_; first | omega | with_reducible rfl | with_reducible exact same_rfl | (simp only [bytes_2, bytes_3, bytes_4, bytes_5, bytes_9, bytes_12, bytes_21, bytes_22, bytes_25, bytes_27, bytes_28, bytes_29, bytes_30, bytes_34, bytes_45, bytes_49, bytes_50, bytes_51, bytes_52, bytes_53, bytes_54, bytes_64, bytes_67, bytes_68, bytes_73, bytes_75, bytes_76, bytes_77, bytes_92, bytes_93, bytes_94, bytes_95, bytes_98, bytes_102, bytes_112, bytes_123, bytes_129]; omega))
    | (refine NilB.mk fun b hb => Step.out ?_)
    | with_reducible trivial
    | exact noSh_bool _
    | exact noSh_lit _
    | exact noSh_int _ _
    | exact noSh_str _
    | with_reducible rfl
    | with_reducible exact same_rfl
    | (refine Wr.i64 ?_ ?_; omega)
    | (refine Wr.u8 ?_ ?_; omega)
    | (refine Wr.i32 ?_ ?_; omega)
    | (with_reducible refine Br.tt ?_)
    | (with_reducible refine Br.ff ?_)
    | (refine Br.dT ?_ ?_; omega)
    | (refine Br.dF ?_ ?_; omega)
    | (refine Br.d (fun h => ?_) (fun h => ?_))
    | (refine Br.swap ?_)
    | (refine Br.bnot ?_)
    | (refine Br.mk (fun h => Step.out ?_) (fun h => Step.out ?_))
    | (refine Two.mk (Step.out ?_) (Step.out ?_))
    | (refine CallOK.of_ct (Step.out ?_))
    | (refine Met.by (g := 78) (rnumber_ct _) ?_; rintro q outs ⟨rfl, rfl⟩)
    | (refine Vc.mk ?_ (Step.out ?_))
  refine CodeOK.loopW hΓ hm [] [] (by kernel_rfl) (α := Nat) (fun i => [(0, strs l), (4, .own 0), (5, .own 1), (6, i64 i)]) (fun i => [(0, .arr 9 1 (others (l.take i)).length fun j => [.str ((others (l.take i)).getD j [])]), (1, .arr 9 1 (numbers (l.take i)).length fun j => [.str ((numbers (l.take i)).getD j [])])]) 2 (fun i => i ≤ l.length) (fun i => l.length - i) ?_ ?_
  · refine Again.by 0 (Nat.zero_le _) ?_
    repeat' first
      | (refine Step.mk ?_; conv => whnf)
      | (refine Vc.om ?_ ?_; first | omega | with_reducible rfl | with_reducible exact same_rfl | (simp only [bytes_2, bytes_3, bytes_4, bytes_5, bytes_9, bytes_12, bytes_21, bytes_22, bytes_25, bytes_27, bytes_28, bytes_29, bytes_30, bytes_34, bytes_45, bytes_49, bytes_50, bytes_51, bytes_52, bytes_53, bytes_54, bytes_64, bytes_67, bytes_68, bytes_73, bytes_75, bytes_76, bytes_77, bytes_92, bytes_93, bytes_94, bytes_95, bytes_98, bytes_102, bytes_112, bytes_123, bytes_129]; omega))
      | (refine NilB.mk fun b hb => Step.out ?_)
      | with_reducible trivial
      | exact noSh_bool _
      | exact noSh_lit _
      | exact noSh_int _ _
      | exact noSh_str _
      | with_reducible rfl
      | with_reducible exact same_rfl
      | (refine Wr.i64 ?_ ?_; omega)
      | (refine Wr.u8 ?_ ?_; omega)
      | (refine Wr.i32 ?_ ?_; omega)
      | (with_reducible refine Br.tt ?_)
      | (with_reducible refine Br.ff ?_)
      | (refine Br.dT ?_ ?_; omega)
      | (refine Br.dF ?_ ?_; omega)
      | (rfl)
      | (refine Br.d (fun h => ?_) (fun h => ?_))
      | (refine Br.swap ?_)
      | (refine Br.bnot ?_)
      | (refine Br.mk (fun h => Step.out ?_) (fun h => Step.out ?_))
      | (refine Two.mk (Step.out ?_) (Step.out ?_))
      | (refine CallOK.of_ct (Step.out ?_))
      | (refine Met.by (g := 78) (rnumber_ct _) ?_; rintro q outs ⟨rfl, rfl⟩)
      | (refine Vc.mk ?_ (Step.out ?_))
  · intro i hi
    have hp := parts_len (l.take i)
    rw [List.length_take] at hp
    repeat' first
      | (refine Step.mk ?_; conv => whnf)
      | (refine Vc.om ?_ ?_; first | omega | with_reducible rfl | with_reducible exact same_rfl | (simp only [bytes_2, bytes_3, bytes_4, bytes_5, bytes_9, bytes_12, bytes_21, bytes_22, bytes_25, bytes_27, bytes_28, bytes_29, bytes_30, bytes_34, bytes_45, bytes_49, bytes_50, bytes_51, bytes_52, bytes_53, bytes_54, bytes_64, bytes_67, bytes_68, bytes_73, bytes_75, bytes_76, bytes_77, bytes_92, bytes_93, bytes_94, bytes_95, bytes_98, bytes_102, bytes_112, bytes_123, bytes_129]; omega))
      | (refine NilB.mk fun b hb => Step.out ?_)
      | with_reducible trivial
      | exact noSh_bool _
      | exact noSh_lit _
      | exact noSh_int _ _
      | exact noSh_str _
      | with_reducible rfl
      | with_reducible exact same_rfl
      | (refine Wr.i64 ?_ ?_; omega)
      | (refine Wr.u8 ?_ ?_; omega)
      | (refine Wr.i32 ?_ ?_; omega)
      | (with_reducible refine Br.tt ?_)
      | (with_reducible refine Br.ff ?_)
      | (refine Br.dT ?_ ?_; omega)
      | (refine Br.dF ?_ ?_; omega)
      | (refine Br.d (fun h => ?_) (fun h => ?_))
      | (refine Br.swap ?_)
      | (refine Br.bnot ?_)
      | (refine Br.mk (fun h => Step.out ?_) (fun h => Step.out ?_))
      | (refine Two.mk (Step.out ?_) (Step.out ?_))
      | (refine CallOK.of_ct (Step.out ?_))
      | (refine Met.by (g := 78) (rnumber_ct _) ?_; rintro q outs ⟨rfl, rfl⟩)
      | (refine Vc.mk ?_ (Step.out ?_))
    all_goals try simp only [Int.toNat_natCast] at *
    · refine Again.by (i + 1) ⟨by omega, by omega⟩ ?_
      rw [numbers_step (by omega), others_step (by omega), if_pos ‹_›, if_pos ‹_›, List.append_nil]
      repeat' first
        | (refine Step.mk ?_; conv => whnf)
        | (refine Vc.om ?_ ?_; first | omega | with_reducible rfl | with_reducible exact same_rfl | (simp only [bytes_2, bytes_3, bytes_4, bytes_5, bytes_9, bytes_12, bytes_21, bytes_22, bytes_25, bytes_27, bytes_28, bytes_29, bytes_30, bytes_34, bytes_45, bytes_49, bytes_50, bytes_51, bytes_52, bytes_53, bytes_54, bytes_64, bytes_67, bytes_68, bytes_73, bytes_75, bytes_76, bytes_77, bytes_92, bytes_93, bytes_94, bytes_95, bytes_98, bytes_102, bytes_112, bytes_123, bytes_129]; omega))
        | (refine NilB.mk fun b hb => Step.out ?_)
        | with_reducible trivial
        | exact noSh_bool _
        | exact noSh_lit _
        | exact noSh_int _ _
        | exact noSh_str _
        | with_reducible rfl
        | with_reducible exact same_rfl
        | (refine Wr.i64 ?_ ?_; omega)
        | (refine Wr.u8 ?_ ?_; omega)
        | (refine Wr.i32 ?_ ?_; omega)
        | (with_reducible refine Br.tt ?_)
        | (with_reducible refine Br.ff ?_)
        | (refine Br.dT ?_ ?_; omega)
        | (refine Br.dF ?_ ?_; omega)
        | (exact str_app _ _ rfl)
        | (refine Br.d (fun h => ?_) (fun h => ?_))
        | (refine Br.swap ?_)
        | (refine Br.bnot ?_)
        | (refine Br.mk (fun h => Step.out ?_) (fun h => Step.out ?_))
        | (refine Two.mk (Step.out ?_) (Step.out ?_))
        | (refine CallOK.of_ct (Step.out ?_))
        | (refine Met.by (g := 78) (rnumber_ct _) ?_; rintro q outs ⟨rfl, rfl⟩)
        | (refine Vc.mk ?_ (Step.out ?_))
    · have hn : ¬num (l.getD i []) = true := by rw [‹num _ = false›]; simp
      refine Again.by (i + 1) ⟨by omega, by omega⟩ ?_
      rw [numbers_step (by omega), others_step (by omega), if_neg hn, if_neg hn, List.append_nil]
      repeat' first
        | (refine Step.mk ?_; conv => whnf)
        | (refine Vc.om ?_ ?_; first | omega | with_reducible rfl | with_reducible exact same_rfl | (simp only [bytes_2, bytes_3, bytes_4, bytes_5, bytes_9, bytes_12, bytes_21, bytes_22, bytes_25, bytes_27, bytes_28, bytes_29, bytes_30, bytes_34, bytes_45, bytes_49, bytes_50, bytes_51, bytes_52, bytes_53, bytes_54, bytes_64, bytes_67, bytes_68, bytes_73, bytes_75, bytes_76, bytes_77, bytes_92, bytes_93, bytes_94, bytes_95, bytes_98, bytes_102, bytes_112, bytes_123, bytes_129]; omega))
        | (refine NilB.mk fun b hb => Step.out ?_)
        | with_reducible trivial
        | exact noSh_bool _
        | exact noSh_lit _
        | exact noSh_int _ _
        | exact noSh_str _
        | with_reducible rfl
        | with_reducible exact same_rfl
        | (refine Wr.i64 ?_ ?_; omega)
        | (refine Wr.u8 ?_ ?_; omega)
        | (refine Wr.i32 ?_ ?_; omega)
        | (with_reducible refine Br.tt ?_)
        | (with_reducible refine Br.ff ?_)
        | (refine Br.dT ?_ ?_; omega)
        | (refine Br.dF ?_ ?_; omega)
        | (exact str_app _ _ rfl)
        | (refine Br.d (fun h => ?_) (fun h => ?_))
        | (refine Br.swap ?_)
        | (refine Br.bnot ?_)
        | (refine Br.mk (fun h => Step.out ?_) (fun h => Step.out ?_))
        | (refine Two.mk (Step.out ?_) (Step.out ?_))
        | (refine CallOK.of_ct (Step.out ?_))
        | (refine Met.by (g := 78) (rnumber_ct _) ?_; rintro q outs ⟨rfl, rfl⟩)
        | (refine Vc.mk ?_ (Step.out ?_))
    all_goals exact ⟨by rw [show i = l.length by omega, List.take_length], fun j _ => by rw [show i = l.length by omega, List.take_length]⟩
theorem toks_len (s : Str) : (toks s).length ≤ 1 + s.length := toks_count s []
theorem others_len (l : List Str) : (others l).length ≤ l.length := List.length_filter_le _ _
theorem numbers_len (l : List Str) : (numbers l).length ≤ l.length := List.length_filter_le _ _
theorem toks_mem_len (s : Str) : ∀ t ∈ toks s, t.length ≤ s.length := fun t ht => by
  have := (join_toksF s [] []).2 rfl
  have h2 := join_mem_len (show t ∈ toksF [] s from ht)
  simp at this; omega
theorem street_len {s : Str} (hs : s.length ≤ 10000) : (streetS s).length ≤ 1000000000 := by
  have h1 := toks_len s
  have h2 := others_len (toks s)
  have h4 := join_bd2 s.length (others (toks s)) fun t ht => toks_mem_len s t (List.mem_filter.1 ht |>.1)
  refine Nat.le_trans h4 ?_
  calc (s.length + 1) * (others (toks s)).length ≤ 10001 * 10001 := Nat.mul_le_mul (by omega) (by omega)
    _ ≤ 1000000000 := by decide
theorem number_e {s : Str} (h : ((numbers (toks s)).length : Int) = 0) : numberS s = [] := by
  have : numbers (toks s) = [] := List.length_eq_zero_iff.1 (by omega)
  rw [numberS, this]; rfl
theorem number_ct (s : Str) (hs : s.length ≤ 10000) : Ct Tryd.prog 16 [.str s] fun r outs => r = .str (numberS s) ∧ outs = [] := by
  have h1 := toks_len s
  have h2 := numbers_len (toks s)
  refine .det (.of_W (fn := Tryd.f16) hΓ hm Tryd.func16 [] [] (by kernel_rfl) (Step.out ?_))
  repeat' first
    | (refine Step.mk ?_; conv => whnf)
    | (refine Vc.om ?_ ?_; first | omega | with_reducible rfl | with_reducible exact same_rfl | (simp only [bytes_2, bytes_3, bytes_4, bytes_5, bytes_9, bytes_12, bytes_21, bytes_22, bytes_25, bytes_27, bytes_28, bytes_29, bytes_30, bytes_34, bytes_45, bytes_49, bytes_50, bytes_51, bytes_52, bytes_53, bytes_54, bytes_64, bytes_67, bytes_68, bytes_73, bytes_75, bytes_76, bytes_77, bytes_92, bytes_93, bytes_94, bytes_95, bytes_98, bytes_102, bytes_112, bytes_123, bytes_129]; omega))
    | (refine NilB.mk fun b hb => Step.out ?_)
    | with_reducible trivial
    | exact noSh_bool _
    | exact noSh_lit _
    | exact noSh_int _ _
    | exact noSh_str _
    | with_reducible rfl
    | with_reducible exact same_rfl
    | (refine Wr.i64 ?_ ?_; omega)
    | (refine Wr.u8 ?_ ?_; omega)
    | (refine Wr.i32 ?_ ?_; omega)
    | (with_reducible refine Br.tt ?_)
    | (with_reducible refine Br.ff ?_)
    | (refine Br.dT ?_ ?_; omega)
    | (refine Br.dF ?_ ?_; omega)
    | (exact noSh_two _ _ _)
    | (refine Br.d (fun h => ?_) (fun h => ?_))
    | (refine Br.swap ?_)
    | (refine Br.bnot ?_)
    | (refine Br.mk (fun h => Step.out ?_) (fun h => Step.out ?_))
    | (refine Two.mk (Step.out ?_) (Step.out ?_))
    | (refine CallOK.of_ct (Step.out ?_))
    | (refine Met.by (g := 38) (tokens_ct _ (by first | omega | decide | (simp; done) | (simp; omega))) ?_; rintro q outs ⟨rfl, rfl⟩)
    | (refine Met.by (g := 41) (numeral_ct _) ?_; rintro q outs ⟨rfl, rfl⟩)
    | (refine Met.by (g := 43) (part_ct _ (by first | omega | decide | (simp; done) | (simp; omega))) ?_; rintro q outs ⟨rfl, rfl⟩)
    | (refine Vc.mk ?_ (Step.out ?_))
  rw [number_e ‹_›]; rfl
theorem rnumber2_ct (s : Str) (hs : s.length ≤ 10000) : Ct Tryd.prog 32 [.str s] fun r outs => r = .str (numberS s) ∧ outs = [] := by
  have h1 := toks_len s
  have h2 := numbers_len (toks s)
  refine .det (.of_W (fn := Tryd.f32) hΓ hm Tryd.func32 [] [] (by kernel_rfl) (Step.out ?_))
  repeat' first
    | (refine Step.mk ?_; conv => whnf)
    | (refine Vc.om ?_ ?_; first | omega | with_reducible rfl | with_reducible exact same_rfl | (simp only [bytes_2, bytes_3, bytes_4, bytes_5, bytes_9, bytes_12, bytes_21, bytes_22, bytes_25, bytes_27, bytes_28, bytes_29, bytes_30, bytes_34, bytes_45, bytes_49, bytes_50, bytes_51, bytes_52, bytes_53, bytes_54, bytes_64, bytes_67, bytes_68, bytes_73, bytes_75, bytes_76, bytes_77, bytes_92, bytes_93, bytes_94, bytes_95, bytes_98, bytes_102, bytes_112, bytes_123, bytes_129]; omega))
    | (refine NilB.mk fun b hb => Step.out ?_)
    | with_reducible trivial
    | exact noSh_bool _
    | exact noSh_lit _
    | exact noSh_int _ _
    | exact noSh_str _
    | with_reducible rfl
    | with_reducible exact same_rfl
    | (refine Wr.i64 ?_ ?_; omega)
    | (refine Wr.u8 ?_ ?_; omega)
    | (refine Wr.i32 ?_ ?_; omega)
    | (with_reducible refine Br.tt ?_)
    | (with_reducible refine Br.ff ?_)
    | (refine Br.dT ?_ ?_; omega)
    | (refine Br.dF ?_ ?_; omega)
    | (exact noSh_two _ _ _)
    | (refine Br.d (fun h => ?_) (fun h => ?_))
    | (refine Br.swap ?_)
    | (refine Br.bnot ?_)
    | (refine Br.mk (fun h => Step.out ?_) (fun h => Step.out ?_))
    | (refine Two.mk (Step.out ?_) (Step.out ?_))
    | (refine CallOK.of_ct (Step.out ?_))
    | (refine Met.by (g := 51) (rparts_ct _ (by first | omega | decide | (simp; done) | (simp; omega))) ?_; rintro q outs ⟨rfl, rfl⟩)
    | (refine Met.by (g := 52) (rtokens_ct _ (by first | omega | decide | (simp; done) | (simp; omega))) ?_; rintro q outs ⟨rfl, rfl⟩)
    | (refine Vc.mk ?_ (Step.out ?_))
  rw [number_e ‹_›]; rfl
theorem street_ct (s : Str) (hs : s.length ≤ 10000) : Ct Tryd.prog 17 [.str s] fun r outs => r = .str (streetS s) ∧ outs = [] := by
  have h1 := toks_len s
  have h2 := others_len (toks s)
  have h3 := street_len hs
  refine .det (.of_W (fn := Tryd.f17) hΓ hm Tryd.func17 [] [] (by kernel_rfl) (Step.out ?_))
  repeat' first
    | (refine Step.mk ?_; conv => whnf)
    | (refine Vc.om ?_ ?_; first | omega | with_reducible rfl | with_reducible exact same_rfl | (simp only [bytes_2, bytes_3, bytes_4, bytes_5, bytes_9, bytes_12, bytes_21, bytes_22, bytes_25, bytes_27, bytes_28, bytes_29, bytes_30, bytes_34, bytes_45, bytes_49, bytes_50, bytes_51, bytes_52, bytes_53, bytes_54, bytes_64, bytes_67, bytes_68, bytes_73, bytes_75, bytes_76, bytes_77, bytes_92, bytes_93, bytes_94, bytes_95, bytes_98, bytes_102, bytes_112, bytes_123, bytes_129]; omega))
    | (refine NilB.mk fun b hb => Step.out ?_)
    | with_reducible trivial
    | exact noSh_bool _
    | exact noSh_lit _
    | exact noSh_int _ _
    | exact noSh_str _
    | with_reducible rfl
    | with_reducible exact same_rfl
    | (refine Wr.i64 ?_ ?_; omega)
    | (refine Wr.u8 ?_ ?_; omega)
    | (refine Wr.i32 ?_ ?_; omega)
    | (with_reducible refine Br.tt ?_)
    | (with_reducible refine Br.ff ?_)
    | (refine Br.dT ?_ ?_; omega)
    | (refine Br.dF ?_ ?_; omega)
    | (refine Met.by (join1_ct (others (toks s)) (by omega) h3) ?_; rintro q outs ⟨rfl, rfl⟩)
    | (exact noSh_two _ _ _)
    | (refine Br.d (fun h => ?_) (fun h => ?_))
    | (refine Br.swap ?_)
    | (refine Br.bnot ?_)
    | (refine Br.mk (fun h => Step.out ?_) (fun h => Step.out ?_))
    | (refine Two.mk (Step.out ?_) (Step.out ?_))
    | (refine CallOK.of_ct (Step.out ?_))
    | (refine Met.by (g := 38) (tokens_ct _ (by first | omega | decide | (simp; done) | (simp; omega))) ?_; rintro q outs ⟨rfl, rfl⟩)
    | (refine Met.by (g := 41) (numeral_ct _) ?_; rintro q outs ⟨rfl, rfl⟩)
    | (refine Met.by (g := 43) (part_ct _ (by first | omega | decide | (simp; done) | (simp; omega))) ?_; rintro q outs ⟨rfl, rfl⟩)
    | (refine Vc.mk ?_ (Step.out ?_))
  rfl
theorem rstreet_ct (s : Str) (hs : s.length ≤ 10000) : Ct Tryd.prog 33 [.str s] fun r outs => r = .str (streetS s) ∧ outs = [] := by
  have h1 := toks_len s
  have h2 := others_len (toks s)
  have h3 := street_len hs
  refine .det (.of_W (fn := Tryd.f33) hΓ hm Tryd.func33 [] [] (by kernel_rfl) (Step.out ?_))
  repeat' first
    | (refine Step.mk ?_; conv => whnf)
    | (refine Vc.om ?_ ?_; first | omega | with_reducible rfl | with_reducible exact same_rfl | (simp only [bytes_2, bytes_3, bytes_4, bytes_5, bytes_9, bytes_12, bytes_21, bytes_22, bytes_25, bytes_27, bytes_28, bytes_29, bytes_30, bytes_34, bytes_45, bytes_49, bytes_50, bytes_51, bytes_52, bytes_53, bytes_54, bytes_64, bytes_67, bytes_68, bytes_73, bytes_75, bytes_76, bytes_77, bytes_92, bytes_93, bytes_94, bytes_95, bytes_98, bytes_102, bytes_112, bytes_123, bytes_129]; omega))
    | (refine NilB.mk fun b hb => Step.out ?_)
    | with_reducible trivial
    | exact noSh_bool _
    | exact noSh_lit _
    | exact noSh_int _ _
    | exact noSh_str _
    | with_reducible rfl
    | with_reducible exact same_rfl
    | (refine Wr.i64 ?_ ?_; omega)
    | (refine Wr.u8 ?_ ?_; omega)
    | (refine Wr.i32 ?_ ?_; omega)
    | (with_reducible refine Br.tt ?_)
    | (with_reducible refine Br.ff ?_)
    | (refine Br.dT ?_ ?_; omega)
    | (refine Br.dF ?_ ?_; omega)
    | (refine Met.by (rjoin_ct (others (toks s)) (by omega) h3) ?_; rintro q outs ⟨rfl, rfl⟩)
    | (exact noSh_two _ _ _)
    | (refine Br.d (fun h => ?_) (fun h => ?_))
    | (refine Br.swap ?_)
    | (refine Br.bnot ?_)
    | (refine Br.mk (fun h => Step.out ?_) (fun h => Step.out ?_))
    | (refine Two.mk (Step.out ?_) (Step.out ?_))
    | (refine CallOK.of_ct (Step.out ?_))
    | (refine Met.by (g := 51) (rparts_ct _ (by first | omega | decide | (simp; done) | (simp; omega))) ?_; rintro q outs ⟨rfl, rfl⟩)
    | (refine Met.by (g := 52) (rtokens_ct _ (by first | omega | decide | (simp; done) | (simp; omega))) ?_; rintro q outs ⟨rfl, rfl⟩)
    | (refine Met.by (g := 54) (rjoin_ct _ (by first | omega | decide | (simp; done) | (simp; omega)) (by first | omega | decide | (simp; done) | (simp; omega))) ?_; rintro q outs ⟨rfl, rfl⟩)
    | (refine Vc.mk ?_ (Step.out ?_))
  rfl
theorem code_join_len {s : Str} (hs : s.length ≤ 10000) : (joinS [] (toks (foldO s))).length ≤ 1000000000 := by
  rw [code_join]; have := code_len s; omega
theorem code_ct (s : Str) (hs : s.length ≤ 10000) : Ct Tryd.prog 20 [.str s] fun r outs => r = .tup [.str (codeO s), i64 (codeE s)] ∧ outs = [] := by
  have hfo := foldO_le s
  have h1 := toks_len (foldO s)
  have h3 := code_join_len hs
  refine .det (.of_W (fn := Tryd.f20) hΓ hm Tryd.func20 [] [] (by kernel_rfl) (Step.out ?_))
  repeat' first
    | (refine Step.mk ?_; conv => whnf)
    | (refine Vc.om ?_ ?_; first | omega | with_reducible rfl | with_reducible exact same_rfl | (simp only [bytes_2, bytes_3, bytes_4, bytes_5, bytes_9, bytes_12, bytes_21, bytes_22, bytes_25, bytes_27, bytes_28, bytes_29, bytes_30, bytes_34, bytes_45, bytes_49, bytes_50, bytes_51, bytes_52, bytes_53, bytes_54, bytes_64, bytes_67, bytes_68, bytes_73, bytes_75, bytes_76, bytes_77, bytes_92, bytes_93, bytes_94, bytes_95, bytes_98, bytes_102, bytes_112, bytes_123, bytes_129]; omega))
    | (refine NilB.mk fun b hb => Step.out ?_)
    | with_reducible trivial
    | exact noSh_bool _
    | exact noSh_lit _
    | exact noSh_int _ _
    | exact noSh_str _
    | with_reducible rfl
    | with_reducible exact same_rfl
    | (refine Wr.i64 ?_ ?_; omega)
    | (refine Wr.u8 ?_ ?_; omega)
    | (refine Wr.i32 ?_ ?_; omega)
    | (with_reducible refine Br.tt ?_)
    | (with_reducible refine Br.ff ?_)
    | (refine Br.dT ?_ ?_; omega)
    | (refine Br.dF ?_ ?_; omega)
    | (refine Met.by (sjoin_ct (toks (foldO s)) [] (by omega) h3) ?_; rintro q outs ⟨rfl, rfl⟩)
    | (refine Br.d (fun h => ?_) (fun h => ?_))
    | (refine Br.swap ?_)
    | (refine Br.bnot ?_)
    | (refine Br.mk (fun h => Step.out ?_) (fun h => Step.out ?_))
    | (refine Two.mk (Step.out ?_) (Step.out ?_))
    | (refine CallOK.of_ct (Step.out ?_))
    | (refine Met.by (g := 37) (fold_ct _ (by first | omega | decide | (simp; done) | (simp; omega))) ?_; rintro q outs ⟨rfl, rfl⟩)
    | (refine Met.by (g := 38) (tokens_ct _ (by first | omega | decide | (simp; done) | (simp; omega))) ?_; rintro q outs ⟨rfl, rfl⟩)
    | (refine Vc.mk ?_ (Step.out ?_))
  all_goals try rw [code_join] at *
  all_goals first
    | exact (codeE_big ‹foldE s = 0› ‹_›).1
    | exact (codeE_big ‹foldE s = 0› ‹_›).2
    | exact (codeE_ok ‹foldE s = 0› ‹_›).1
    | exact (codeE_ok ‹foldE s = 0› ‹_›).2
    | exact (codeE_f ‹¬foldE s = 0›).1
    | exact (codeE_f ‹¬foldE s = 0›).2
theorem code_step {s : Str} {i : Nat} (h : i < s.length) : (s.take (i + 1)).filter notSp = (s.take i).filter notSp ++ if notSp (s.getD i 0) = true then [s.getD i 0] else [] := filter_step notSp s 0 i h
theorem take_le {s : Str} (i : Nat) : ((s.take i).filter notSp).length ≤ s.length := Nat.le_trans (List.length_filter_le _ _) (by rw [List.length_take]; omega)
theorem cut1 {s : Str} {i : Nat} (h : i < s.length) : List.drop ((i : Int)).toNat (List.take ((i : Int) + 1).toNat s) = [s.getD i 0] := by
  rw [Int.toNat_natCast, show ((i : Int) + 1).toNat = i + 1 by omega, cut_step s 0 i h]
theorem rcode_ct (s : Str) (hs : s.length ≤ 10000) : Ct Tryd.prog 29 [.str s] fun r outs => r = .tup [.str (codeO s), i64 (codeE s)] ∧ outs = [] := by
  have hfo := foldO_le s
  refine .det (.of_W (fn := Tryd.f29) hΓ hm Tryd.func29 [] [] (by kernel_rfl) (Step.out ?_))
  repeat' first
    | (refine Step.mk ?_; conv => whnf)
    | (refine Vc.om ?_ ?_; first | omega | with_reducible rfl | with_reducible exact same_rfl | (simp only [bytes_2, bytes_3, bytes_4, bytes_5, bytes_9, bytes_12, bytes_21, bytes_22, bytes_25, bytes_27, bytes_28, bytes_29, bytes_30, bytes_34, bytes_45, bytes_49, bytes_50, bytes_51, bytes_52, bytes_53, bytes_54, bytes_64, bytes_67, bytes_68, bytes_73, bytes_75, bytes_76, bytes_77, bytes_92, bytes_93, bytes_94, bytes_95, bytes_98, bytes_102, bytes_112, bytes_123, bytes_129]; omega))
    | (refine NilB.mk fun b hb => Step.out ?_)
    | with_reducible trivial
    | exact noSh_bool _
    | exact noSh_lit _
    | exact noSh_int _ _
    | exact noSh_str _
    | with_reducible rfl
    | with_reducible exact same_rfl
    | (refine Wr.i64 ?_ ?_; omega)
    | (refine Wr.u8 ?_ ?_; omega)
    | (refine Wr.i32 ?_ ?_; omega)
    | (with_reducible refine Br.tt ?_)
    | (with_reducible refine Br.ff ?_)
    | (refine Br.dT ?_ ?_; omega)
    | (refine Br.dF ?_ ?_; omega)
    | (refine Br.d (fun h => ?_) (fun h => ?_))
    | (refine Br.swap ?_)
    | (refine Br.bnot ?_)
    | (refine Br.mk (fun h => Step.out ?_) (fun h => Step.out ?_))
    | (refine Two.mk (Step.out ?_) (Step.out ?_))
    | (refine CallOK.of_ct (Step.out ?_))
    | (refine Met.by (g := 50) (rfold_ct _ (by first | omega | decide | (simp; done) | (simp; omega))) ?_; rintro q outs ⟨rfl, rfl⟩)
    | (refine Vc.mk ?_ (Step.out ?_))
  · refine CodeOK.loopW hΓ hm [] [] (by kernel_rfl) (α := Nat) (fun i => [(4, .str (foldO s)), (6, .str (((foldO s).take i).filter notSp)), (7, i64 i)]) (fun i => []) 0 (fun i => i ≤ (foldO s).length) (fun i => (foldO s).length - i) ?_ ?_
    · refine Again.by 0 (Nat.zero_le _) ?_
      repeat' first
        | (refine Step.mk ?_; conv => whnf)
        | (refine Vc.om ?_ ?_; first | omega | with_reducible rfl | with_reducible exact same_rfl | (simp only [bytes_2, bytes_3, bytes_4, bytes_5, bytes_9, bytes_12, bytes_21, bytes_22, bytes_25, bytes_27, bytes_28, bytes_29, bytes_30, bytes_34, bytes_45, bytes_49, bytes_50, bytes_51, bytes_52, bytes_53, bytes_54, bytes_64, bytes_67, bytes_68, bytes_73, bytes_75, bytes_76, bytes_77, bytes_92, bytes_93, bytes_94, bytes_95, bytes_98, bytes_102, bytes_112, bytes_123, bytes_129]; omega))
        | (refine NilB.mk fun b hb => Step.out ?_)
        | with_reducible trivial
        | exact noSh_bool _
        | exact noSh_lit _
        | exact noSh_int _ _
        | exact noSh_str _
        | with_reducible rfl
        | with_reducible exact same_rfl
        | (refine Wr.i64 ?_ ?_; omega)
        | (refine Wr.u8 ?_ ?_; omega)
        | (refine Wr.i32 ?_ ?_; omega)
        | (with_reducible refine Br.tt ?_)
        | (with_reducible refine Br.ff ?_)
        | (refine Br.dT ?_ ?_; omega)
        | (refine Br.dF ?_ ?_; omega)
        | (rfl)
        | (refine Br.d (fun h => ?_) (fun h => ?_))
        | (refine Br.swap ?_)
        | (refine Br.bnot ?_)
        | (refine Br.mk (fun h => Step.out ?_) (fun h => Step.out ?_))
        | (refine Two.mk (Step.out ?_) (Step.out ?_))
        | (refine CallOK.of_ct (Step.out ?_))
        | (refine Met.by (g := 50) (rfold_ct _ (by first | omega | decide | (simp; done) | (simp; omega))) ?_; rintro q outs ⟨rfl, rfl⟩)
        | (refine Vc.mk ?_ (Step.out ?_))
    · intro i hi
      have hle := take_le (s := foldO s) i
      repeat' first
        | (refine Step.mk ?_; conv => whnf)
        | (refine Vc.om ?_ ?_; first | omega | with_reducible rfl | with_reducible exact same_rfl | (simp only [bytes_2, bytes_3, bytes_4, bytes_5, bytes_9, bytes_12, bytes_21, bytes_22, bytes_25, bytes_27, bytes_28, bytes_29, bytes_30, bytes_34, bytes_45, bytes_49, bytes_50, bytes_51, bytes_52, bytes_53, bytes_54, bytes_64, bytes_67, bytes_68, bytes_73, bytes_75, bytes_76, bytes_77, bytes_92, bytes_93, bytes_94, bytes_95, bytes_98, bytes_102, bytes_112, bytes_123, bytes_129]; omega))
        | (refine NilB.mk fun b hb => Step.out ?_)
        | with_reducible trivial
        | exact noSh_bool _
        | exact noSh_lit _
        | exact noSh_int _ _
        | exact noSh_str _
        | with_reducible rfl
        | with_reducible exact same_rfl
        | (refine Wr.i64 ?_ ?_; omega)
        | (refine Wr.u8 ?_ ?_; omega)
        | (refine Wr.i32 ?_ ?_; omega)
        | (with_reducible refine Br.tt ?_)
        | (with_reducible refine Br.ff ?_)
        | (refine Br.dT ?_ ?_; omega)
        | (refine Br.dF ?_ ?_; omega)
        | (refine Vc.om ?_ ?_; focus ((rw [cut1 (by omega)]; simp only [List.length_cons, List.length_nil]; omega); done))
        | (refine Wr.i64 ?_ ?_; focus ((rw [cut1 (by omega)]; simp only [List.length_cons, List.length_nil]; omega); done))
        | (refine Wr.u8 ?_ ?_; focus ((rw [cut1 (by omega)]; simp only [List.length_cons, List.length_nil]; omega); done))
        | (refine Br.dT ?_ ?_; focus ((rw [cut1 (by omega)]; simp only [List.length_cons, List.length_nil]; omega); done))
        | (refine Br.dF ?_ ?_; focus ((rw [cut1 (by omega)]; simp only [List.length_cons, List.length_nil]; omega); done))
        | (refine Br.d (fun h => ?_) (fun h => ?_))
        | (refine Br.swap ?_)
        | (refine Br.bnot ?_)
        | (refine Br.mk (fun h => Step.out ?_) (fun h => Step.out ?_))
        | (refine Two.mk (Step.out ?_) (Step.out ?_))
        | (refine CallOK.of_ct (Step.out ?_))
        | (refine Met.by (g := 50) (rfold_ct _ (by first | omega | decide | (simp; done) | (simp; omega))) ?_; rintro q outs ⟨rfl, rfl⟩)
        | (refine Vc.mk ?_ (Step.out ?_))
      · refine Again.by (i + 1) ⟨by omega, by omega⟩ ?_
        have : notSp ((foldO s).getD i 0) = false := by
          have h2 : (((foldO s).getD i 0).toNat : Int) = 32 := by simpa only [Int.toNat_natCast] using h
          have : (foldO s).getD i 0 = 32 := UInt8.toNat_inj.1 (by show _ = 32; omega)
          rw [notSp, this]; rfl
        rw [code_step (by omega), if_neg (by rw [this]; simp), List.append_nil]
        repeat' first
          | (refine Step.mk ?_; conv => whnf)
          | (refine Vc.om ?_ ?_; first | omega | with_reducible rfl | with_reducible exact same_rfl | (simp only [bytes_2, bytes_3, bytes_4, bytes_5, bytes_9, bytes_12, bytes_21, bytes_22, bytes_25, bytes_27, bytes_28, bytes_29, bytes_30, bytes_34, bytes_45, bytes_49, bytes_50, bytes_51, bytes_52, bytes_53, bytes_54, bytes_64, bytes_67, bytes_68, bytes_73, bytes_75, bytes_76, bytes_77, bytes_92, bytes_93, bytes_94, bytes_95, bytes_98, bytes_102, bytes_112, bytes_123, bytes_129]; omega))
          | (refine NilB.mk fun b hb => Step.out ?_)
          | with_reducible trivial
          | exact noSh_bool _
          | exact noSh_lit _
          | exact noSh_int _ _
          | exact noSh_str _
          | with_reducible rfl
          | with_reducible exact same_rfl
          | (refine Wr.i64 ?_ ?_; omega)
          | (refine Wr.u8 ?_ ?_; omega)
          | (refine Wr.i32 ?_ ?_; omega)
          | (with_reducible refine Br.tt ?_)
          | (with_reducible refine Br.ff ?_)
          | (refine Br.dT ?_ ?_; omega)
          | (refine Br.dF ?_ ?_; omega)
          | (refine Br.d (fun h => ?_) (fun h => ?_))
          | (refine Br.swap ?_)
          | (refine Br.bnot ?_)
          | (refine Br.mk (fun h => Step.out ?_) (fun h => Step.out ?_))
          | (refine Two.mk (Step.out ?_) (Step.out ?_))
          | (refine CallOK.of_ct (Step.out ?_))
          | (refine Met.by (g := 50) (rfold_ct _ (by first | omega | decide | (simp; done) | (simp; omega))) ?_; rintro q outs ⟨rfl, rfl⟩)
          | (refine Vc.mk ?_ (Step.out ?_))
      · refine Again.by (i + 1) ⟨by omega, by omega⟩ ?_
        have : notSp ((foldO s).getD i 0) = true := by
          have h2 : ¬(((foldO s).getD i 0).toNat : Int) = 32 := by simpa only [Int.toNat_natCast] using h
          have : ¬(foldO s).getD i 0 = 32 := fun e => h2 (by rw [e]; rfl)
          rw [notSp, decide_eq_false this]; rfl
        rw [code_step (by omega), if_pos this]
        repeat' first
          | (refine Step.mk ?_; conv => whnf)
          | (refine Vc.om ?_ ?_; first | omega | with_reducible rfl | with_reducible exact same_rfl | (simp only [bytes_2, bytes_3, bytes_4, bytes_5, bytes_9, bytes_12, bytes_21, bytes_22, bytes_25, bytes_27, bytes_28, bytes_29, bytes_30, bytes_34, bytes_45, bytes_49, bytes_50, bytes_51, bytes_52, bytes_53, bytes_54, bytes_64, bytes_67, bytes_68, bytes_73, bytes_75, bytes_76, bytes_77, bytes_92, bytes_93, bytes_94, bytes_95, bytes_98, bytes_102, bytes_112, bytes_123, bytes_129]; omega))
          | (refine NilB.mk fun b hb => Step.out ?_)
          | with_reducible trivial
          | exact noSh_bool _
          | exact noSh_lit _
          | exact noSh_int _ _
          | exact noSh_str _
          | with_reducible rfl
          | with_reducible exact same_rfl
          | (refine Wr.i64 ?_ ?_; omega)
          | (refine Wr.u8 ?_ ?_; omega)
          | (refine Wr.i32 ?_ ?_; omega)
          | (with_reducible refine Br.tt ?_)
          | (with_reducible refine Br.ff ?_)
          | (refine Br.dT ?_ ?_; omega)
          | (refine Br.dF ?_ ?_; omega)
          | (rw [cut1 (by omega)])
          | (refine Br.d (fun h => ?_) (fun h => ?_))
          | (refine Br.swap ?_)
          | (refine Br.bnot ?_)
          | (refine Br.mk (fun h => Step.out ?_) (fun h => Step.out ?_))
          | (refine Two.mk (Step.out ?_) (Step.out ?_))
          | (refine CallOK.of_ct (Step.out ?_))
          | (refine Met.by (g := 50) (rfold_ct _ (by first | omega | decide | (simp; done) | (simp; omega))) ?_; rintro q outs ⟨rfl, rfl⟩)
          | (refine Vc.mk ?_ (Step.out ?_))
      all_goals rw [show ((foldO s).take i).filter notSp = codeT s by rw [show i = (foldO s).length by omega, List.take_length]; rfl] at *
      all_goals first
        | exact (codeE_big ‹foldE s = 0› ‹_›).1
        | exact (codeE_big ‹foldE s = 0› ‹_›).2
        | exact (codeE_ok ‹foldE s = 0› ‹_›).1
        | exact (codeE_ok ‹foldE s = 0› ‹_›).2
        | exact (codeE_f ‹¬foldE s = 0›).1
        | exact (codeE_f ‹¬foldE s = 0›).2
  all_goals first
    | exact (codeE_big ‹foldE s = 0› ‹_›).1
    | exact (codeE_big ‹foldE s = 0› ‹_›).2
    | exact (codeE_ok ‹foldE s = 0› ‹_›).1
    | exact (codeE_ok ‹foldE s = 0› ‹_›).2
    | exact (codeE_f ‹¬foldE s = 0›).1
    | exact (codeE_f ‹¬foldE s = 0›).2
theorem normed_ct (s : Str) (hs : s.length ≤ 10000) : Ct Tryd.prog 30 [.str s] fun r outs => r = .bool (codeB s) ∧ outs = [] := by
  refine .det (.of_W (fn := Tryd.f30) hΓ hm Tryd.func30 [] [] (by kernel_rfl) (Step.out ?_))
  repeat' first
    | (refine Step.mk ?_; conv => whnf)
    | (refine Vc.om ?_ ?_; first | omega | with_reducible rfl | with_reducible exact same_rfl | (simp only [bytes_2, bytes_3, bytes_4, bytes_5, bytes_9, bytes_12, bytes_21, bytes_22, bytes_25, bytes_27, bytes_28, bytes_29, bytes_30, bytes_34, bytes_45, bytes_49, bytes_50, bytes_51, bytes_52, bytes_53, bytes_54, bytes_64, bytes_67, bytes_68, bytes_73, bytes_75, bytes_76, bytes_77, bytes_92, bytes_93, bytes_94, bytes_95, bytes_98, bytes_102, bytes_112, bytes_123, bytes_129]; omega))
    | (refine NilB.mk fun b hb => Step.out ?_)
    | with_reducible trivial
    | exact noSh_bool _
    | exact noSh_lit _
    | exact noSh_int _ _
    | exact noSh_str _
    | with_reducible rfl
    | with_reducible exact same_rfl
    | (refine Wr.i64 ?_ ?_; omega)
    | (refine Wr.u8 ?_ ?_; omega)
    | (refine Wr.i32 ?_ ?_; omega)
    | (with_reducible refine Br.tt ?_)
    | (with_reducible refine Br.ff ?_)
    | (refine Br.dT ?_ ?_; omega)
    | (refine Br.dF ?_ ?_; omega)
    | (refine Br.d (fun h => ?_) (fun h => ?_))
    | (refine Br.swap ?_)
    | (refine Br.bnot ?_)
    | (refine Br.mk (fun h => Step.out ?_) (fun h => Step.out ?_))
    | (refine Two.mk (Step.out ?_) (Step.out ?_))
    | (refine CallOK.of_ct (Step.out ?_))
    | (refine Met.by (g := 20) (code_ct _ (by first | omega | decide | (simp; done) | (simp; omega))) ?_; rintro q outs ⟨rfl, rfl⟩)
    | (refine Vc.mk ?_ (Step.out ?_))
  · rw [codeB, decide_eq_true ‹codeE s = 0›, Bool.true_and]
  · rw [codeB, decide_eq_false ‹¬codeE s = 0›, Bool.false_and]
theorem rnormed_ct (s : Str) (hs : s.length ≤ 10000) : Ct Tryd.prog 31 [.str s] fun r outs => r = .bool (codeB s) ∧ outs = [] := by
  refine .det (.of_W (fn := Tryd.f31) hΓ hm Tryd.func31 [] [] (by kernel_rfl) (Step.out ?_))
  repeat' first
    | (refine Step.mk ?_; conv => whnf)
    | (refine Vc.om ?_ ?_; first | omega | with_reducible rfl | with_reducible exact same_rfl | (simp only [bytes_2, bytes_3, bytes_4, bytes_5, bytes_9, bytes_12, bytes_21, bytes_22, bytes_25, bytes_27, bytes_28, bytes_29, bytes_30, bytes_34, bytes_45, bytes_49, bytes_50, bytes_51, bytes_52, bytes_53, bytes_54, bytes_64, bytes_67, bytes_68, bytes_73, bytes_75, bytes_76, bytes_77, bytes_92, bytes_93, bytes_94, bytes_95, bytes_98, bytes_102, bytes_112, bytes_123, bytes_129]; omega))
    | (refine NilB.mk fun b hb => Step.out ?_)
    | with_reducible trivial
    | exact noSh_bool _
    | exact noSh_lit _
    | exact noSh_int _ _
    | exact noSh_str _
    | with_reducible rfl
    | with_reducible exact same_rfl
    | (refine Wr.i64 ?_ ?_; omega)
    | (refine Wr.u8 ?_ ?_; omega)
    | (refine Wr.i32 ?_ ?_; omega)
    | (with_reducible refine Br.tt ?_)
    | (with_reducible refine Br.ff ?_)
    | (refine Br.dT ?_ ?_; omega)
    | (refine Br.dF ?_ ?_; omega)
    | (refine Br.d (fun h => ?_) (fun h => ?_))
    | (refine Br.swap ?_)
    | (refine Br.bnot ?_)
    | (refine Br.mk (fun h => Step.out ?_) (fun h => Step.out ?_))
    | (refine Two.mk (Step.out ?_) (Step.out ?_))
    | (refine CallOK.of_ct (Step.out ?_))
    | (refine Met.by (g := 29) (rcode_ct _ (by first | omega | decide | (simp; done) | (simp; omega))) ?_; rintro q outs ⟨rfl, rfl⟩)
    | (refine Vc.mk ?_ (Step.out ?_))
  · rw [codeB, decide_eq_true ‹codeE s = 0›, Bool.true_and]
  · rw [codeB, decide_eq_false ‹¬codeE s = 0›, Bool.false_and]
end Kx
