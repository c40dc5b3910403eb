/-
  Texts: letters, tokens, lengths.
  No condition beyond those written in each theorem.
-/
import Derived.Test.YtmngcdfpanhmoaaGreatDoorKA1
import Derived.Test.YtmngcdfpanhmoaaGreatDoorFD
import Derived.Test.YtmngcdfpanhmoaaGreatDoorKA2
open Go Sx Go.Proofs
set_option linter.unusedSimpArgs false
set_option linter.unusedVariables false
namespace Kx
def isLet (x : UInt8) : Bool := decide (97 ≤ (x.toNat : Int)) && decide ((x.toNat : Int) ≤ 122)
def letters (s : Str) : Str := s.filter isLet
theorem take_one (s : Str) (i : Nat) (h : i < s.length) : s.take (i + 1) = s.take i ++ [s.getD i 0] := by
  rw [List.take_add_one, List.getElem?_eq_getElem h, List.getD_eq_getElem?_getD, List.getElem?_eq_getElem h]; rfl
theorem cut_one (s : Str) (i : Nat) (h : i < s.length) : (s.take (i + 1)).drop i = [s.getD i 0] := by
  rw [take_one s i h, List.drop_append_of_le_length (by simp; omega), List.drop_of_length_le (by simp; omega)]; rfl
theorem letters_one (s : Str) (i : Nat) (h : i < s.length) : letters (s.take (i + 1)) = letters (s.take i) ++ if isLet (s.getD i 0) then [s.getD i 0] else [] := by
  rw [take_one s i h]; simp only [letters, List.filter_append, List.filter_cons, List.filter_nil]
theorem letters_len (s : Str) : (letters s).length ≤ s.length := List.length_filter_le _ _
theorem letters_len' (s : Str) (i : Nat) : (letters (s.take i)).length ≤ i := Nat.le_trans (letters_len _) (by rw [List.length_take]; omega)
theorem isLet_T {x : UInt8} (h1 : 97 ≤ (x.toNat : Int)) (h2 : (x.toNat : Int) ≤ 122) : isLet x = true := by simp only [isLet, h1, h2, decide_true, Bool.and_self]
theorem isLet_F1 {x : UInt8} (h1 : ¬97 ≤ (x.toNat : Int)) : isLet x = false := by simp only [isLet, h1, decide_false, Bool.false_and]
theorem isLet_F2 {x : UInt8} (h1 : ¬(x.toNat : Int) ≤ 122) : isLet x = false := by simp only [isLet, h1, decide_false, Bool.and_false]
theorem rletters_ct (s : Str) (hs : s.length ≤ 1000000000000000) : Ct Tryz.prog 196 [.str s] fun r outs => r = .str (letters s) ∧ outs = [] := by
  refine .det (.of_W (fn := Tryz.f196) hΓ hm Tryz.func196 [] [] (by kernel_rfl) (Step.out ?_))
  repeat' first
    | (refine Step.mk ?_; conv => whnf)
  refine CodeOK.loopW hΓ hm [] [] (by kernel_rfl) (α := Nat) (fun i => [(0, .str s), (3, .str (letters (s.take i))), (4, i64 i)]) (fun i => []) 0 (fun i => i ≤ s.length) (fun i => s.length - i) ?_ ?_
  · refine Again.by 0 (Nat.zero_le _) ?_
    repeat' first
      | (refine Step.mk ?_; conv => whnf)
      | (refine Vc.om ?_ ?_; first | omega | with_reducible rfl | with_reducible exact same_rfl)
      | with_reducible trivial
      | (rfl)
      | (refine Vc.mk ?_ (Step.out ?_))
  · intro i hi
    have hl := letters_len' s i
    repeat' first
      | (refine Step.mk ?_; conv => whnf)
      | (refine Vc.om ?_ ?_; first | omega | with_reducible rfl | with_reducible exact same_rfl)
      | with_reducible trivial
      | (refine Wr.i64 ?_ ?_; omega)
      | (refine Vc.om ?_ ?_; focus (simp; omega; done))
      | (refine Br.d (fun h => ?_) (fun h => ?_))
      | (refine Two.mk (Step.out ?_) (Step.out ?_))
    all_goals try simp only [Int.toNat_natCast] at *
    · refine Again.by (i + 1) ⟨by omega, by omega⟩ ?_
      repeat' first
        | (refine Step.mk ?_; conv => whnf)
        | (refine Vc.om ?_ ?_; first | omega | with_reducible rfl | with_reducible exact same_rfl)
        | with_reducible trivial
        | (rw [letters_one s i (by omega), isLet_T ‹_› ‹_›, if_pos rfl]; exact congrArg _ (cut_one s i (by omega)))
        | (refine Vc.mk ?_ (Step.out ?_))
    · refine Again.by (i + 1) ⟨by omega, by omega⟩ ?_
      repeat' first
        | (refine Step.mk ?_; conv => whnf)
        | (refine Vc.om ?_ ?_; first | omega | with_reducible rfl | with_reducible exact same_rfl)
        | (refine Vc.om ?_ ?_; (simp only [bytes_2, bytes_3, bytes_4, bytes_5, bytes_9, bytes_12, bytes_21, bytes_22, bytes_25, bytes_27, bytes_28, bytes_29, bytes_30, bytes_31, bytes_32, bytes_33, bytes_35, bytes_37, bytes_38, bytes_39, bytes_41, bytes_43, bytes_49, bytes_53, bytes_54, bytes_55, bytes_60, bytes_61, bytes_62, bytes_63, bytes_64, bytes_65, bytes_74, bytes_75, bytes_82, bytes_83, bytes_84, bytes_85, bytes_95, bytes_103, bytes_104, bytes_105, bytes_125, bytes_126, bytes_127, bytes_131, bytes_150, bytes_151, bytes_152, bytes_153, bytes_154, bytes_159, bytes_167, bytes_168, bytes_181, bytes_182, bytes_190, bytes_197, bytes_210, bytes_214, bytes_215, bytes_218, bytes_251, bytes_252, bytes_254, bytes_259, bytes_260, bytes_261, bytes_269, bytes_272, bytes_279, bytes_286, bytes_287, bytes_288, bytes_289, bytes_290, bytes_294, bytes_296, bytes_302, bytes_305, bytes_307, true_and, and_true] <;> omega))
        | with_reducible trivial
        | (rw [letters_one s i (by omega), isLet_F2 ‹_›]; simp)
    · refine Again.by (i + 1) ⟨by omega, by omega⟩ ?_
      repeat' first
        | (refine Step.mk ?_; conv => whnf)
        | (refine Vc.om ?_ ?_; first | omega | with_reducible rfl | with_reducible exact same_rfl)
        | (refine Vc.om ?_ ?_; (simp only [bytes_2, bytes_3, bytes_4, bytes_5, bytes_9, bytes_12, bytes_21, bytes_22, bytes_25, bytes_27, bytes_28, bytes_29, bytes_30, bytes_31, bytes_32, bytes_33, bytes_35, bytes_37, bytes_38, bytes_39, bytes_41, bytes_43, bytes_49, bytes_53, bytes_54, bytes_55, bytes_60, bytes_61, bytes_62, bytes_63, bytes_64, bytes_65, bytes_74, bytes_75, bytes_82, bytes_83, bytes_84, bytes_85, bytes_95, bytes_103, bytes_104, bytes_105, bytes_125, bytes_126, bytes_127, bytes_131, bytes_150, bytes_151, bytes_152, bytes_153, bytes_154, bytes_159, bytes_167, bytes_168, bytes_181, bytes_182, bytes_190, bytes_197, bytes_210, bytes_214, bytes_215, bytes_218, bytes_251, bytes_252, bytes_254, bytes_259, bytes_260, bytes_261, bytes_269, bytes_272, bytes_279, bytes_286, bytes_287, bytes_288, bytes_289, bytes_290, bytes_294, bytes_296, bytes_302, bytes_305, bytes_307, true_and, and_true] <;> omega))
        | with_reducible trivial
        | (rw [letters_one s i (by omega), isLet_F1 ‹_›]; simp)
    · rw [show i = s.length by omega, List.take_length]
theorem letter_ct (x : UInt8) : Ct Tryz.prog 140 [u8 x.toNat] fun r outs => r = .bool (isLet x) ∧ outs = [] := by
  refine .det (.of_W (fn := Tryz.f140) hΓ hm Tryz.func140 [] [] (by kernel_rfl) (Step.out ?_))
  repeat' first
    | (refine Step.mk ?_; conv => whnf)
    | with_reducible trivial
    | (refine Br.d (fun h => ?_) (fun h => ?_))
    | (refine Two.mk (Step.out ?_) (Step.out ?_))
  all_goals first
    | trivial
    | exact hb h
    | with_reducible rfl
    | with_reducible exact same_rfl
    | omega
    | ((simp [isLet, *]; done))
theorem letters_ct (s : Str) (hs : s.length ≤ 1000000000000) : Ct Tryz.prog 98 [.str s] fun r outs => r = .str (letters s) ∧ outs = [] := by
  refine .det (.of_W (fn := Tryz.f98) hΓ hm Tryz.func98 [] [] (by kernel_rfl) (Step.out ?_))
  repeat' first
    | (refine Step.mk ?_; conv => whnf)
  refine CodeOK.loopW hΓ hm [] [] (by kernel_rfl) (α := Nat) (fun i => [(0, .str s), (6, i64 s.length), (3, .own 0), (7, i64 i)]) (fun i => [(0, .arr 5 1 (letters (s.take i)).length (bytesF (letters (s.take i))))]) 1 (fun i => i ≤ s.length) (fun i => s.length - i) ?_ ?_
  · refine Again.by 0 (Nat.zero_le _) ?_
    repeat' first
      | (refine Step.mk ?_; conv => whnf)
      | (refine Vc.om ?_ ?_; first | omega | with_reducible rfl | with_reducible exact same_rfl)
      | with_reducible trivial
      | (rfl)
      | (refine Vc.mk ?_ (Step.out ?_))
  · intro i hi
    have hl := letters_len' s i
    repeat' first
      | (refine Step.mk ?_; conv => whnf)
      | (refine Vc.om ?_ ?_; first | omega | with_reducible rfl | with_reducible exact same_rfl)
      | (refine Vc.om ?_ ?_; (simp only [bytes_2, bytes_3, bytes_4, bytes_5, bytes_9, bytes_12, bytes_21, bytes_22, bytes_25, bytes_27, bytes_28, bytes_29, bytes_30, bytes_31, bytes_32, bytes_33, bytes_35, bytes_37, bytes_38, bytes_39, bytes_41, bytes_43, bytes_49, bytes_53, bytes_54, bytes_55, bytes_60, bytes_61, bytes_62, bytes_63, bytes_64, bytes_65, bytes_74, bytes_75, bytes_82, bytes_83, bytes_84, bytes_85, bytes_95, bytes_103, bytes_104, bytes_105, bytes_125, bytes_126, bytes_127, bytes_131, bytes_150, bytes_151, bytes_152, bytes_153, bytes_154, bytes_159, bytes_167, bytes_168, bytes_181, bytes_182, bytes_190, bytes_197, bytes_210, bytes_214, bytes_215, bytes_218, bytes_251, bytes_252, bytes_254, bytes_259, bytes_260, bytes_261, bytes_269, bytes_272, bytes_279, bytes_286, bytes_287, bytes_288, bytes_289, bytes_290, bytes_294, bytes_296, bytes_302, bytes_305, bytes_307, true_and, and_true] <;> omega))
      | (refine Wr.i64 ?_ ?_; omega)
      | (refine Br.d (fun h => ?_) (fun h => ?_))
      | (refine Br.mk (fun h => Step.out ?_) (fun h => Step.out ?_))
      | (refine CallOK.of_ct (Step.out ?_))
      | (refine Met.by (g := 140) (letter_ct _) ?_; rintro q outs ⟨rfl, rfl⟩)
    all_goals try simp only [Int.toNat_natCast] at *
    · refine Again.by (i + 1) ⟨by omega, by omega⟩ ?_
      rw [letters_one s i (by omega), h, if_pos rfl]
      repeat' first
        | (refine Step.mk ?_; conv => whnf)
        | (refine Vc.om ?_ ?_; first | omega | with_reducible rfl | with_reducible exact same_rfl)
        | with_reducible trivial
        | (exact byte_app _ _ rfl)
        | (refine Vc.mk ?_ (Step.out ?_))
    · refine Again.by (i + 1) ⟨by omega, by omega⟩ ?_
      rw [letters_one s i (by omega), h, if_neg (by simp), List.append_nil]
      repeat' first
        | (refine Step.mk ?_; conv => whnf)
        | (refine Vc.om ?_ ?_; first | omega | with_reducible rfl | with_reducible exact same_rfl)
        | with_reducible trivial
    · refine Lf.by _ ⟨rfl, fun _ _ => rfl⟩ ?_
      repeat' first
        | (refine Step.mk ?_; conv => whnf)
        | with_reducible trivial
        | (rw [show i = s.length by omega, List.take_length])
        | (refine Two.mk (Step.out ?_) (Step.out ?_))
theorem toksF_space (part l : Str) : toksF part (32 :: l) = (if part = [] then [] else [part]) ++ toks l := by
  rw [toksF, if_pos rfl]; split <;> rfl
theorem toksF_other (part : Str) (x : UInt8) (l : Str) (h : x ≠ 32) : toksF part (x :: l) = toksF (part ++ [x]) l := by
  rw [toksF, if_neg h]
theorem byte_eq {x y : UInt8} (h : (x.toNat : Int) = (y.toNat : Int)) : x = y := UInt8.toNat_inj.1 (by omega)
theorem rtokens_ct (s : Str) (hs : s.length ≤ 1000000000000) : Ct Tryz.prog 202 [.str s] fun r outs => r = strsO 9 (toks s) ∧ outs = [] := by
  refine .det (.of_W (fn := Tryz.f202) hΓ hm Tryz.func202 [] [] (by kernel_rfl) (Step.out ?_))
  repeat' first
    | (refine Step.mk ?_; conv => whnf)
  refine CodeOK.loopW hΓ hm [] [] (by kernel_rfl) (α := Nat × Str × List Str) (fun z => [(0, .str s), (3, .own 0), (4, .str z.2.1), (5, i64 z.1)]) (fun z => [(0, .arr 9 1 z.2.2.length fun i => [.str (z.2.2.getD i [])])]) 1 (fun z => z.1 ≤ s.length + 1 ∧ z.2.1.length + z.2.2.length ≤ z.1 ∧ toks s = z.2.2 ++ (if z.1 ≤ s.length then toksF z.2.1 (s.drop z.1) else [])) (fun z => s.length + 1 - z.1) ?_ ?_
  · refine Again.by (0, [], []) ⟨Nat.zero_le _, Nat.le_refl _, by simp [toks]⟩ ?_
    repeat' first
      | (refine Step.mk ?_; conv => whnf)
      | (refine Vc.om ?_ ?_; first | omega | with_reducible rfl | with_reducible exact same_rfl)
      | with_reducible trivial
      | (refine Vc.mk ?_ (Step.out ?_))
  · intro ⟨i, part, out⟩ ⟨h1, h2, h3⟩
    dsimp only at h1 h2 h3 ⊢
    have hcut : i < s.length → List.drop i (List.take ((i : Int) + 1).toNat s) = [s.getD i 0] := cut_step s 0 i
    have hdr := drop_step s 0 i
    repeat' first
      | (refine Step.mk ?_; conv => whnf)
      | (refine Vc.om ?_ ?_; first | omega | with_reducible rfl | with_reducible exact same_rfl)
      | (refine Vc.om ?_ ?_; (simp only [bytes_2, bytes_3, bytes_4, bytes_5, bytes_9, bytes_12, bytes_21, bytes_22, bytes_25, bytes_27, bytes_28, bytes_29, bytes_30, bytes_31, bytes_32, bytes_33, bytes_35, bytes_37, bytes_38, bytes_39, bytes_41, bytes_43, bytes_49, bytes_53, bytes_54, bytes_55, bytes_60, bytes_61, bytes_62, bytes_63, bytes_64, bytes_65, bytes_74, bytes_75, bytes_82, bytes_83, bytes_84, bytes_85, bytes_95, bytes_103, bytes_104, bytes_105, bytes_125, bytes_126, bytes_127, bytes_131, bytes_150, bytes_151, bytes_152, bytes_153, bytes_154, bytes_159, bytes_167, bytes_168, bytes_181, bytes_182, bytes_190, bytes_197, bytes_210, bytes_214, bytes_215, bytes_218, bytes_251, bytes_252, bytes_254, bytes_259, bytes_260, bytes_261, bytes_269, bytes_272, bytes_279, bytes_286, bytes_287, bytes_288, bytes_289, bytes_290, bytes_294, bytes_296, bytes_302, bytes_305, bytes_307, true_and, and_true] <;> omega))
      | with_reducible trivial
      | (refine Wr.i64 ?_ ?_; omega)
      | (refine Vc.om ?_ ?_; focus (simp; omega; done))
      | (refine Br.d (fun h => ?_) (fun h => ?_))
      | (refine Br.bnot ?_)
      | (refine Two.mk (Step.out ?_) (Step.out ?_))
    all_goals try simp only [Int.toNat_natCast] at *
    · have hx : s.getD i 0 = 32 := byte_eq ‹_›
      refine Again.by (i + 1, [], out) ⟨⟨by dsimp only; omega, by dsimp only [List.length_nil]; omega, ?_⟩, by dsimp only; omega⟩ ?_
      · dsimp only
        rw [h3, if_pos (by omega), if_pos (by omega), hdr (by omega), hx, toksF_space, if_pos ‹_›]; rfl
      · dsimp only
        repeat' first
          | (refine Step.mk ?_; conv => whnf)
          | (refine Vc.om ?_ ?_; first | omega | with_reducible rfl | with_reducible exact same_rfl)
          | with_reducible trivial
    · have hx : s.getD i 0 = 32 := byte_eq ‹_›
      have : 1 ≤ part.length := List.length_pos_iff.2 ‹_›
      refine Again.by (i + 1, [], out ++ [part]) ⟨⟨by dsimp only; omega, by simp; omega, ?_⟩, by dsimp only; omega⟩ ?_
      · dsimp only
        rw [h3, if_pos (by omega), if_pos (by omega), hdr (by omega), hx, toksF_space, if_neg ‹_›, List.append_assoc]; rfl
      · dsimp only
        repeat' first
          | (refine Step.mk ?_; conv => whnf)
          | (refine Vc.om ?_ ?_; first | omega | with_reducible rfl | with_reducible exact same_rfl)
          | with_reducible trivial
          | (exact str_app _ _ rfl)
          | (refine Vc.mk ?_ (Step.out ?_))
    · have hx : s.getD i 0 ≠ 32 := fun e => by rw [e] at h; exact h rfl
      refine Again.by (i + 1, part ++ [s.getD i 0], out) ⟨⟨by dsimp only; omega, by simp; omega, ?_⟩, by dsimp only; omega⟩ ?_
      · dsimp only
        rw [h3, if_pos (by omega), if_pos (by omega), hdr (by omega), toksF_other _ _ _ hx]
      · dsimp only
        rw [hcut (by omega)]
        repeat' first
          | (refine Step.mk ?_; conv => whnf)
          | (refine Vc.om ?_ ?_; first | omega | with_reducible rfl | with_reducible exact same_rfl)
          | with_reducible trivial
    · have hi : i = s.length := by omega
      refine Again.by (i + 1, [], out) ⟨⟨by dsimp only; omega, by dsimp only [List.length_nil]; omega, ?_⟩, by dsimp only; omega⟩ ?_
      · dsimp only
        rw [h3, if_pos (by omega), if_neg (by omega), hi, List.drop_length, toksF, if_pos ‹_›]
      · dsimp only
        repeat' first
          | (refine Step.mk ?_; conv => whnf)
          | (refine Vc.om ?_ ?_; first | omega | with_reducible rfl | with_reducible exact same_rfl)
          | with_reducible trivial
    · have hi : i = s.length := by omega
      have : 1 ≤ part.length := List.length_pos_iff.2 ‹_›
      refine Again.by (i + 1, [], out ++ [part]) ⟨⟨by dsimp only; omega, by simp; omega, ?_⟩, by dsimp only; omega⟩ ?_
      · dsimp only
        rw [h3, if_pos (by omega), if_neg (by omega), hi, List.drop_length, toksF, if_neg ‹_›]; simp
      · dsimp only
        repeat' first
          | (refine Step.mk ?_; conv => whnf)
          | (refine Vc.om ?_ ?_; first | omega | with_reducible rfl | with_reducible exact same_rfl)
          | with_reducible trivial
          | (exact str_app _ _ rfl)
          | (refine Vc.mk ?_ (Step.out ?_))
    · rw [h3, if_neg (by omega), List.append_nil]
      exact ⟨rfl, fun _ _ => rfl⟩
theorem space_ct (x : Nat) (h : x ≤ 1114111) : Ct Tryz.prog 258 [.int .i32 x] fun r outs => r = .bool (decide (x = 32)) ∧ outs = [] := by
  refine .det (.of_W (fn := Tryz.f258) hΓ hm Tryz.func258 [] [] (by kernel_rfl) (Step.out ?_))
  repeat' first
    | (refine Step.mk ?_; conv => whnf)
    | with_reducible trivial
    | (refine Two.mk (Step.out ?_) (Step.out ?_))
  all_goals first
    | trivial
    | exact hb h
    | with_reducible rfl
    | with_reducible exact same_rfl
    | omega
    | ((simp; omega))
theorem ffunc_ct (s : Str) (hs : s.length ≤ 1000000000) : Ct Tryz.prog 257 [.str s, .fn 258 []] fun r outs => r = strsO 9 (toks s) ∧ outs = [] :=
  fields_ct ⟨Tryz.f257, Tryz.func257, by decide, by decide⟩ s space_ct (fun p s w h1 h2 h3 => Kx.strings_FieldsFunc_grows 258 #[] h1 p s w h2 h3) (by omega)
theorem tokens_ct (s : Str) (hs : s.length ≤ 1000000000) : Ct Tryz.prog 230 [.str s] fun r outs => r = strsO 9 (toks s) ∧ outs = [] := by
  refine .det (.of_W (fn := Tryz.f230) hΓ hm Tryz.func230 [] [] (by kernel_rfl) (Step.out ?_))
  repeat' first
    | (refine Step.mk ?_; conv => whnf)
    | with_reducible trivial
    | with_reducible exact same_rfl
    | (refine Met.by (ffunc_ct s (by omega)) ?_; rintro q outs ⟨rfl, rfl⟩)
    | (refine Two.mk (Step.out ?_) (Step.out ?_))
    | (refine CallOK.of_ct (Step.out ?_))
end Kx
/-
  The deck's tokens and picks.
-/
open Go Sx Go.Proofs
set_option linter.unusedSimpArgs false
set_option linter.unusedVariables false
namespace Kx
theorem one_ct (d : Dk) (n : Int) : Ct Tryz.prog 25 [d.b, i64 n] fun r outs => ∃ x d', True ∧ r = .bool x ∧ outs = [Dk.b d'] := by
  refine .some2 (.of_W (fn := Tryz.f25) hΓ hm Tryz.func25 [] [] (by kernel_rfl) (Step.out ?_))
  repeat' first
    | (refine Step.mk ?_; conv => whnf)
    | (refine CallOK.io1 (g := 24) (Step.out ?_))
    | (refine Met.by (g := 24) (next_ct _ _) ?_; rintro q outs ⟨x, d, hx, rfl, rfl⟩)
  refine Lf2.by (decide (x = 0)) d trivial ?_
  repeat' first
    | (refine Step.mk ?_; conv => whnf)
    | with_reducible trivial
    | with_reducible exact same_rfl
    | (refine Two.mk (Step.out ?_) (Step.out ?_))
theorem pick_ct (d : Dk) (l : List Str) (h1 : 1 ≤ l.length) (h2 : l.length ≤ 1000) : Ct Tryz.prog 105 [d.b, strs l] fun r outs => ∃ x d', x ∈ l ∧ r = .str x ∧ outs = [Dk.b d'] := by
  refine .some2 (.of_W (fn := Tryz.f105) hΓ hm Tryz.func105 [] [] (by kernel_rfl) (Step.out ?_))
  repeat' first
    | (refine Step.mk ?_; conv => whnf)
    | (refine Vc.om ?_ ?_; first | omega | with_reducible rfl | with_reducible exact same_rfl)
    | (refine CallOK.io1 (g := 24) (Step.out ?_))
    | (refine Met.by (g := 24) (next_ct _ _) ?_; rintro q outs ⟨x, d, hx, rfl, rfl⟩)
  refine Lf2.by (l.getD x.toNat []) d (getD_in (by omega)) ?_
  repeat' first
    | (refine Step.mk ?_; conv => whnf)
    | with_reducible trivial
    | with_reducible exact same_rfl
    | (refine Two.mk (Step.out ?_) (Step.out ?_))
theorem dk_wk (d : Dk) : ioEq [d.b] [d.b] = true ∧ wkD d.b d.b false := ⟨rfl, ⟨⟨rfl, fun _ _ => rfl⟩, rfl, rfl, trivial⟩⟩
theorem picks_ct (d : Dk) (l : List Str) (h1 : 1 ≤ l.length) (h2 : l.length ≤ 1000) : Ct Tryz.prog 105 [d.b, .tab 1 l.length fun i => selC (l.map fun s => [D.str s]) i] fun r outs => ∃ x d', x ∈ l ∧ r = .str x ∧ outs = [Dk.b d'] :=
  .lit2 l (dk_wk d) (pick_ct d l h1 h2)
theorem picksP_ct (φ : Str → Prop) (d : Dk) (l : List Str) (h : ∀ x ∈ l, φ x) (h1 : 1 ≤ l.length) (h2 : l.length ≤ 1000) : Ct Tryz.prog 105 [d.b, .tab 1 l.length fun i => selC (l.map fun s => [D.str s]) i] fun r outs => ∃ x d', φ x ∧ r = .str x ∧ outs = [Dk.b d'] :=
  (picks_ct d l h1 h2).mono fun _ _ ⟨x, d, hx, hr⟩ => ⟨x, d, h x hx, hr⟩
/-- A token: some small letters. -/
def Tok (s : Str) : Prop := 1 ≤ s.length ∧ s.length ≤ 8 ∧ ∀ x ∈ s, isLet x = true
def tokB (s : Str) : Bool := decide (1 ≤ s.length) && decide (s.length ≤ 8) && s.all isLet
theorem Tok.of {s : Str} (h : tokB s = true) : Tok s := by
  simp only [tokB, Bool.and_eq_true, decide_eq_true_eq, List.all_eq_true] at h
  exact ⟨h.1.1, h.1.2, h.2⟩
end Kx
