/-
  The laws of folding: folded twice, and dressed.
  No condition beyond those written in each theorem.
-/
import Derived.Test.YteohonkidphofaaKTa
open Go Sx Go.Proofs
set_option linter.unusedSimpArgs false
set_option linter.unusedVariables false
namespace Kx
theorem fixed_gap {s : Str} (h : Fixed s) {i : Nat} (hi : (i : Int) < s.length) (hx : ((s.getD (i : Int).toNat 0).toNat : Int) = 32) : i ≠ 0 ∧ i + 1 < s.length ∧ ¬((s.getD ((i : Int) + 1).toNat 0).toNat : Int) = 32 := by
  have e : s.getD i 0 = 32 := UInt8.toNat_inj.1 (by rw [Int.toNat_natCast] at hx; show _ = 32; omega)
  have := gap_at (toks_tokL s) (i := i) (by rw [h.2]; omega) (by rw [h.2]; exact e)
  rw [h.2] at this
  refine ⟨this.1, this.2.1, fun hn => this.2.2 (UInt8.toNat_inj.1 (by rw [show ((i : Int) + 1).toNat = i + 1 by omega] at hn; show _ = 32; omega))⟩
theorem foldE_ok {s : Str} (h : validS s = true) : foldE s = 0 ∧ foldO s = foldS s := by simp only [foldE, foldO, h, if_true, and_self]
theorem foldE_no {s : Str} (h : validS s = false) : foldE s = 3 ∧ foldO s = [] := by simp [foldE, foldO, h]
theorem foldE_cases (s : Str) : (validS s = true ∧ foldE s = 0 ∧ foldO s = foldS s) ∨ (validS s = false ∧ foldE s = 3 ∧ foldO s = []) := by
  cases h : validS s with
  | true => exact .inl ⟨rfl, foldE_ok h⟩
  | false => exact .inr ⟨rfl, foldE_no h⟩
theorem valid_le {s : Str} (h : validS s = true) : s.length ≤ 64 := by
  rw [validS, Bool.and_eq_true] at h; exact of_decide_eq_true h.2
theorem fixed_fold {w : Str} (h : Fixed w) (hl : w.length ≤ 64) : foldE w = 0 ∧ foldO w = w := by
  have := foldE_ok (validS_an w h.1 hl)
  exact ⟨this.1, this.2.trans ((foldS_fix w h.1).trans h.2)⟩
theorem idem_ct (l : List Int) : Ct Try.prog 8 [ints l] fun q _ => Yes q := by
  refine .of_W (fn := Try.f8) hΓ hm (by rfl) [] [] (by kernel_rfl) (Step.out ?_)
  repeat' first
    | (refine Step.mk ?_; conv => whnf)
    | (refine Vc.om ?_ ?_; first | omega | with_reducible rfl | with_reducible exact same_rfl | (simp only [bytes_2, bytes_3, bytes_4, bytes_5, bytes_9, bytes_12, bytes_21, bytes_22, bytes_25, bytes_27, bytes_32, bytes_37, bytes_42, bytes_43, bytes_44, bytes_49, bytes_51, bytes_52, bytes_53, bytes_60, bytes_64, bytes_66, bytes_67, bytes_68, bytes_78, bytes_84]; omega))
    | (refine NilB.mk fun b hb => Step.out ?_)
    | with_reducible trivial
    | exact noSh_bool _
    | exact noSh_lit _
    | exact noSh_int _ _
    | exact noSh_str _
    | with_reducible rfl
    | with_reducible exact same_rfl
    | (refine Wr.i64 ?_ ?_; omega)
    | (refine Wr.u8 ?_ ?_; omega)
    | (refine Wr.i32 ?_ ?_; omega)
    | (with_reducible refine Br.tt ?_)
    | (with_reducible refine Br.ff ?_)
    | (refine Br.dT ?_ ?_; omega)
    | (refine Br.dF ?_ ?_; omega)
    | (exact .inl rfl)
    | (exact .inr rfl)
    | (refine Br.d (fun h => ?_) (fun h => ?_))
    | (refine Br.swap ?_)
    | (refine Br.bnot ?_)
    | (refine Br.mk (fun h => Step.out ?_) (fun h => Step.out ?_))
    | (refine Two.mk (Step.out ?_) (Step.out ?_))
    | (refine CallOK.io1 (g := 16) (Step.out ?_))
    | (refine CallOK.of_ct (Step.out ?_))
    | (refine Met.by (g := 9) (awake_ct) ?_; rintro q outs ⟨rfl, rfl⟩)
    | (refine Met.by (g := 10) (few_ct _) ?_; rintro q outs ⟨rfl, rfl⟩)
    | (refine Met.by (g := 11) (new_ct _ (by assumption)) ?_; rintro q outs ⟨d, hd, rfl, rfl⟩)
    | (refine Met.by (g := 15) (fold_ct _ (by first | omega | decide | (simp; done) | (simp; omega))) ?_; rintro q outs ⟨rfl, rfl⟩)
    | (refine Met.by (g := 16) (text_ct _) ?_; rintro q outs ⟨x, d, hx, rfl, rfl⟩)
    | (refine Met.by (g := 26) (folded_ct _ (by first | omega | decide | (simp; done) | (simp; omega))) ?_; rintro q outs ⟨rfl, rfl⟩)
    | (refine Vc.mk ?_ (Step.out ?_))
  · obtain ⟨w, hw, hf, hl⟩ : ∃ w, foldO x = w ∧ Fixed w ∧ w.length ≤ 64 := by
      rcases foldE_cases x with ⟨h1, h2, h3⟩ | ⟨h1, h2, h3⟩
      · refine ⟨_, h3, foldS_fixed x, ?_⟩
        have := foldS_le x
        have := valid_le h1
        omega
      · exact absurd ‹foldE x = 0› (by rw [h2]; decide)
    rw [hw]
    obtain ⟨hE, hO⟩ := fixed_fold hf hl
    have hB : foldedB w = true := by rw [foldedB, hE, hO]; simp
    repeat' first
      | (refine Step.mk ?_; conv => whnf)
      | (refine Vc.om ?_ ?_; first | omega | with_reducible rfl | with_reducible exact same_rfl | (simp only [bytes_2, bytes_3, bytes_4, bytes_5, bytes_9, bytes_12, bytes_21, bytes_22, bytes_25, bytes_27, bytes_32, bytes_37, bytes_42, bytes_43, bytes_44, bytes_49, bytes_51, bytes_52, bytes_53, bytes_60, bytes_64, bytes_66, bytes_67, bytes_68, bytes_78, bytes_84]; omega))
      | (refine NilB.mk fun b hb => Step.out ?_)
      | with_reducible trivial
      | exact noSh_bool _
      | exact noSh_lit _
      | exact noSh_int _ _
      | exact noSh_str _
      | with_reducible rfl
      | with_reducible exact same_rfl
      | (refine Wr.i64 ?_ ?_; omega)
      | (refine Wr.u8 ?_ ?_; omega)
      | (refine Wr.i32 ?_ ?_; omega)
      | (with_reducible refine Br.tt ?_)
      | (with_reducible refine Br.ff ?_)
      | (refine Br.dT ?_ ?_; omega)
      | (refine Br.dF ?_ ?_; omega)
      | (refine Met.by ((fold_ct w (by omega)).mono fun r outs h => (⟨by rw [h.1, hE, hO], h.2⟩ : r = .tup [.str w, i64 0] ∧ outs = [])) ?_; rintro q outs ⟨rfl, rfl⟩)
      | (refine Br.d (fun h => ?_) (fun h => ?_))
      | (refine Br.swap ?_)
      | (refine Br.bnot ?_)
      | (refine Br.mk (fun h => Step.out ?_) (fun h => Step.out ?_))
      | (refine Two.mk (Step.out ?_) (Step.out ?_))
      | (refine CallOK.io1 (g := 16) (Step.out ?_))
      | (refine CallOK.of_ct (Step.out ?_))
      | (refine Met.by (g := 9) (awake_ct) ?_; rintro q outs ⟨rfl, rfl⟩)
      | (refine Met.by (g := 10) (few_ct _) ?_; rintro q outs ⟨rfl, rfl⟩)
      | (refine Met.by (g := 11) (new_ct _ (by assumption)) ?_; rintro q outs ⟨d, hd, rfl, rfl⟩)
      | (refine Met.by (g := 15) (fold_ct _ (by first | omega | decide | (simp; done) | (simp; omega))) ?_; rintro q outs ⟨rfl, rfl⟩)
      | (refine Met.by (g := 16) (text_ct _) ?_; rintro q outs ⟨x, d, hx, rfl, rfl⟩)
      | (refine Met.by (g := 26) (folded_ct _ (by first | omega | decide | (simp; done) | (simp; omega))) ?_; rintro q outs ⟨rfl, rfl⟩)
      | (refine Vc.mk ?_ (Step.out ?_))
    refine CodeOK.loopW hΓ hm [] [] (by kernel_rfl) (α := Nat) (fun i => [(4, .str w), (6, .str w), (7, i64 0), (8, i64 i)]) (fun i => []) 0 (fun i => i ≤ w.length) (fun i => w.length - i) ?_ ?_
    · refine Again.by 0 (Nat.zero_le _) ?_
      repeat' first
        | (refine Step.mk ?_; conv => whnf)
        | (refine Vc.om ?_ ?_; first | omega | with_reducible rfl | with_reducible exact same_rfl | (simp only [bytes_2, bytes_3, bytes_4, bytes_5, bytes_9, bytes_12, bytes_21, bytes_22, bytes_25, bytes_27, bytes_32, bytes_37, bytes_42, bytes_43, bytes_44, bytes_49, bytes_51, bytes_52, bytes_53, bytes_60, bytes_64, bytes_66, bytes_67, bytes_68, bytes_78, bytes_84]; omega))
        | (refine NilB.mk fun b hb => Step.out ?_)
        | with_reducible trivial
        | exact noSh_bool _
        | exact noSh_lit _
        | exact noSh_int _ _
        | exact noSh_str _
        | with_reducible rfl
        | with_reducible exact same_rfl
        | (refine Wr.i64 ?_ ?_; omega)
        | (refine Wr.u8 ?_ ?_; omega)
        | (refine Wr.i32 ?_ ?_; omega)
        | (with_reducible refine Br.tt ?_)
        | (with_reducible refine Br.ff ?_)
        | (refine Br.dT ?_ ?_; omega)
        | (refine Br.dF ?_ ?_; omega)
        | (refine Br.d (fun h => ?_) (fun h => ?_))
        | (refine Br.swap ?_)
        | (refine Br.bnot ?_)
        | (refine Br.mk (fun h => Step.out ?_) (fun h => Step.out ?_))
        | (refine Two.mk (Step.out ?_) (Step.out ?_))
        | (refine CallOK.io1 (g := 16) (Step.out ?_))
        | (refine CallOK.of_ct (Step.out ?_))
        | (refine Met.by (g := 9) (awake_ct) ?_; rintro q outs ⟨rfl, rfl⟩)
        | (refine Met.by (g := 10) (few_ct _) ?_; rintro q outs ⟨rfl, rfl⟩)
        | (refine Met.by (g := 11) (new_ct _ (by assumption)) ?_; rintro q outs ⟨d, hd, rfl, rfl⟩)
        | (refine Met.by (g := 15) (fold_ct _ (by first | omega | decide | (simp; done) | (simp; omega))) ?_; rintro q outs ⟨rfl, rfl⟩)
        | (refine Met.by (g := 16) (text_ct _) ?_; rintro q outs ⟨x, d, hx, rfl, rfl⟩)
        | (refine Met.by (g := 26) (folded_ct _ (by first | omega | decide | (simp; done) | (simp; omega))) ?_; rintro q outs ⟨rfl, rfl⟩)
        | (refine Vc.mk ?_ (Step.out ?_))
    · intro i hi
      have hg := fun a b => fixed_gap hf (i := i) a b
      repeat' first
        | (refine Step.mk ?_; conv => whnf)
        | (refine Vc.om ?_ ?_; first | omega | with_reducible rfl | with_reducible exact same_rfl | (simp only [bytes_2, bytes_3, bytes_4, bytes_5, bytes_9, bytes_12, bytes_21, bytes_22, bytes_25, bytes_27, bytes_32, bytes_37, bytes_42, bytes_43, bytes_44, bytes_49, bytes_51, bytes_52, bytes_53, bytes_60, bytes_64, bytes_66, bytes_67, bytes_68, bytes_78, bytes_84]; omega))
        | (refine NilB.mk fun b hb => Step.out ?_)
        | with_reducible trivial
        | exact noSh_bool _
        | exact noSh_lit _
        | exact noSh_int _ _
        | exact noSh_str _
        | with_reducible rfl
        | with_reducible exact same_rfl
        | (refine Wr.i64 ?_ ?_; omega)
        | (refine Wr.u8 ?_ ?_; omega)
        | (refine Wr.i32 ?_ ?_; omega)
        | (with_reducible refine Br.tt ?_)
        | (with_reducible refine Br.ff ?_)
        | (refine Br.dT ?_ ?_; omega)
        | (refine Br.dF ?_ ?_; omega)
        | (refine Vc.om ?_ ?_; focus ((have := hg (by omega) (by omega); omega); done))
        | (refine Wr.i64 ?_ ?_; focus ((have := hg (by omega) (by omega); omega); done))
        | (refine Wr.u8 ?_ ?_; focus ((have := hg (by omega) (by omega); omega); done))
        | (refine Br.dT ?_ ?_; focus ((have := hg (by omega) (by omega); omega); done))
        | (refine Br.dF ?_ ?_; focus ((have := hg (by omega) (by omega); omega); done))
        | (refine Met.by ((folded_ct w (by omega)).mono fun r outs h => (⟨by rw [h.1, hB], h.2⟩ : r = .bool true ∧ outs = [])) ?_; rintro q outs ⟨rfl, rfl⟩)
        | (exact absurd (hg (by omega) (by omega)) (by omega))
        | (refine Br.d (fun h => ?_) (fun h => ?_))
        | (refine Br.swap ?_)
        | (refine Br.bnot ?_)
        | (refine Br.mk (fun h => Step.out ?_) (fun h => Step.out ?_))
        | (refine Two.mk (Step.out ?_) (Step.out ?_))
        | (refine CallOK.io1 (g := 16) (Step.out ?_))
        | (refine CallOK.of_ct (Step.out ?_))
        | (refine Met.by (g := 9) (awake_ct) ?_; rintro q outs ⟨rfl, rfl⟩)
        | (refine Met.by (g := 10) (few_ct _) ?_; rintro q outs ⟨rfl, rfl⟩)
        | (refine Met.by (g := 11) (new_ct _ (by assumption)) ?_; rintro q outs ⟨d, hd, rfl, rfl⟩)
        | (refine Met.by (g := 15) (fold_ct _ (by first | omega | decide | (simp; done) | (simp; omega))) ?_; rintro q outs ⟨rfl, rfl⟩)
        | (refine Met.by (g := 16) (text_ct _) ?_; rintro q outs ⟨x, d, hx, rfl, rfl⟩)
        | (refine Met.by (g := 26) (folded_ct _ (by first | omega | decide | (simp; done) | (simp; omega))) ?_; rintro q outs ⟨rfl, rfl⟩)
        | (refine Vc.mk ?_ (Step.out ?_))
      · refine Again.by (i + 1) ⟨by omega, by omega⟩ ?_
        repeat' first
          | (refine Step.mk ?_; conv => whnf)
          | (refine Vc.om ?_ ?_; first | omega | with_reducible rfl | with_reducible exact same_rfl | (simp only [bytes_2, bytes_3, bytes_4, bytes_5, bytes_9, bytes_12, bytes_21, bytes_22, bytes_25, bytes_27, bytes_32, bytes_37, bytes_42, bytes_43, bytes_44, bytes_49, bytes_51, bytes_52, bytes_53, bytes_60, bytes_64, bytes_66, bytes_67, bytes_68, bytes_78, bytes_84]; omega))
          | (refine NilB.mk fun b hb => Step.out ?_)
          | with_reducible trivial
          | exact noSh_bool _
          | exact noSh_lit _
          | exact noSh_int _ _
          | exact noSh_str _
          | with_reducible rfl
          | with_reducible exact same_rfl
          | (refine Wr.i64 ?_ ?_; omega)
          | (refine Wr.u8 ?_ ?_; omega)
          | (refine Wr.i32 ?_ ?_; omega)
          | (with_reducible refine Br.tt ?_)
          | (with_reducible refine Br.ff ?_)
          | (refine Br.dT ?_ ?_; omega)
          | (refine Br.dF ?_ ?_; omega)
          | (refine Br.d (fun h => ?_) (fun h => ?_))
          | (refine Br.swap ?_)
          | (refine Br.bnot ?_)
          | (refine Br.mk (fun h => Step.out ?_) (fun h => Step.out ?_))
          | (refine Two.mk (Step.out ?_) (Step.out ?_))
          | (refine CallOK.io1 (g := 16) (Step.out ?_))
          | (refine CallOK.of_ct (Step.out ?_))
          | (refine Met.by (g := 9) (awake_ct) ?_; rintro q outs ⟨rfl, rfl⟩)
          | (refine Met.by (g := 10) (few_ct _) ?_; rintro q outs ⟨rfl, rfl⟩)
          | (refine Met.by (g := 11) (new_ct _ (by assumption)) ?_; rintro q outs ⟨d, hd, rfl, rfl⟩)
          | (refine Met.by (g := 15) (fold_ct _ (by first | omega | decide | (simp; done) | (simp; omega))) ?_; rintro q outs ⟨rfl, rfl⟩)
          | (refine Met.by (g := 16) (text_ct _) ?_; rintro q outs ⟨x, d, hx, rfl, rfl⟩)
          | (refine Met.by (g := 26) (folded_ct _ (by first | omega | decide | (simp; done) | (simp; omega))) ?_; rintro q outs ⟨rfl, rfl⟩)
          | (refine Vc.mk ?_ (Step.out ?_))
      · refine Again.by (i + 1) ⟨by omega, by omega⟩ ?_
        repeat' first
          | (refine Step.mk ?_; conv => whnf)
          | (refine Vc.om ?_ ?_; first | omega | with_reducible rfl | with_reducible exact same_rfl | (simp only [bytes_2, bytes_3, bytes_4, bytes_5, bytes_9, bytes_12, bytes_21, bytes_22, bytes_25, bytes_27, bytes_32, bytes_37, bytes_42, bytes_43, bytes_44, bytes_49, bytes_51, bytes_52, bytes_53, bytes_60, bytes_64, bytes_66, bytes_67, bytes_68, bytes_78, bytes_84]; omega))
          | (refine NilB.mk fun b hb => Step.out ?_)
          | with_reducible trivial
          | exact noSh_bool _
          | exact noSh_lit _
          | exact noSh_int _ _
          | exact noSh_str _
          | with_reducible rfl
          | with_reducible exact same_rfl
          | (refine Wr.i64 ?_ ?_; omega)
          | (refine Wr.u8 ?_ ?_; omega)
          | (refine Wr.i32 ?_ ?_; omega)
          | (with_reducible refine Br.tt ?_)
          | (with_reducible refine Br.ff ?_)
          | (refine Br.dT ?_ ?_; omega)
          | (refine Br.dF ?_ ?_; omega)
          | (refine Br.d (fun h => ?_) (fun h => ?_))
          | (refine Br.swap ?_)
          | (refine Br.bnot ?_)
          | (refine Br.mk (fun h => Step.out ?_) (fun h => Step.out ?_))
          | (refine Two.mk (Step.out ?_) (Step.out ?_))
          | (refine CallOK.io1 (g := 16) (Step.out ?_))
          | (refine CallOK.of_ct (Step.out ?_))
          | (refine Met.by (g := 9) (awake_ct) ?_; rintro q outs ⟨rfl, rfl⟩)
          | (refine Met.by (g := 10) (few_ct _) ?_; rintro q outs ⟨rfl, rfl⟩)
          | (refine Met.by (g := 11) (new_ct _ (by assumption)) ?_; rintro q outs ⟨d, hd, rfl, rfl⟩)
          | (refine Met.by (g := 15) (fold_ct _ (by first | omega | decide | (simp; done) | (simp; omega))) ?_; rintro q outs ⟨rfl, rfl⟩)
          | (refine Met.by (g := 16) (text_ct _) ?_; rintro q outs ⟨x, d, hx, rfl, rfl⟩)
          | (refine Met.by (g := 26) (folded_ct _ (by first | omega | decide | (simp; done) | (simp; omega))) ?_; rintro q outs ⟨rfl, rfl⟩)
          | (refine Vc.mk ?_ (Step.out ?_))
      · exact .inl (congrArg D.bool (decide_eq_true (by omega)))
  · rcases foldE_cases x with ⟨h1, h2, h3⟩ | ⟨h1, h2, h3⟩
    · exact absurd h2 ‹_›
    · rw [h3]; exact .inl rfl
theorem tok_an {a : Str} (h : ∀ x ∈ a, isLet x = true) : foldedC a := fun x hx => .inl (by
  have h1 : isLow x = true := h x hx
  rw [isAn, h1]; rfl)
theorem fc_app {a b : Str} (h : foldedC a) (g : foldedC b) : foldedC (a ++ b) := fun x hx => (List.mem_append.1 hx).elim (h x) (g x)
theorem fc_sp : foldedC [32] := fun x hx => .inr (List.mem_singleton.1 hx)
theorem tok_ok {a : Str} (h1 : 1 ≤ a.length) (h3 : ∀ x ∈ a, isLet x = true) : a ≠ [] ∧ ∀ x ∈ a, x ≠ 32 :=
  ⟨fun e => by rw [e] at h1; simp at h1, fun x hx e => by have := h3 x hx; rw [e] at this; exact absurd this (by decide)⟩
theorem toks_two {a b : Str} (ha : a ≠ [] ∧ ∀ x ∈ a, x ≠ 32) (hb : b ≠ [] ∧ ∀ x ∈ b, x ≠ 32) : toks (a ++ [32] ++ b) = [a, b] := by
  have := toks_join [a, b] (fun t ht => by
    simp only [List.mem_cons, List.not_mem_nil, or_false] at ht
    rcases ht with rfl | rfl <;> assumption)
  simpa [joinS, tailS] using this
theorem pair_fixed {a b : Str} (ha1 : 1 ≤ a.length) (ha3 : ∀ x ∈ a, isLet x = true) (hb1 : 1 ≤ b.length) (hb3 : ∀ x ∈ b, isLet x = true) : Fixed (a ++ [32] ++ b) :=
  ⟨fc_app (fc_app (tok_an ha3) fc_sp) (tok_an hb3), by rw [toks_two (tok_ok ha1 ha3) (tok_ok hb1 hb3)]; simp [joinS, tailS]⟩
theorem dress_law (l : List Int) : Ct Try.prog 3 [ints l] fun q _ => Yes q := by
  refine .of_W (fn := Try.f3) hΓ hm (by rfl) [] [] (by kernel_rfl) (Step.out ?_)
  repeat' first
    | (refine Step.mk ?_; conv => whnf)
    | (refine Vc.om ?_ ?_; first | omega | with_reducible rfl | with_reducible exact same_rfl | (simp only [bytes_2, bytes_3, bytes_4, bytes_5, bytes_9, bytes_12, bytes_21, bytes_22, bytes_25, bytes_27, bytes_32, bytes_37, bytes_42, bytes_43, bytes_44, bytes_49, bytes_51, bytes_52, bytes_53, bytes_60, bytes_64, bytes_66, bytes_67, bytes_68, bytes_78, bytes_84]; omega))
    | (refine NilB.mk fun b hb => Step.out ?_)
    | with_reducible trivial
    | exact noSh_bool _
    | exact noSh_lit _
    | exact noSh_int _ _
    | exact noSh_str _
    | with_reducible rfl
    | with_reducible exact same_rfl
    | (refine Wr.i64 ?_ ?_; omega)
    | (refine Wr.u8 ?_ ?_; omega)
    | (refine Wr.i32 ?_ ?_; omega)
    | (with_reducible refine Br.tt ?_)
    | (with_reducible refine Br.ff ?_)
    | (refine Br.dT ?_ ?_; omega)
    | (refine Br.dF ?_ ?_; omega)
    | (exact .inl rfl)
    | (exact .inr rfl)
    | (refine Vc.om ?_ ?_; focus ((simp only [List.length_append, List.length_cons, List.length_nil]; omega); done))
    | (refine Wr.i64 ?_ ?_; focus ((simp only [List.length_append, List.length_cons, List.length_nil]; omega); done))
    | (refine Wr.u8 ?_ ?_; focus ((simp only [List.length_append, List.length_cons, List.length_nil]; omega); done))
    | (refine Br.dT ?_ ?_; focus ((simp only [List.length_append, List.length_cons, List.length_nil]; omega); done))
    | (refine Br.dF ?_ ?_; focus ((simp only [List.length_append, List.length_cons, List.length_nil]; omega); done))
    | (refine Met.by (rfold_ct (_ ++ [32] ++ _) (by simp only [List.length_append, List.length_cons, List.length_nil]; omega)) ?_; rintro q outs ⟨rfl, rfl⟩)
    | (refine Br.d (fun h => ?_) (fun h => ?_))
    | (refine Br.swap ?_)
    | (refine Br.bnot ?_)
    | (refine Br.mk (fun h => Step.out ?_) (fun h => Step.out ?_))
    | (refine Two.mk (Step.out ?_) (Step.out ?_))
    | (refine CallOK.io1 (g := 13) (Step.out ?_))
    | (refine CallOK.io1 (g := 14) (Step.out ?_))
    | (refine CallOK.of_ct (Step.out ?_))
    | (refine Met.by (g := 9) (awake_ct) ?_; rintro q outs ⟨rfl, rfl⟩)
    | (refine Met.by (g := 10) (few_ct _) ?_; rintro q outs ⟨rfl, rfl⟩)
    | (refine Met.by (g := 11) (new_ct _ (by assumption)) ?_; rintro q outs ⟨d, hd, rfl, rfl⟩)
    | (refine Met.by (g := 12) (rfold_ct _ (by first | omega | decide | (simp; done) | (simp; omega))) ?_; rintro q outs ⟨rfl, rfl⟩)
    | (refine Met.by (g := 13) (token_ct _) ?_; rintro q outs ⟨x, d, ⟨hx1, hx2, hx3⟩, rfl, rfl⟩)
    | (refine Met.by (g := 14) (dress_ct _ _ (by first | omega | decide | (simp; done) | (simp; omega))) ?_; rintro q outs ⟨x, d, ⟨hx, hxd⟩, rfl, rfl⟩)
    | (refine Met.by (g := 15) (fold_ct _ (by first | omega | decide | (simp; done) | (simp; omega))) ?_; rintro q outs ⟨rfl, rfl⟩)
    | (refine Vc.mk ?_ (Step.out ?_))
  rename_i x0 d0 b1 b2 b3
  have hf := pair_fixed b1 b3 hx1 hx3
  obtain ⟨hE, hO⟩ := fixed_fold hf (by simp only [List.length_append, List.length_cons, List.length_nil]; omega)
  have hl : (x0 ++ [32] ++ x).length ≤ 17 := by simp only [List.length_append, List.length_cons, List.length_nil]; omega
  generalize x0 ++ [32] ++ x = w at hf hE hO hl
  rw [hO, hE]
  have key : ∀ x : Str, x.length ≤ 2 * w.length + 2 → (foldedC w → validL x = true ∧ toks (rawL x) = toks w) → foldE x = 0 ∧ foldO x = w := fun x hx hxd => by
    have hd := hxd hf.1
    have hv : validS x = true := by rw [validS, hd.1, Bool.true_and]; exact decide_eq_true (by omega)
    obtain ⟨h1, h2⟩ := foldE_ok hv
    exact ⟨h1, h2.trans (fold_dressed hf hd.2)⟩
  repeat' first
    | (refine Step.mk ?_; conv => whnf)
    | (refine Vc.om ?_ ?_; first | omega | with_reducible rfl | with_reducible exact same_rfl | (simp only [bytes_2, bytes_3, bytes_4, bytes_5, bytes_9, bytes_12, bytes_21, bytes_22, bytes_25, bytes_27, bytes_32, bytes_37, bytes_42, bytes_43, bytes_44, bytes_49, bytes_51, bytes_52, bytes_53, bytes_60, bytes_64, bytes_66, bytes_67, bytes_68, bytes_78, bytes_84]; omega))
    | (refine NilB.mk fun b hb => Step.out ?_)
    | with_reducible trivial
    | exact noSh_bool _
    | exact noSh_lit _
    | exact noSh_int _ _
    | exact noSh_str _
    | with_reducible rfl
    | with_reducible exact same_rfl
    | (refine Wr.i64 ?_ ?_; omega)
    | (refine Wr.u8 ?_ ?_; omega)
    | (refine Wr.i32 ?_ ?_; omega)
    | (with_reducible refine Br.tt ?_)
    | (with_reducible refine Br.ff ?_)
    | (refine Br.dT ?_ ?_; omega)
    | (refine Br.dF ?_ ?_; omega)
    | (refine Br.d (fun h => ?_) (fun h => ?_))
    | (refine Br.swap ?_)
    | (refine Br.bnot ?_)
    | (refine Br.mk (fun h => Step.out ?_) (fun h => Step.out ?_))
    | (refine Two.mk (Step.out ?_) (Step.out ?_))
    | (refine CallOK.io1 (g := 13) (Step.out ?_))
    | (refine CallOK.io1 (g := 14) (Step.out ?_))
    | (refine CallOK.of_ct (Step.out ?_))
    | (refine Met.by (g := 9) (awake_ct) ?_; rintro q outs ⟨rfl, rfl⟩)
    | (refine Met.by (g := 10) (few_ct _) ?_; rintro q outs ⟨rfl, rfl⟩)
    | (refine Met.by (g := 11) (new_ct _ (by assumption)) ?_; rintro q outs ⟨d, hd, rfl, rfl⟩)
    | (refine Met.by (g := 12) (rfold_ct _ (by first | omega | decide | (simp; done) | (simp; omega))) ?_; rintro q outs ⟨rfl, rfl⟩)
    | (refine Met.by (g := 13) (token_ct _) ?_; rintro q outs ⟨x, d, ⟨hx1, hx2, hx3⟩, rfl, rfl⟩)
    | (refine Met.by (g := 14) (dress_ct _ _ (by first | omega | decide | (simp; done) | (simp; omega))) ?_; rintro q outs ⟨x, d, ⟨hx, hxd⟩, rfl, rfl⟩)
    | (refine Met.by (g := 15) (fold_ct _ (by first | omega | decide | (simp; done) | (simp; omega))) ?_; rintro q outs ⟨rfl, rfl⟩)
    | (refine Vc.mk ?_ (Step.out ?_))
  · exact .inl (congrArg D.bool (decide_eq_true (key x hx hxd).2.symm))
  · exact absurd (key x hx hxd).1 ‹_›
end Kx
