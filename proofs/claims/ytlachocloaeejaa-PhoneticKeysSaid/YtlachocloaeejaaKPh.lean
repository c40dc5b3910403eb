/-
  Codes of sound: the program's and the reference's functions.
  No condition beyond those written in each theorem.
-/
import Derived.Test.YtlachocloaeejaaKTk
open Go Sx Go.Proofs
set_option linter.unusedSimpArgs false
set_option linter.unusedVariables false
namespace Kx
def digTab : Str := [32,49,50,51,32,49,50,45,32,50,50,52,53,53,32,49,50,54,50,51,32,49,45,50,32,50]
/-- The digit of a letter. -/
def dig (x : UInt8) : UInt8 := digTab.getD (x.toNat - 97) 0
def rightB (s : Str) : Bool := !decide (s = []) && (decide ((s.length : Int) ≤ 64) && decide (letters s = s))
theorem all_let {s : Str} (h : letters s = s) : ∀ x ∈ s, isLet x = true := List.filter_eq_self.1 h
theorem right_of {s : Str} (h : rightB s = true) : s ≠ [] ∧ s.length ≤ 64 ∧ ∀ x ∈ s, isLet x = true := by
  simp only [rightB, Bool.and_eq_true, Bool.not_eq_true', decide_eq_false_iff_not, decide_eq_true_eq] at h
  have h2 := h.2.1
  exact ⟨h.1, by omega, all_let h.2.2⟩
theorem let_in {x : UInt8} (h : isLet x = true) : 97 ≤ (x.toNat : Int) ∧ (x.toNat : Int) ≤ 122 := by
  simpa [isLet] using h
theorem right_ct (s : Str) (hs : s.length ≤ 1000000000) : Ct Try.prog 27 [.str s] fun r outs => r = .bool (rightB s) ∧ outs = [] := by
  refine .det (.of_W (fn := Try.f27) hΓ hm (by rfl) [] [] (by kernel_rfl) (Step.out ?_))
  repeat' first
    | (refine Step.mk ?_; conv => whnf)
    | (refine Vc.om ?_ ?_; first | omega | with_reducible rfl | with_reducible exact ⟨rfl, fun _ _ => rfl⟩ | (simp only [bytes_2, bytes_3, bytes_4, bytes_5, bytes_9, bytes_12, bytes_21, bytes_22, bytes_26, bytes_29, bytes_35, bytes_36, bytes_37, bytes_40, bytes_46, bytes_50, bytes_51, bytes_52, bytes_59, bytes_63, bytes_66]; omega))
    | (refine NilB.mk fun b hb => Step.out ?_)
    | with_reducible trivial
    | exact noSh_bool _
    | exact noSh_lit _
    | exact noSh_int _ _
    | exact noSh_str _
    | with_reducible rfl
    | with_reducible exact ⟨rfl, fun _ _ => rfl⟩
    | (refine Wr.i64 ?_ ?_; omega)
    | (refine Wr.u8 ?_ ?_; omega)
    | (refine Wr.i32 ?_ ?_; omega)
    | (with_reducible refine Br.tt ?_)
    | (with_reducible refine Br.ff ?_)
    | (refine Br.dT ?_ ?_; omega)
    | (refine Br.dF ?_ ?_; omega)
    | (refine Br.d (fun h => ?_) (fun h => ?_))
    | (refine Br.swap ?_)
    | (refine Br.bnot ?_)
    | (refine Br.mk (fun h => Step.out ?_) (fun h => Step.out ?_))
    | (refine Two.mk (Step.out ?_) (Step.out ?_))
    | (refine CallOK.of_ct (Step.out ?_))
    | (refine Met.by (g := 34) (letters_ct _ (by first | omega | decide | (simp; done) | (simp; omega))) ?_; rintro q outs ⟨rfl, rfl⟩)
    | (refine Vc.mk ?_ (Step.out ?_))
  all_goals first
    | trivial
    | exact hb h
    | with_reducible rfl
    | with_reducible exact ⟨rfl, fun _ _ => rfl⟩
    | omega
    | ((simp_all [rightB]; done))
    | ((simp_all [rightB]; intros; omega))
theorem rright_ct (s : Str) (hs : s.length ≤ 1000000000) : Ct Try.prog 29 [.str s] fun r outs => r = .bool (rightB s) ∧ outs = [] := by
  refine .det (.of_W (fn := Try.f29) hΓ hm (by rfl) [] [] (by kernel_rfl) (Step.out ?_))
  repeat' first
    | (refine Step.mk ?_; conv => whnf)
    | (refine Vc.om ?_ ?_; first | omega | with_reducible rfl | with_reducible exact ⟨rfl, fun _ _ => rfl⟩ | (simp only [bytes_2, bytes_3, bytes_4, bytes_5, bytes_9, bytes_12, bytes_21, bytes_22, bytes_26, bytes_29, bytes_35, bytes_36, bytes_37, bytes_40, bytes_46, bytes_50, bytes_51, bytes_52, bytes_59, bytes_63, bytes_66]; omega))
    | (refine NilB.mk fun b hb => Step.out ?_)
    | with_reducible trivial
    | exact noSh_bool _
    | exact noSh_lit _
    | exact noSh_int _ _
    | exact noSh_str _
    | with_reducible rfl
    | with_reducible exact ⟨rfl, fun _ _ => rfl⟩
    | (refine Wr.i64 ?_ ?_; omega)
    | (refine Wr.u8 ?_ ?_; omega)
    | (refine Wr.i32 ?_ ?_; omega)
    | (with_reducible refine Br.tt ?_)
    | (with_reducible refine Br.ff ?_)
    | (refine Br.dT ?_ ?_; omega)
    | (refine Br.dF ?_ ?_; omega)
    | (refine Br.d (fun h => ?_) (fun h => ?_))
    | (refine Br.swap ?_)
    | (refine Br.bnot ?_)
    | (refine Br.mk (fun h => Step.out ?_) (fun h => Step.out ?_))
    | (refine Two.mk (Step.out ?_) (Step.out ?_))
    | (refine CallOK.of_ct (Step.out ?_))
    | (refine Met.by (g := 22) (rletters_ct _ (by first | omega | decide | (simp; done) | (simp; omega))) ?_; rintro q outs ⟨rfl, rfl⟩)
    | (refine Vc.mk ?_ (Step.out ?_))
  all_goals first
    | trivial
    | exact hb h
    | with_reducible rfl
    | with_reducible exact ⟨rfl, fun _ _ => rfl⟩
    | omega
    | ((simp_all [rightB]; done))
    | ((simp_all [rightB]; intros; omega))
theorem right_is (s : Str) (hs : s.length ≤ 1000000000) (b : Bool) (h : rightB s = b) : Ct Try.prog 27 [.str s] fun r outs => r = .bool b ∧ outs = [] := h ▸ right_ct s hs
theorem rright_is (s : Str) (hs : s.length ≤ 1000000000) (b : Bool) (h : rightB s = b) : Ct Try.prog 29 [.str s] fun r outs => r = .bool b ∧ outs = [] := h ▸ rright_ct s hs
theorem code_ct (x : UInt8) (h : isLet x = true) : Ct Try.prog 28 [u8 x.toNat] fun r outs => r = u8 (dig x).toNat ∧ outs = [] := by
  obtain ⟨h1, h2⟩ := let_in h
  refine .det (.of_W (fn := Try.f28) hΓ hm (by rfl) [] [] (by kernel_rfl) (Step.out ?_))
  repeat' first
    | (refine Step.mk ?_; conv => whnf)
    | (refine Vc.om ?_ ?_; first | omega | with_reducible rfl | with_reducible exact ⟨rfl, fun _ _ => rfl⟩ | (simp only [bytes_2, bytes_3, bytes_4, bytes_5, bytes_9, bytes_12, bytes_21, bytes_22, bytes_26, bytes_29, bytes_35, bytes_36, bytes_37, bytes_40, bytes_46, bytes_50, bytes_51, bytes_52, bytes_59, bytes_63, bytes_66]; omega))
    | (refine NilB.mk fun b hb => Step.out ?_)
    | with_reducible trivial
    | exact noSh_bool _
    | exact noSh_lit _
    | exact noSh_int _ _
    | exact noSh_str _
    | with_reducible rfl
    | with_reducible exact ⟨rfl, fun _ _ => rfl⟩
    | (refine Wr.i64 ?_ ?_; omega)
    | (refine Wr.u8 ?_ ?_; omega)
    | (refine Wr.i32 ?_ ?_; omega)
    | (with_reducible refine Br.tt ?_)
    | (with_reducible refine Br.ff ?_)
    | (refine Br.dT ?_ ?_; omega)
    | (refine Br.dF ?_ ?_; omega)
    | (refine Vc.om ?_ ?_; focus ((change _ < ((26 : Nat) : Int); omega); done))
    | (refine Wr.i64 ?_ ?_; focus ((change _ < ((26 : Nat) : Int); omega); done))
    | (refine Wr.u8 ?_ ?_; focus ((change _ < ((26 : Nat) : Int); omega); done))
    | (refine Br.dT ?_ ?_; focus ((change _ < ((26 : Nat) : Int); omega); done))
    | (refine Br.dF ?_ ?_; focus ((change _ < ((26 : Nat) : Int); omega); done))
    | (refine Vc.om ?_ ?_; focus ((refine ⟨?_, ?_⟩; omega; (change _ < ((26 : Nat) : Int); omega)); done))
    | (refine Wr.i64 ?_ ?_; focus ((refine ⟨?_, ?_⟩; omega; (change _ < ((26 : Nat) : Int); omega)); done))
    | (refine Wr.u8 ?_ ?_; focus ((refine ⟨?_, ?_⟩; omega; (change _ < ((26 : Nat) : Int); omega)); done))
    | (refine Br.dT ?_ ?_; focus ((refine ⟨?_, ?_⟩; omega; (change _ < ((26 : Nat) : Int); omega)); done))
    | (refine Br.dF ?_ ?_; focus ((refine ⟨?_, ?_⟩; omega; (change _ < ((26 : Nat) : Int); omega)); done))
    | (refine Br.d (fun h => ?_) (fun h => ?_))
    | (refine Br.swap ?_)
    | (refine Br.bnot ?_)
    | (refine Br.mk (fun h => Step.out ?_) (fun h => Step.out ?_))
    | (refine Two.mk (Step.out ?_) (Step.out ?_))
    | (refine CallOK.of_ct (Step.out ?_))
    | (refine Vc.mk ?_ (Step.out ?_))
  all_goals first
    | trivial
    | exact hb h
    | with_reducible rfl
    | with_reducible exact ⟨rfl, fun _ _ => rfl⟩
    | omega
    | ((rw [show ((x.toNat : Int) - 97).toNat = x.toNat - 97 by omega]; rfl))
def stepS (o : Str) (d : UInt8) (x : UInt8) : Str × UInt8 := if dig x = 45 then (o, d) else if dig x ≠ 32 ∧ dig x ≠ d then (o ++ [dig x], dig x) else (o, dig x)
def sdxL : Str → UInt8 → Str → Str
  | o, _, [] => o
  | o, d, x :: l => if o.length < 4 then sdxL (stepS o d x).1 (stepS o d x).2 l else o
def pad4 (o : Str) : Str := o ++ List.replicate (4 - o.length) 48
def sdx (s : Str) : Str := if rightB s = true then pad4 (sdxL [s.getD 0 0] (dig (s.getD 0 0)) (s.drop 1)) else []
theorem sdxL_end (o : Str) (d : UInt8) (l : Str) (h : l = [] ∨ ¬o.length < 4) : sdxL o d l = o := by
  cases l with
  | nil => rfl
  | cons x l => rcases h with h | h; (· cases h); (· rw [sdxL, if_neg h])
theorem sdxL_step (o : Str) (d : UInt8) (s : Str) (i : Nat) (h : i < s.length) (ho : o.length < 4) : sdxL o d (s.drop i) = sdxL (stepS o d (s.getD i 0)).1 (stepS o d (s.getD i 0)).2 (s.drop (i + 1)) := by
  rw [drop_step s 0 i h, sdxL, if_pos ho]
theorem u8_eq {x : UInt8} {n : Nat} (hn : n < 256) (h : (x.toNat : Int) = n) : x = UInt8.ofNat n := UInt8.toNat_inj.1 (by rw [UInt8.toNat_ofNat']; omega)
theorem u8_ne {x y : UInt8} (h : ¬(x.toNat : Int) = y.toNat) : x ≠ y := fun e => h (by rw [e])
theorem pad_step (o : Str) (h : o.length < 4) : pad4 (o ++ [48]) = pad4 o := by
  unfold pad4
  rw [List.length_append, show 4 - o.length = (4 - (o.length + 1)) + 1 by omega, List.replicate_succ, List.append_assoc]; rfl
theorem pad_end (o : Str) (h : ¬o.length < 4) : pad4 o = o := by
  unfold pad4
  rw [show 4 - o.length = 0 by omega]; simp
theorem stepS_skip {o : Str} {e x : UInt8} (h : ((dig x).toNat : Int) = 45) : stepS o e x = (o, e) := if_pos (u8_eq (by decide) h)
theorem stepS_none {o : Str} {e x : UInt8} (h : ((dig x).toNat : Int) = 32) : stepS o e x = (o, dig x) := by
  have h := u8_eq (n := 32) (by decide) h
  rw [stepS, if_neg (by rw [h]; decide), if_neg (fun k => k.1 (by rw [h]; rfl))]
theorem stepS_same {o : Str} {e x : UInt8} (h1 : ¬((dig x).toNat : Int) = 45) (h : ((dig x).toNat : Int) = e.toNat) : stepS o e x = (o, dig x) := by
  rw [stepS, if_neg (fun k => h1 (by rw [k]; rfl)), if_neg (fun k => k.2 (UInt8.toNat_inj.1 (by omega)))]
theorem stepS_add {o : Str} {e x : UInt8} (h1 : ¬((dig x).toNat : Int) = 45) (h2 : ¬((dig x).toNat : Int) = 32) (h : ¬((dig x).toNat : Int) = e.toNat) : stepS o e x = (o ++ [dig x], dig x) := by
  rw [stepS, if_neg (fun k => h1 (by rw [k]; rfl)), if_pos ⟨fun k => h2 (by rw [k]; rfl), u8_ne h⟩]
theorem soundex_ct (s : Str) (hs : s.length ≤ 1000000000) : Ct Try.prog 15 [.str s] fun r outs => r = .str (sdx s) ∧ outs = [] := by
  cases hr : rightB s
  · refine .det (.of_W (fn := Try.f15) hΓ hm (by rfl) ord15 [] (by kernel_rfl) (Step.out ?_))
    repeat' first
      | (refine Step.mk ?_; conv => whnf)
      | (refine Vc.om ?_ ?_; first | omega | with_reducible rfl | with_reducible exact ⟨rfl, fun _ _ => rfl⟩ | (simp only [bytes_2, bytes_3, bytes_4, bytes_5, bytes_9, bytes_12, bytes_21, bytes_22, bytes_26, bytes_29, bytes_35, bytes_36, bytes_37, bytes_40, bytes_46, bytes_50, bytes_51, bytes_52, bytes_59, bytes_63, bytes_66]; omega))
      | (refine NilB.mk fun b hb => Step.out ?_)
      | with_reducible trivial
      | exact noSh_bool _
      | exact noSh_lit _
      | exact noSh_int _ _
      | exact noSh_str _
      | with_reducible rfl
      | with_reducible exact ⟨rfl, fun _ _ => rfl⟩
      | (refine Wr.i64 ?_ ?_; omega)
      | (refine Wr.u8 ?_ ?_; omega)
      | (refine Wr.i32 ?_ ?_; omega)
      | (with_reducible refine Br.tt ?_)
      | (with_reducible refine Br.ff ?_)
      | (refine Br.dT ?_ ?_; omega)
      | (refine Br.dF ?_ ?_; omega)
      | (refine Met.by (right_is s hs _ hr) ?_; rintro q outs ⟨rfl, rfl⟩)
      | (refine Br.d (fun h => ?_) (fun h => ?_))
      | (refine Br.swap ?_)
      | (refine Br.bnot ?_)
      | (refine Br.mk (fun h => Step.out ?_) (fun h => Step.out ?_))
      | (refine Two.mk (Step.out ?_) (Step.out ?_))
      | (refine CallOK.of_ct (Step.out ?_))
      | (refine Met.by (g := 27) (right_ct _ (by first | omega | decide | (simp; done) | (simp; omega))) ?_; rintro q outs ⟨rfl, rfl⟩)
      | (refine Met.by (g := 28) (code_ct _ (by assumption)) ?_; rintro q outs ⟨rfl, rfl⟩)
      | (refine Vc.mk ?_ (Step.out ?_))
    all_goals first
      | trivial
      | exact hb h
      | with_reducible rfl
      | with_reducible exact ⟨rfl, fun _ _ => rfl⟩
      | omega
      | ((rw [sdx, hr]; rfl))
  obtain ⟨h0, h1, h2⟩ := right_of hr
  have hp : 1 ≤ s.length := List.length_pos_iff.2 h0
  have hl : ∀ i, i < s.length → isLet (s.getD i 0) = true := fun i hi => h2 _ (getD_in hi)
  have hx : sdx s = pad4 (sdxL [s.getD 0 0] (dig (s.getD 0 0)) (s.drop 1)) := by rw [sdx, if_pos hr]
  refine .det (.of_W (fn := Try.f15) hΓ hm (by rfl) ord15 [] (by kernel_rfl) (Step.out ?_))
  repeat' first
    | (refine Step.mk ?_; conv => whnf)
    | (refine Vc.om ?_ ?_; first | omega | with_reducible rfl | with_reducible exact ⟨rfl, fun _ _ => rfl⟩ | (simp only [bytes_2, bytes_3, bytes_4, bytes_5, bytes_9, bytes_12, bytes_21, bytes_22, bytes_26, bytes_29, bytes_35, bytes_36, bytes_37, bytes_40, bytes_46, bytes_50, bytes_51, bytes_52, bytes_59, bytes_63, bytes_66]; omega))
    | (refine NilB.mk fun b hb => Step.out ?_)
    | with_reducible trivial
    | exact noSh_bool _
    | exact noSh_lit _
    | exact noSh_int _ _
    | exact noSh_str _
    | with_reducible rfl
    | with_reducible exact ⟨rfl, fun _ _ => rfl⟩
    | (refine Wr.i64 ?_ ?_; omega)
    | (refine Wr.u8 ?_ ?_; omega)
    | (refine Wr.i32 ?_ ?_; omega)
    | (with_reducible refine Br.tt ?_)
    | (with_reducible refine Br.ff ?_)
    | (refine Br.dT ?_ ?_; omega)
    | (refine Br.dF ?_ ?_; omega)
    | (refine Met.by (right_is s hs _ hr) ?_; rintro q outs ⟨rfl, rfl⟩)
    | (refine Met.by (code_ct (s.getD 0 0) (hl 0 hp)) ?_; rintro q outs ⟨rfl, rfl⟩)
    | (refine Br.d (fun h => ?_) (fun h => ?_))
    | (refine Br.swap ?_)
    | (refine Br.bnot ?_)
    | (refine Br.mk (fun h => Step.out ?_) (fun h => Step.out ?_))
    | (refine Two.mk (Step.out ?_) (Step.out ?_))
    | (refine CallOK.of_ct (Step.out ?_))
    | (refine Met.by (g := 27) (right_ct _ (by first | omega | decide | (simp; done) | (simp; omega))) ?_; rintro q outs ⟨rfl, rfl⟩)
    | (refine Met.by (g := 28) (code_ct _ (by assumption)) ?_; rintro q outs ⟨rfl, rfl⟩)
    | (refine Vc.mk ?_ (Step.out ?_))
  all_goals
    refine CodeOK.loopW hΓ hm ord15 [] (by kernel_rfl) (α := Nat × Str × UInt8) (fun z => [(3, .own 0), (4, u8 z.2.2.toNat), (0, .str s), (5, i64 z.1)]) (fun z => [(0, .arr 5 1 z.2.1.length (bytesF z.2.1))]) 1 (fun z => (1 ≤ z.1 ∧ z.1 ≤ s.length) ∧ z.2.1.length ≤ z.1 ∧ sdx s = pad4 (sdxL z.2.1 z.2.2 (s.drop z.1))) (fun z => s.length - z.1) ?_ ?_
    · refine Again.by (1, [s.getD 0 0], dig (s.getD 0 0)) ⟨⟨Nat.le_refl _, hp⟩, Nat.le_refl _, hx⟩ ?_
      dsimp only
      repeat' first
        | (refine Step.mk ?_; conv => whnf)
        | (refine Vc.om ?_ ?_; first | omega | with_reducible rfl | with_reducible exact ⟨rfl, fun _ _ => rfl⟩ | (simp only [bytes_2, bytes_3, bytes_4, bytes_5, bytes_9, bytes_12, bytes_21, bytes_22, bytes_26, bytes_29, bytes_35, bytes_36, bytes_37, bytes_40, bytes_46, bytes_50, bytes_51, bytes_52, bytes_59, bytes_63, bytes_66]; omega))
        | (refine NilB.mk fun b hb => Step.out ?_)
        | with_reducible trivial
        | exact noSh_bool _
        | exact noSh_lit _
        | exact noSh_int _ _
        | exact noSh_str _
        | with_reducible rfl
        | with_reducible exact ⟨rfl, fun _ _ => rfl⟩
        | (refine Wr.i64 ?_ ?_; omega)
        | (refine Wr.u8 ?_ ?_; omega)
        | (refine Wr.i32 ?_ ?_; omega)
        | (with_reducible refine Br.tt ?_)
        | (with_reducible refine Br.ff ?_)
        | (refine Br.dT ?_ ?_; omega)
        | (refine Br.dF ?_ ?_; omega)
        | (exact ⟨rfl, fun i hi => by obtain rfl : i = 0 := (by simpa using hi); rfl⟩)
        | (refine Br.d (fun h => ?_) (fun h => ?_))
        | (refine Br.swap ?_)
        | (refine Br.bnot ?_)
        | (refine Br.mk (fun h => Step.out ?_) (fun h => Step.out ?_))
        | (refine Two.mk (Step.out ?_) (Step.out ?_))
        | (refine CallOK.of_ct (Step.out ?_))
        | (refine Met.by (g := 27) (right_ct _ (by first | omega | decide | (simp; done) | (simp; omega))) ?_; rintro q outs ⟨rfl, rfl⟩)
        | (refine Met.by (g := 28) (code_ct _ (by assumption)) ?_; rintro q outs ⟨rfl, rfl⟩)
        | (refine Vc.mk ?_ (Step.out ?_))
    · intro ⟨i, o, e⟩ ⟨⟨h3, h4⟩, h5, h6⟩
      dsimp only at h3 h4 h5 h6 ⊢
      repeat' first
        | (refine Step.mk ?_; conv => whnf)
        | (refine Vc.om ?_ ?_; first | omega | with_reducible rfl | with_reducible exact ⟨rfl, fun _ _ => rfl⟩ | (simp only [bytes_2, bytes_3, bytes_4, bytes_5, bytes_9, bytes_12, bytes_21, bytes_22, bytes_26, bytes_29, bytes_35, bytes_36, bytes_37, bytes_40, bytes_46, bytes_50, bytes_51, bytes_52, bytes_59, bytes_63, bytes_66]; omega))
        | (refine NilB.mk fun b hb => Step.out ?_)
        | with_reducible trivial
        | exact noSh_bool _
        | exact noSh_lit _
        | exact noSh_int _ _
        | exact noSh_str _
        | with_reducible rfl
        | with_reducible exact ⟨rfl, fun _ _ => rfl⟩
        | (refine Wr.i64 ?_ ?_; omega)
        | (refine Wr.u8 ?_ ?_; omega)
        | (refine Wr.i32 ?_ ?_; omega)
        | (with_reducible refine Br.tt ?_)
        | (with_reducible refine Br.ff ?_)
        | (refine Br.dT ?_ ?_; omega)
        | (refine Br.dF ?_ ?_; omega)
        | (refine Met.by (code_ct _ (hl i (by omega))) ?_; rintro q outs ⟨rfl, rfl⟩)
        | (refine Br.d (fun h => ?_) (fun h => ?_))
        | (refine Br.swap ?_)
        | (refine Br.bnot ?_)
        | (refine Br.mk (fun h => Step.out ?_) (fun h => Step.out ?_))
        | (refine Two.mk (Step.out ?_) (Step.out ?_))
        | (refine CallOK.of_ct (Step.out ?_))
        | (refine Met.by (g := 27) (right_ct _ (by first | omega | decide | (simp; done) | (simp; omega))) ?_; rintro q outs ⟨rfl, rfl⟩)
        | (refine Met.by (g := 28) (code_ct _ (by assumption)) ?_; rintro q outs ⟨rfl, rfl⟩)
        | (refine Vc.mk ?_ (Step.out ?_))
      all_goals try simp only [Int.toNat_natCast] at *
      · rw [sdxL_step o e s i (by omega) (by omega), stepS_skip ‹_›] at h6
        refine Again.by (i + 1, o, e) ⟨⟨⟨by dsimp only; omega, by dsimp only; omega⟩, by dsimp only; omega, h6⟩, by dsimp only; omega⟩ ?_
        dsimp only
        repeat' first
          | (refine Step.mk ?_; conv => whnf)
          | (refine Vc.om ?_ ?_; first | omega | with_reducible rfl | with_reducible exact ⟨rfl, fun _ _ => rfl⟩ | (simp only [bytes_2, bytes_3, bytes_4, bytes_5, bytes_9, bytes_12, bytes_21, bytes_22, bytes_26, bytes_29, bytes_35, bytes_36, bytes_37, bytes_40, bytes_46, bytes_50, bytes_51, bytes_52, bytes_59, bytes_63, bytes_66]; omega))
          | (refine NilB.mk fun b hb => Step.out ?_)
          | with_reducible trivial
          | exact noSh_bool _
          | exact noSh_lit _
          | exact noSh_int _ _
          | exact noSh_str _
          | with_reducible rfl
          | with_reducible exact ⟨rfl, fun _ _ => rfl⟩
          | (refine Wr.i64 ?_ ?_; omega)
          | (refine Wr.u8 ?_ ?_; omega)
          | (refine Wr.i32 ?_ ?_; omega)
          | (with_reducible refine Br.tt ?_)
          | (with_reducible refine Br.ff ?_)
          | (refine Br.dT ?_ ?_; omega)
          | (refine Br.dF ?_ ?_; omega)
          | (refine Br.d (fun h => ?_) (fun h => ?_))
          | (refine Br.swap ?_)
          | (refine Br.bnot ?_)
          | (refine Br.mk (fun h => Step.out ?_) (fun h => Step.out ?_))
          | (refine Two.mk (Step.out ?_) (Step.out ?_))
          | (refine CallOK.of_ct (Step.out ?_))
          | (refine Met.by (g := 27) (right_ct _ (by first | omega | decide | (simp; done) | (simp; omega))) ?_; rintro q outs ⟨rfl, rfl⟩)
          | (refine Met.by (g := 28) (code_ct _ (by assumption)) ?_; rintro q outs ⟨rfl, rfl⟩)
          | (refine Vc.mk ?_ (Step.out ?_))
      · rw [sdxL_step o e s i (by omega) (by omega), stepS_none ‹_›] at h6
        refine Again.by (i + 1, o, dig (s.getD i 0)) ⟨⟨⟨by dsimp only; omega, by dsimp only; omega⟩, by dsimp only; omega, h6⟩, by dsimp only; omega⟩ ?_
        dsimp only
        repeat' first
          | (refine Step.mk ?_; conv => whnf)
          | (refine Vc.om ?_ ?_; first | omega | with_reducible rfl | with_reducible exact ⟨rfl, fun _ _ => rfl⟩ | (simp only [bytes_2, bytes_3, bytes_4, bytes_5, bytes_9, bytes_12, bytes_21, bytes_22, bytes_26, bytes_29, bytes_35, bytes_36, bytes_37, bytes_40, bytes_46, bytes_50, bytes_51, bytes_52, bytes_59, bytes_63, bytes_66]; omega))
          | (refine NilB.mk fun b hb => Step.out ?_)
          | with_reducible trivial
          | exact noSh_bool _
          | exact noSh_lit _
          | exact noSh_int _ _
          | exact noSh_str _
          | with_reducible rfl
          | with_reducible exact ⟨rfl, fun _ _ => rfl⟩
          | (refine Wr.i64 ?_ ?_; omega)
          | (refine Wr.u8 ?_ ?_; omega)
          | (refine Wr.i32 ?_ ?_; omega)
          | (with_reducible refine Br.tt ?_)
          | (with_reducible refine Br.ff ?_)
          | (refine Br.dT ?_ ?_; omega)
          | (refine Br.dF ?_ ?_; omega)
          | (refine Br.d (fun h => ?_) (fun h => ?_))
          | (refine Br.swap ?_)
          | (refine Br.bnot ?_)
          | (refine Br.mk (fun h => Step.out ?_) (fun h => Step.out ?_))
          | (refine Two.mk (Step.out ?_) (Step.out ?_))
          | (refine CallOK.of_ct (Step.out ?_))
          | (refine Met.by (g := 27) (right_ct _ (by first | omega | decide | (simp; done) | (simp; omega))) ?_; rintro q outs ⟨rfl, rfl⟩)
          | (refine Met.by (g := 28) (code_ct _ (by assumption)) ?_; rintro q outs ⟨rfl, rfl⟩)
          | (refine Vc.mk ?_ (Step.out ?_))
      · rw [sdxL_step o e s i (by omega) (by omega), stepS_same ‹_› ‹_›] at h6
        refine Again.by (i + 1, o, dig (s.getD i 0)) ⟨⟨⟨by dsimp only; omega, by dsimp only; omega⟩, by dsimp only; omega, h6⟩, by dsimp only; omega⟩ ?_
        dsimp only
        repeat' first
          | (refine Step.mk ?_; conv => whnf)
          | (refine Vc.om ?_ ?_; first | omega | with_reducible rfl | with_reducible exact ⟨rfl, fun _ _ => rfl⟩ | (simp only [bytes_2, bytes_3, bytes_4, bytes_5, bytes_9, bytes_12, bytes_21, bytes_22, bytes_26, bytes_29, bytes_35, bytes_36, bytes_37, bytes_40, bytes_46, bytes_50, bytes_51, bytes_52, bytes_59, bytes_63, bytes_66]; omega))
          | (refine NilB.mk fun b hb => Step.out ?_)
          | with_reducible trivial
          | exact noSh_bool _
          | exact noSh_lit _
          | exact noSh_int _ _
          | exact noSh_str _
          | with_reducible rfl
          | with_reducible exact ⟨rfl, fun _ _ => rfl⟩
          | (refine Wr.i64 ?_ ?_; omega)
          | (refine Wr.u8 ?_ ?_; omega)
          | (refine Wr.i32 ?_ ?_; omega)
          | (with_reducible refine Br.tt ?_)
          | (with_reducible refine Br.ff ?_)
          | (refine Br.dT ?_ ?_; omega)
          | (refine Br.dF ?_ ?_; omega)
          | (refine Br.d (fun h => ?_) (fun h => ?_))
          | (refine Br.swap ?_)
          | (refine Br.bnot ?_)
          | (refine Br.mk (fun h => Step.out ?_) (fun h => Step.out ?_))
          | (refine Two.mk (Step.out ?_) (Step.out ?_))
          | (refine CallOK.of_ct (Step.out ?_))
          | (refine Met.by (g := 27) (right_ct _ (by first | omega | decide | (simp; done) | (simp; omega))) ?_; rintro q outs ⟨rfl, rfl⟩)
          | (refine Met.by (g := 28) (code_ct _ (by assumption)) ?_; rintro q outs ⟨rfl, rfl⟩)
          | (refine Vc.mk ?_ (Step.out ?_))
      · rw [sdxL_step o e s i (by omega) (by omega), stepS_add ‹_› ‹_› ‹_›] at h6
        refine Again.by (i + 1, o ++ [dig (s.getD i 0)], dig (s.getD i 0)) ⟨⟨⟨by dsimp only; omega, by dsimp only; omega⟩, by simp; omega, h6⟩, by dsimp only; omega⟩ ?_
        dsimp only
        repeat' first
          | (refine Step.mk ?_; conv => whnf)
          | (refine Vc.om ?_ ?_; first | omega | with_reducible rfl | with_reducible exact ⟨rfl, fun _ _ => rfl⟩ | (simp only [bytes_2, bytes_3, bytes_4, bytes_5, bytes_9, bytes_12, bytes_21, bytes_22, bytes_26, bytes_29, bytes_35, bytes_36, bytes_37, bytes_40, bytes_46, bytes_50, bytes_51, bytes_52, bytes_59, bytes_63, bytes_66]; omega))
          | (refine NilB.mk fun b hb => Step.out ?_)
          | with_reducible trivial
          | exact noSh_bool _
          | exact noSh_lit _
          | exact noSh_int _ _
          | exact noSh_str _
          | with_reducible rfl
          | with_reducible exact ⟨rfl, fun _ _ => rfl⟩
          | (refine Wr.i64 ?_ ?_; omega)
          | (refine Wr.u8 ?_ ?_; omega)
          | (refine Wr.i32 ?_ ?_; omega)
          | (with_reducible refine Br.tt ?_)
          | (with_reducible refine Br.ff ?_)
          | (refine Br.dT ?_ ?_; omega)
          | (refine Br.dF ?_ ?_; omega)
          | (exact byte_app _ _ rfl)
          | (refine Br.d (fun h => ?_) (fun h => ?_))
          | (refine Br.swap ?_)
          | (refine Br.bnot ?_)
          | (refine Br.mk (fun h => Step.out ?_) (fun h => Step.out ?_))
          | (refine Two.mk (Step.out ?_) (Step.out ?_))
          | (refine CallOK.of_ct (Step.out ?_))
          | (refine Met.by (g := 27) (right_ct _ (by first | omega | decide | (simp; done) | (simp; omega))) ?_; rintro q outs ⟨rfl, rfl⟩)
          | (refine Met.by (g := 28) (code_ct _ (by assumption)) ?_; rintro q outs ⟨rfl, rfl⟩)
          | (refine Vc.mk ?_ (Step.out ?_))
      all_goals
        rw [sdxL_end o e _ (by first | (left; exact List.drop_eq_nil_of_le (by omega)) | (right; omega))] at h6
        refine CodeOK.loopW hΓ hm ord15 [] (by kernel_rfl) (α := Str) (fun p => [(3, .own 0)]) (fun p => [(0, .arr 5 1 p.length (bytesF p))]) 1 (fun p => p.length ≤ s.length + 4 ∧ sdx s = pad4 p) (fun p => 4 - p.length) ?_ ?_
        · refine Again.by o ⟨by omega, h6⟩ ?_
          repeat' first
            | (refine Step.mk ?_; conv => whnf)
            | (refine Vc.om ?_ ?_; first | omega | with_reducible rfl | with_reducible exact ⟨rfl, fun _ _ => rfl⟩ | (simp only [bytes_2, bytes_3, bytes_4, bytes_5, bytes_9, bytes_12, bytes_21, bytes_22, bytes_26, bytes_29, bytes_35, bytes_36, bytes_37, bytes_40, bytes_46, bytes_50, bytes_51, bytes_52, bytes_59, bytes_63, bytes_66]; omega))
            | (refine NilB.mk fun b hb => Step.out ?_)
            | with_reducible trivial
            | exact noSh_bool _
            | exact noSh_lit _
            | exact noSh_int _ _
            | exact noSh_str _
            | with_reducible rfl
            | with_reducible exact ⟨rfl, fun _ _ => rfl⟩
            | (refine Wr.i64 ?_ ?_; omega)
            | (refine Wr.u8 ?_ ?_; omega)
            | (refine Wr.i32 ?_ ?_; omega)
            | (with_reducible refine Br.tt ?_)
            | (with_reducible refine Br.ff ?_)
            | (refine Br.dT ?_ ?_; omega)
            | (refine Br.dF ?_ ?_; omega)
            | (refine Br.d (fun h => ?_) (fun h => ?_))
            | (refine Br.swap ?_)
            | (refine Br.bnot ?_)
            | (refine Br.mk (fun h => Step.out ?_) (fun h => Step.out ?_))
            | (refine Two.mk (Step.out ?_) (Step.out ?_))
            | (refine CallOK.of_ct (Step.out ?_))
            | (refine Met.by (g := 27) (right_ct _ (by first | omega | decide | (simp; done) | (simp; omega))) ?_; rintro q outs ⟨rfl, rfl⟩)
            | (refine Met.by (g := 28) (code_ct _ (by assumption)) ?_; rintro q outs ⟨rfl, rfl⟩)
            | (refine Vc.mk ?_ (Step.out ?_))
        · intro p ⟨h7, h8⟩
          repeat' first
            | (refine Step.mk ?_; conv => whnf)
            | (refine Vc.om ?_ ?_; first | omega | with_reducible rfl | with_reducible exact ⟨rfl, fun _ _ => rfl⟩ | (simp only [bytes_2, bytes_3, bytes_4, bytes_5, bytes_9, bytes_12, bytes_21, bytes_22, bytes_26, bytes_29, bytes_35, bytes_36, bytes_37, bytes_40, bytes_46, bytes_50, bytes_51, bytes_52, bytes_59, bytes_63, bytes_66]; omega))
            | (refine NilB.mk fun b hb => Step.out ?_)
            | with_reducible trivial
            | exact noSh_bool _
            | exact noSh_lit _
            | exact noSh_int _ _
            | exact noSh_str _
            | with_reducible rfl
            | with_reducible exact ⟨rfl, fun _ _ => rfl⟩
            | (refine Wr.i64 ?_ ?_; omega)
            | (refine Wr.u8 ?_ ?_; omega)
            | (refine Wr.i32 ?_ ?_; omega)
            | (with_reducible refine Br.tt ?_)
            | (with_reducible refine Br.ff ?_)
            | (refine Br.dT ?_ ?_; omega)
            | (refine Br.dF ?_ ?_; omega)
            | (refine Br.d (fun h => ?_) (fun h => ?_))
            | (refine Br.swap ?_)
            | (refine Br.bnot ?_)
            | (refine Br.mk (fun h => Step.out ?_) (fun h => Step.out ?_))
            | (refine Two.mk (Step.out ?_) (Step.out ?_))
            | (refine CallOK.of_ct (Step.out ?_))
            | (refine Met.by (g := 27) (right_ct _ (by first | omega | decide | (simp; done) | (simp; omega))) ?_; rintro q outs ⟨rfl, rfl⟩)
            | (refine Met.by (g := 28) (code_ct _ (by assumption)) ?_; rintro q outs ⟨rfl, rfl⟩)
            | (refine Vc.mk ?_ (Step.out ?_))
          · refine Again.by (p ++ [48]) ⟨⟨by simp; omega, by rw [h8, pad_step p (by omega)]⟩, by simp; omega⟩ ?_
            repeat' first
              | (refine Step.mk ?_; conv => whnf)
              | (refine Vc.om ?_ ?_; first | omega | with_reducible rfl | with_reducible exact ⟨rfl, fun _ _ => rfl⟩ | (simp only [bytes_2, bytes_3, bytes_4, bytes_5, bytes_9, bytes_12, bytes_21, bytes_22, bytes_26, bytes_29, bytes_35, bytes_36, bytes_37, bytes_40, bytes_46, bytes_50, bytes_51, bytes_52, bytes_59, bytes_63, bytes_66]; omega))
              | (refine NilB.mk fun b hb => Step.out ?_)
              | with_reducible trivial
              | exact noSh_bool _
              | exact noSh_lit _
              | exact noSh_int _ _
              | exact noSh_str _
              | with_reducible rfl
              | with_reducible exact ⟨rfl, fun _ _ => rfl⟩
              | (refine Wr.i64 ?_ ?_; omega)
              | (refine Wr.u8 ?_ ?_; omega)
              | (refine Wr.i32 ?_ ?_; omega)
              | (with_reducible refine Br.tt ?_)
              | (with_reducible refine Br.ff ?_)
              | (refine Br.dT ?_ ?_; omega)
              | (refine Br.dF ?_ ?_; omega)
              | (exact byte_app _ _ rfl)
              | (refine Br.d (fun h => ?_) (fun h => ?_))
              | (refine Br.swap ?_)
              | (refine Br.bnot ?_)
              | (refine Br.mk (fun h => Step.out ?_) (fun h => Step.out ?_))
              | (refine Two.mk (Step.out ?_) (Step.out ?_))
              | (refine CallOK.of_ct (Step.out ?_))
              | (refine Met.by (g := 27) (right_ct _ (by first | omega | decide | (simp; done) | (simp; omega))) ?_; rintro q outs ⟨rfl, rfl⟩)
              | (refine Met.by (g := 28) (code_ct _ (by assumption)) ?_; rintro q outs ⟨rfl, rfl⟩)
              | (refine Vc.mk ?_ (Step.out ?_))
          · rw [pad_end p (by omega)] at h8
            refine Lf.by _ ⟨rfl, fun _ _ => rfl⟩ ?_
            repeat' first
              | (refine Step.mk ?_; conv => whnf)
              | (refine Vc.om ?_ ?_; first | omega | with_reducible rfl | with_reducible exact ⟨rfl, fun _ _ => rfl⟩ | (simp only [bytes_2, bytes_3, bytes_4, bytes_5, bytes_9, bytes_12, bytes_21, bytes_22, bytes_26, bytes_29, bytes_35, bytes_36, bytes_37, bytes_40, bytes_46, bytes_50, bytes_51, bytes_52, bytes_59, bytes_63, bytes_66]; omega))
              | (refine NilB.mk fun b hb => Step.out ?_)
              | with_reducible trivial
              | exact noSh_bool _
              | exact noSh_lit _
              | exact noSh_int _ _
              | exact noSh_str _
              | with_reducible rfl
              | with_reducible exact ⟨rfl, fun _ _ => rfl⟩
              | (refine Wr.i64 ?_ ?_; omega)
              | (refine Wr.u8 ?_ ?_; omega)
              | (refine Wr.i32 ?_ ?_; omega)
              | (with_reducible refine Br.tt ?_)
              | (with_reducible refine Br.ff ?_)
              | (refine Br.dT ?_ ?_; omega)
              | (refine Br.dF ?_ ?_; omega)
              | (exact h8.symm)
              | (refine Br.d (fun h => ?_) (fun h => ?_))
              | (refine Br.swap ?_)
              | (refine Br.bnot ?_)
              | (refine Br.mk (fun h => Step.out ?_) (fun h => Step.out ?_))
              | (refine Two.mk (Step.out ?_) (Step.out ?_))
              | (refine CallOK.of_ct (Step.out ?_))
              | (refine Met.by (g := 27) (right_ct _ (by first | omega | decide | (simp; done) | (simp; omega))) ?_; rintro q outs ⟨rfl, rfl⟩)
              | (refine Met.by (g := 28) (code_ct _ (by assumption)) ?_; rintro q outs ⟨rfl, rfl⟩)
              | (refine Vc.mk ?_ (Step.out ?_))
/-! ### The skeleton -/
def addK (o : Str) (x : UInt8) : Str := if dig x ≠ 32 ∧ dig x ≠ 45 ∧ x ≠ o.getD (o.length - 1) 0 then o ++ [x] else o
def sklL : Str → Str → Str
  | o, [] => o
  | o, x :: l => if o.length < 6 then sklL (addK o x) l else o
def skl (s : Str) : Str := if rightB s = true then sklL [s.getD 0 0] (s.drop 1) else []
theorem sklL_end (o : Str) (l : Str) (h : l = [] ∨ ¬o.length < 6) : sklL o l = o := by
  cases l with
  | nil => rfl
  | cons x l => rcases h with h | h; (· cases h); (· rw [sklL, if_neg h])
theorem sklL_step (o : Str) (s : Str) (i : Nat) (h : i < s.length) (ho : o.length < 6) : sklL o (s.drop i) = sklL (addK o (s.getD i 0)) (s.drop (i + 1)) := by
  rw [drop_step s 0 i h, sklL, if_pos ho]
theorem addK_1 {o : Str} {x : UInt8} (h : ((dig x).toNat : Int) = 32) : addK o x = o := if_neg fun k => k.1 (u8_eq (n := 32) (by decide) h)
theorem addK_2 {o : Str} {x : UInt8} (h : ((dig x).toNat : Int) = 45) : addK o x = o := if_neg fun k => k.2.1 (u8_eq (n := 45) (by decide) h)
theorem addK_3 {o : Str} {x : UInt8} (h : (x.toNat : Int) = ((o.getD (o.length - 1) 0).toNat : Int)) : addK o x = o := if_neg fun k => k.2.2 (UInt8.toNat_inj.1 (by omega))
theorem addK_4 {o : Str} {x : UInt8} (h1 : ¬((dig x).toNat : Int) = 32) (h2 : ¬((dig x).toNat : Int) = 45) (h : ¬(x.toNat : Int) = ((o.getD (o.length - 1) 0).toNat : Int)) : addK o x = o ++ [x] :=
  if_pos ⟨fun k => h1 (by rw [k]; rfl), fun k => h2 (by rw [k]; rfl), u8_ne h⟩
theorem skeleton_ct (s : Str) (hs : s.length ≤ 1000000000) : Ct Try.prog 17 [.str s] fun r outs => r = .str (skl s) ∧ outs = [] := by
  cases hr : rightB s
  · refine .det (.of_W (fn := Try.f17) hΓ hm (by rfl) ord17 [] (by kernel_rfl) (Step.out ?_))
    repeat' first
      | (refine Step.mk ?_; conv => whnf)
      | (refine Vc.om ?_ ?_; first | omega | with_reducible rfl | with_reducible exact ⟨rfl, fun _ _ => rfl⟩ | (simp only [bytes_2, bytes_3, bytes_4, bytes_5, bytes_9, bytes_12, bytes_21, bytes_22, bytes_26, bytes_29, bytes_35, bytes_36, bytes_37, bytes_40, bytes_46, bytes_50, bytes_51, bytes_52, bytes_59, bytes_63, bytes_66]; omega))
      | (refine NilB.mk fun b hb => Step.out ?_)
      | with_reducible trivial
      | exact noSh_bool _
      | exact noSh_lit _
      | exact noSh_int _ _
      | exact noSh_str _
      | with_reducible rfl
      | with_reducible exact ⟨rfl, fun _ _ => rfl⟩
      | (refine Wr.i64 ?_ ?_; omega)
      | (refine Wr.u8 ?_ ?_; omega)
      | (refine Wr.i32 ?_ ?_; omega)
      | (with_reducible refine Br.tt ?_)
      | (with_reducible refine Br.ff ?_)
      | (refine Br.dT ?_ ?_; omega)
      | (refine Br.dF ?_ ?_; omega)
      | (refine Met.by (right_is s hs _ hr) ?_; rintro q outs ⟨rfl, rfl⟩)
      | (refine Br.d (fun h => ?_) (fun h => ?_))
      | (refine Br.swap ?_)
      | (refine Br.bnot ?_)
      | (refine Br.mk (fun h => Step.out ?_) (fun h => Step.out ?_))
      | (refine Two.mk (Step.out ?_) (Step.out ?_))
      | (refine CallOK.of_ct (Step.out ?_))
      | (refine Met.by (g := 27) (right_ct _ (by first | omega | decide | (simp; done) | (simp; omega))) ?_; rintro q outs ⟨rfl, rfl⟩)
      | (refine Met.by (g := 28) (code_ct _ (by assumption)) ?_; rintro q outs ⟨rfl, rfl⟩)
      | (refine Vc.mk ?_ (Step.out ?_))
    all_goals first
      | trivial
      | exact hb h
      | with_reducible rfl
      | with_reducible exact ⟨rfl, fun _ _ => rfl⟩
      | omega
      | ((rw [skl, hr]; rfl))
  obtain ⟨h0, h1, h2⟩ := right_of hr
  have hp : 1 ≤ s.length := List.length_pos_iff.2 h0
  have hl : ∀ i, i < s.length → isLet (s.getD i 0) = true := fun i hi => h2 _ (getD_in hi)
  have hx : skl s = sklL [s.getD 0 0] (s.drop 1) := by rw [skl, if_pos hr]
  refine .det (.of_W (fn := Try.f17) hΓ hm (by rfl) ord17 [] (by kernel_rfl) (Step.out ?_))
  repeat' first
    | (refine Step.mk ?_; conv => whnf)
    | (refine Vc.om ?_ ?_; first | omega | with_reducible rfl | with_reducible exact ⟨rfl, fun _ _ => rfl⟩ | (simp only [bytes_2, bytes_3, bytes_4, bytes_5, bytes_9, bytes_12, bytes_21, bytes_22, bytes_26, bytes_29, bytes_35, bytes_36, bytes_37, bytes_40, bytes_46, bytes_50, bytes_51, bytes_52, bytes_59, bytes_63, bytes_66]; omega))
    | (refine NilB.mk fun b hb => Step.out ?_)
    | with_reducible trivial
    | exact noSh_bool _
    | exact noSh_lit _
    | exact noSh_int _ _
    | exact noSh_str _
    | with_reducible rfl
    | with_reducible exact ⟨rfl, fun _ _ => rfl⟩
    | (refine Wr.i64 ?_ ?_; omega)
    | (refine Wr.u8 ?_ ?_; omega)
    | (refine Wr.i32 ?_ ?_; omega)
    | (with_reducible refine Br.tt ?_)
    | (with_reducible refine Br.ff ?_)
    | (refine Br.dT ?_ ?_; omega)
    | (refine Br.dF ?_ ?_; omega)
    | (refine Met.by (right_is s hs _ hr) ?_; rintro q outs ⟨rfl, rfl⟩)
    | (refine Br.d (fun h => ?_) (fun h => ?_))
    | (refine Br.swap ?_)
    | (refine Br.bnot ?_)
    | (refine Br.mk (fun h => Step.out ?_) (fun h => Step.out ?_))
    | (refine Two.mk (Step.out ?_) (Step.out ?_))
    | (refine CallOK.of_ct (Step.out ?_))
    | (refine Met.by (g := 27) (right_ct _ (by first | omega | decide | (simp; done) | (simp; omega))) ?_; rintro q outs ⟨rfl, rfl⟩)
    | (refine Met.by (g := 28) (code_ct _ (by assumption)) ?_; rintro q outs ⟨rfl, rfl⟩)
    | (refine Vc.mk ?_ (Step.out ?_))
  refine CodeOK.loopW hΓ hm ord17 [] (by kernel_rfl) (α := Nat × Str) (fun z => [(3, .own 0), (0, .str s), (4, i64 z.1)]) (fun z => [(0, .arr 5 1 z.2.length (bytesF z.2))]) 1 (fun z => (1 ≤ z.1 ∧ z.1 ≤ s.length) ∧ (1 ≤ z.2.length ∧ z.2.length ≤ z.1) ∧ skl s = sklL z.2 (s.drop z.1)) (fun z => s.length - z.1) ?_ ?_
  · refine Again.by (1, [s.getD 0 0]) ⟨⟨Nat.le_refl _, hp⟩, ⟨Nat.le_refl _, Nat.le_refl _⟩, hx⟩ ?_
    dsimp only
    repeat' first
      | (refine Step.mk ?_; conv => whnf)
      | (refine Vc.om ?_ ?_; first | omega | with_reducible rfl | with_reducible exact ⟨rfl, fun _ _ => rfl⟩ | (simp only [bytes_2, bytes_3, bytes_4, bytes_5, bytes_9, bytes_12, bytes_21, bytes_22, bytes_26, bytes_29, bytes_35, bytes_36, bytes_37, bytes_40, bytes_46, bytes_50, bytes_51, bytes_52, bytes_59, bytes_63, bytes_66]; omega))
      | (refine NilB.mk fun b hb => Step.out ?_)
      | with_reducible trivial
      | exact noSh_bool _
      | exact noSh_lit _
      | exact noSh_int _ _
      | exact noSh_str _
      | with_reducible rfl
      | with_reducible exact ⟨rfl, fun _ _ => rfl⟩
      | (refine Wr.i64 ?_ ?_; omega)
      | (refine Wr.u8 ?_ ?_; omega)
      | (refine Wr.i32 ?_ ?_; omega)
      | (with_reducible refine Br.tt ?_)
      | (with_reducible refine Br.ff ?_)
      | (refine Br.dT ?_ ?_; omega)
      | (refine Br.dF ?_ ?_; omega)
      | (exact ⟨rfl, fun i hi => by obtain rfl : i = 0 := (by simpa using hi); rfl⟩)
      | (refine Br.d (fun h => ?_) (fun h => ?_))
      | (refine Br.swap ?_)
      | (refine Br.bnot ?_)
      | (refine Br.mk (fun h => Step.out ?_) (fun h => Step.out ?_))
      | (refine Two.mk (Step.out ?_) (Step.out ?_))
      | (refine CallOK.of_ct (Step.out ?_))
      | (refine Met.by (g := 27) (right_ct _ (by first | omega | decide | (simp; done) | (simp; omega))) ?_; rintro q outs ⟨rfl, rfl⟩)
      | (refine Met.by (g := 28) (code_ct _ (by assumption)) ?_; rintro q outs ⟨rfl, rfl⟩)
      | (refine Vc.mk ?_ (Step.out ?_))
  · intro ⟨i, o⟩ ⟨⟨h3, h4⟩, ⟨h5, h7⟩, h6⟩
    dsimp only at h3 h4 h5 h6 h7 ⊢
    repeat' first
      | (refine Step.mk ?_; conv => whnf)
      | (refine Vc.om ?_ ?_; first | omega | with_reducible rfl | with_reducible exact ⟨rfl, fun _ _ => rfl⟩ | (simp only [bytes_2, bytes_3, bytes_4, bytes_5, bytes_9, bytes_12, bytes_21, bytes_22, bytes_26, bytes_29, bytes_35, bytes_36, bytes_37, bytes_40, bytes_46, bytes_50, bytes_51, bytes_52, bytes_59, bytes_63, bytes_66]; omega))
      | (refine NilB.mk fun b hb => Step.out ?_)
      | with_reducible trivial
      | exact noSh_bool _
      | exact noSh_lit _
      | exact noSh_int _ _
      | exact noSh_str _
      | with_reducible rfl
      | with_reducible exact ⟨rfl, fun _ _ => rfl⟩
      | (refine Wr.i64 ?_ ?_; omega)
      | (refine Wr.u8 ?_ ?_; omega)
      | (refine Wr.i32 ?_ ?_; omega)
      | (with_reducible refine Br.tt ?_)
      | (with_reducible refine Br.ff ?_)
      | (refine Br.dT ?_ ?_; omega)
      | (refine Br.dF ?_ ?_; omega)
      | (refine Met.by (code_ct _ (hl i (by omega))) ?_; rintro q outs ⟨rfl, rfl⟩)
      | (refine Br.d (fun h => ?_) (fun h => ?_))
      | (refine Br.swap ?_)
      | (refine Br.bnot ?_)
      | (refine Br.mk (fun h => Step.out ?_) (fun h => Step.out ?_))
      | (refine Two.mk (Step.out ?_) (Step.out ?_))
      | (refine CallOK.of_ct (Step.out ?_))
      | (refine Met.by (g := 27) (right_ct _ (by first | omega | decide | (simp; done) | (simp; omega))) ?_; rintro q outs ⟨rfl, rfl⟩)
      | (refine Met.by (g := 28) (code_ct _ (by assumption)) ?_; rintro q outs ⟨rfl, rfl⟩)
      | (refine Vc.mk ?_ (Step.out ?_))
    all_goals try simp only [Int.toNat_natCast, show ((o.length : Int) - 1).toNat = o.length - 1 by omega] at *
    · rw [sklL_step o s i (by omega) (by omega), addK_1 ‹_›] at h6
      refine Again.by (i + 1, o) ⟨⟨⟨by dsimp only; omega, by dsimp only; omega⟩, ⟨by dsimp only; omega, by dsimp only; omega⟩, h6⟩, by dsimp only; omega⟩ ?_
      dsimp only
      repeat' first
        | (refine Step.mk ?_; conv => whnf)
        | (refine Vc.om ?_ ?_; first | omega | with_reducible rfl | with_reducible exact ⟨rfl, fun _ _ => rfl⟩ | (simp only [bytes_2, bytes_3, bytes_4, bytes_5, bytes_9, bytes_12, bytes_21, bytes_22, bytes_26, bytes_29, bytes_35, bytes_36, bytes_37, bytes_40, bytes_46, bytes_50, bytes_51, bytes_52, bytes_59, bytes_63, bytes_66]; omega))
        | (refine NilB.mk fun b hb => Step.out ?_)
        | with_reducible trivial
        | exact noSh_bool _
        | exact noSh_lit _
        | exact noSh_int _ _
        | exact noSh_str _
        | with_reducible rfl
        | with_reducible exact ⟨rfl, fun _ _ => rfl⟩
        | (refine Wr.i64 ?_ ?_; omega)
        | (refine Wr.u8 ?_ ?_; omega)
        | (refine Wr.i32 ?_ ?_; omega)
        | (with_reducible refine Br.tt ?_)
        | (with_reducible refine Br.ff ?_)
        | (refine Br.dT ?_ ?_; omega)
        | (refine Br.dF ?_ ?_; omega)
        | (refine Br.d (fun h => ?_) (fun h => ?_))
        | (refine Br.swap ?_)
        | (refine Br.bnot ?_)
        | (refine Br.mk (fun h => Step.out ?_) (fun h => Step.out ?_))
        | (refine Two.mk (Step.out ?_) (Step.out ?_))
        | (refine CallOK.of_ct (Step.out ?_))
        | (refine Met.by (g := 27) (right_ct _ (by first | omega | decide | (simp; done) | (simp; omega))) ?_; rintro q outs ⟨rfl, rfl⟩)
        | (refine Met.by (g := 28) (code_ct _ (by assumption)) ?_; rintro q outs ⟨rfl, rfl⟩)
        | (refine Vc.mk ?_ (Step.out ?_))
    · rw [sklL_step o s i (by omega) (by omega), addK_2 ‹_›] at h6
      refine Again.by (i + 1, o) ⟨⟨⟨by dsimp only; omega, by dsimp only; omega⟩, ⟨by dsimp only; omega, by dsimp only; omega⟩, h6⟩, by dsimp only; omega⟩ ?_
      dsimp only
      repeat' first
        | (refine Step.mk ?_; conv => whnf)
        | (refine Vc.om ?_ ?_; first | omega | with_reducible rfl | with_reducible exact ⟨rfl, fun _ _ => rfl⟩ | (simp only [bytes_2, bytes_3, bytes_4, bytes_5, bytes_9, bytes_12, bytes_21, bytes_22, bytes_26, bytes_29, bytes_35, bytes_36, bytes_37, bytes_40, bytes_46, bytes_50, bytes_51, bytes_52, bytes_59, bytes_63, bytes_66]; omega))
        | (refine NilB.mk fun b hb => Step.out ?_)
        | with_reducible trivial
        | exact noSh_bool _
        | exact noSh_lit _
        | exact noSh_int _ _
        | exact noSh_str _
        | with_reducible rfl
        | with_reducible exact ⟨rfl, fun _ _ => rfl⟩
        | (refine Wr.i64 ?_ ?_; omega)
        | (refine Wr.u8 ?_ ?_; omega)
        | (refine Wr.i32 ?_ ?_; omega)
        | (with_reducible refine Br.tt ?_)
        | (with_reducible refine Br.ff ?_)
        | (refine Br.dT ?_ ?_; omega)
        | (refine Br.dF ?_ ?_; omega)
        | (refine Br.d (fun h => ?_) (fun h => ?_))
        | (refine Br.swap ?_)
        | (refine Br.bnot ?_)
        | (refine Br.mk (fun h => Step.out ?_) (fun h => Step.out ?_))
        | (refine Two.mk (Step.out ?_) (Step.out ?_))
        | (refine CallOK.of_ct (Step.out ?_))
        | (refine Met.by (g := 27) (right_ct _ (by first | omega | decide | (simp; done) | (simp; omega))) ?_; rintro q outs ⟨rfl, rfl⟩)
        | (refine Met.by (g := 28) (code_ct _ (by assumption)) ?_; rintro q outs ⟨rfl, rfl⟩)
        | (refine Vc.mk ?_ (Step.out ?_))
    · rw [sklL_step o s i (by omega) (by omega), addK_3 ‹_›] at h6
      refine Again.by (i + 1, o) ⟨⟨⟨by dsimp only; omega, by dsimp only; omega⟩, ⟨by dsimp only; omega, by dsimp only; omega⟩, h6⟩, by dsimp only; omega⟩ ?_
      dsimp only
      repeat' first
        | (refine Step.mk ?_; conv => whnf)
        | (refine Vc.om ?_ ?_; first | omega | with_reducible rfl | with_reducible exact ⟨rfl, fun _ _ => rfl⟩ | (simp only [bytes_2, bytes_3, bytes_4, bytes_5, bytes_9, bytes_12, bytes_21, bytes_22, bytes_26, bytes_29, bytes_35, bytes_36, bytes_37, bytes_40, bytes_46, bytes_50, bytes_51, bytes_52, bytes_59, bytes_63, bytes_66]; omega))
        | (refine NilB.mk fun b hb => Step.out ?_)
        | with_reducible trivial
        | exact noSh_bool _
        | exact noSh_lit _
        | exact noSh_int _ _
        | exact noSh_str _
        | with_reducible rfl
        | with_reducible exact ⟨rfl, fun _ _ => rfl⟩
        | (refine Wr.i64 ?_ ?_; omega)
        | (refine Wr.u8 ?_ ?_; omega)
        | (refine Wr.i32 ?_ ?_; omega)
        | (with_reducible refine Br.tt ?_)
        | (with_reducible refine Br.ff ?_)
        | (refine Br.dT ?_ ?_; omega)
        | (refine Br.dF ?_ ?_; omega)
        | (refine Br.d (fun h => ?_) (fun h => ?_))
        | (refine Br.swap ?_)
        | (refine Br.bnot ?_)
        | (refine Br.mk (fun h => Step.out ?_) (fun h => Step.out ?_))
        | (refine Two.mk (Step.out ?_) (Step.out ?_))
        | (refine CallOK.of_ct (Step.out ?_))
        | (refine Met.by (g := 27) (right_ct _ (by first | omega | decide | (simp; done) | (simp; omega))) ?_; rintro q outs ⟨rfl, rfl⟩)
        | (refine Met.by (g := 28) (code_ct _ (by assumption)) ?_; rintro q outs ⟨rfl, rfl⟩)
        | (refine Vc.mk ?_ (Step.out ?_))
    · rw [sklL_step o s i (by omega) (by omega), addK_4 ‹_› ‹_› ‹_›] at h6
      refine Again.by (i + 1, o ++ [s.getD i 0]) ⟨⟨⟨by dsimp only; omega, by dsimp only; omega⟩, ⟨by simp, by simp; omega⟩, h6⟩, by dsimp only; omega⟩ ?_
      dsimp only
      repeat' first
        | (refine Step.mk ?_; conv => whnf)
        | (refine Vc.om ?_ ?_; first | omega | with_reducible rfl | with_reducible exact ⟨rfl, fun _ _ => rfl⟩ | (simp only [bytes_2, bytes_3, bytes_4, bytes_5, bytes_9, bytes_12, bytes_21, bytes_22, bytes_26, bytes_29, bytes_35, bytes_36, bytes_37, bytes_40, bytes_46, bytes_50, bytes_51, bytes_52, bytes_59, bytes_63, bytes_66]; omega))
        | (refine NilB.mk fun b hb => Step.out ?_)
        | with_reducible trivial
        | exact noSh_bool _
        | exact noSh_lit _
        | exact noSh_int _ _
        | exact noSh_str _
        | with_reducible rfl
        | with_reducible exact ⟨rfl, fun _ _ => rfl⟩
        | (refine Wr.i64 ?_ ?_; omega)
        | (refine Wr.u8 ?_ ?_; omega)
        | (refine Wr.i32 ?_ ?_; omega)
        | (with_reducible refine Br.tt ?_)
        | (with_reducible refine Br.ff ?_)
        | (refine Br.dT ?_ ?_; omega)
        | (refine Br.dF ?_ ?_; omega)
        | (exact byte_app _ _ rfl)
        | (refine Br.d (fun h => ?_) (fun h => ?_))
        | (refine Br.swap ?_)
        | (refine Br.bnot ?_)
        | (refine Br.mk (fun h => Step.out ?_) (fun h => Step.out ?_))
        | (refine Two.mk (Step.out ?_) (Step.out ?_))
        | (refine CallOK.of_ct (Step.out ?_))
        | (refine Met.by (g := 27) (right_ct _ (by first | omega | decide | (simp; done) | (simp; omega))) ?_; rintro q outs ⟨rfl, rfl⟩)
        | (refine Met.by (g := 28) (code_ct _ (by assumption)) ?_; rintro q outs ⟨rfl, rfl⟩)
        | (refine Vc.mk ?_ (Step.out ?_))
    all_goals
      rw [sklL_end o _ (by first | (left; exact List.drop_eq_nil_of_le (by omega)) | (right; omega))] at h6
      refine Lf.by _ ⟨rfl, fun _ _ => rfl⟩ ?_
      repeat' first
        | (refine Step.mk ?_; conv => whnf)
        | (refine Vc.om ?_ ?_; first | omega | with_reducible rfl | with_reducible exact ⟨rfl, fun _ _ => rfl⟩ | (simp only [bytes_2, bytes_3, bytes_4, bytes_5, bytes_9, bytes_12, bytes_21, bytes_22, bytes_26, bytes_29, bytes_35, bytes_36, bytes_37, bytes_40, bytes_46, bytes_50, bytes_51, bytes_52, bytes_59, bytes_63, bytes_66]; omega))
        | (refine NilB.mk fun b hb => Step.out ?_)
        | with_reducible trivial
        | exact noSh_bool _
        | exact noSh_lit _
        | exact noSh_int _ _
        | exact noSh_str _
        | with_reducible rfl
        | with_reducible exact ⟨rfl, fun _ _ => rfl⟩
        | (refine Wr.i64 ?_ ?_; omega)
        | (refine Wr.u8 ?_ ?_; omega)
        | (refine Wr.i32 ?_ ?_; omega)
        | (with_reducible refine Br.tt ?_)
        | (with_reducible refine Br.ff ?_)
        | (refine Br.dT ?_ ?_; omega)
        | (refine Br.dF ?_ ?_; omega)
        | (exact h6.symm)
        | (refine Br.d (fun h => ?_) (fun h => ?_))
        | (refine Br.swap ?_)
        | (refine Br.bnot ?_)
        | (refine Br.mk (fun h => Step.out ?_) (fun h => Step.out ?_))
        | (refine Two.mk (Step.out ?_) (Step.out ?_))
        | (refine CallOK.of_ct (Step.out ?_))
        | (refine Met.by (g := 27) (right_ct _ (by first | omega | decide | (simp; done) | (simp; omega))) ?_; rintro q outs ⟨rfl, rfl⟩)
        | (refine Met.by (g := 28) (code_ct _ (by assumption)) ?_; rintro q outs ⟨rfl, rfl⟩)
        | (refine Vc.mk ?_ (Step.out ?_))
end Kx
