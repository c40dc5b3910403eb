/-
  The statements on codes of sound.
  No condition beyond those written in each theorem.
-/
import Derived.Test.YtlachocloaeejaaKPr
open Go Sx Go.Proofs
set_option linter.unusedSimpArgs false
set_option linter.unusedVariables false
namespace Kx
theorem awake_ct : Ct Try.prog 8 [] fun r outs => r = .bool true ∧ outs = [] := by
  refine .det (.of_W (fn := Try.f8) hΓ hm (by rfl) [] [] (by kernel_rfl) (Step.out ?_))
  repeat' first
    | (refine Step.mk ?_; conv => whnf)
    | (refine Vc.om ?_ ?_; first | omega | with_reducible rfl | with_reducible exact ⟨rfl, fun _ _ => rfl⟩ | (simp only [bytes_2, bytes_3, bytes_4, bytes_5, bytes_9, bytes_12, bytes_21, bytes_22, bytes_26, bytes_29, bytes_35, bytes_36, bytes_37, bytes_40, bytes_46, bytes_50, bytes_51, bytes_52, bytes_59, bytes_63, bytes_66]; omega))
    | (refine NilB.mk fun b hb => Step.out ?_)
    | with_reducible trivial
    | exact noSh_bool _
    | exact noSh_lit _
    | exact noSh_int _ _
    | exact noSh_str _
    | with_reducible rfl
    | with_reducible exact ⟨rfl, fun _ _ => rfl⟩
    | (refine Wr.i64 ?_ ?_; omega)
    | (refine Wr.u8 ?_ ?_; omega)
    | (refine Wr.i32 ?_ ?_; omega)
    | (with_reducible refine Br.tt ?_)
    | (with_reducible refine Br.ff ?_)
    | (refine Br.dT ?_ ?_; omega)
    | (refine Br.dF ?_ ?_; omega)
    | (refine Br.dT (by decide) ?_)
    | (refine Br.d (fun h => ?_) (fun h => ?_))
    | (refine Br.swap ?_)
    | (refine Br.bnot ?_)
    | (refine Br.mk (fun h => Step.out ?_) (fun h => Step.out ?_))
    | (refine Two.mk (Step.out ?_) (Step.out ?_))
    | (refine CallOK.of_ct (Step.out ?_))
    | (refine Met.by (g := 13) (same_ct _ _ (by first | omega | decide | (simp; done) | (simp; omega)) (by first | omega | decide | (simp; done) | (simp; omega))) ?_; rintro q outs ⟨rfl, rfl⟩)
    | (refine Met.by (g := 15) (soundex_ct _ (by first | omega | decide | (simp; done) | (simp; omega))) ?_; rintro q outs ⟨rfl, rfl⟩)
    | (refine Met.by (g := 17) (skeleton_ct _ (by first | omega | decide | (simp; done) | (simp; omega))) ?_; rintro q outs ⟨rfl, rfl⟩)
    | (refine Met.by (g := 19) (key_ct _ (by first | omega | decide | (simp; done) | (simp; omega))) ?_; rintro q outs ⟨rfl, rfl⟩)
    | (refine Vc.mk ?_ (Step.out ?_))
  all_goals first
    | trivial
    | exact hb h
    | with_reducible rfl
    | with_reducible exact ⟨rfl, fun _ _ => rfl⟩
    | omega
    | ((decide))
def Yes (q : D) : Prop := q = .bool true ∨ q = .lit true
theorem all_two {s t : Str} {p : Str → Bool} (h : [s, t].all p = true) : p s = true ∧ p t = true := by simpa using h
set_option maxHeartbeats 2000000 in
theorem exact_ct (l : List Int) (s t : Str) : Ct Try.prog 3 [ints l, .str s, .str t] fun q _ => Yes q := by
  refine .of_W (fn := Try.f3) hΓ hm (by rfl) [] [] (by kernel_rfl) (Step.out ?_)
  repeat' first
    | (refine Step.mk ?_; conv => whnf)
    | (refine Vc.om ?_ ?_; first | omega | with_reducible rfl | with_reducible exact ⟨rfl, fun _ _ => rfl⟩ | (simp only [bytes_2, bytes_3, bytes_4, bytes_5, bytes_9, bytes_12, bytes_21, bytes_22, bytes_26, bytes_29, bytes_35, bytes_36, bytes_37, bytes_40, bytes_46, bytes_50, bytes_51, bytes_52, bytes_59, bytes_63, bytes_66]; omega))
    | (refine NilB.mk fun b hb => Step.out ?_)
    | with_reducible trivial
    | exact noSh_bool _
    | exact noSh_lit _
    | exact noSh_int _ _
    | exact noSh_str _
    | with_reducible rfl
    | with_reducible exact ⟨rfl, fun _ _ => rfl⟩
    | (refine Wr.i64 ?_ ?_; omega)
    | (refine Wr.u8 ?_ ?_; omega)
    | (refine Wr.i32 ?_ ?_; omega)
    | (with_reducible refine Br.tt ?_)
    | (with_reducible refine Br.ff ?_)
    | (refine Br.dT ?_ ?_; omega)
    | (refine Br.dF ?_ ?_; omega)
    | (exact .inl rfl)
    | (exact .inr rfl)
    | (refine Met.by (Ct.lit1 [s, t] (short_ct [s, t] (by first | omega | decide | (simp; done) | (simp; omega)))) ?_; rintro q outs ⟨rfl, rfl⟩)
    | (refine Vc.om ?_ ?_; focus (simp; omega; done))
    | (refine Wr.i64 ?_ ?_; focus (simp; omega; done))
    | (refine Wr.u8 ?_ ?_; focus (simp; omega; done))
    | (refine Br.dT ?_ ?_; focus (simp; omega; done))
    | (refine Br.dF ?_ ?_; focus (simp; omega; done))
    | (refine Br.d (fun h => ?_) (fun h => ?_))
    | (refine Br.swap ?_)
    | (refine Br.bnot ?_)
    | (refine Br.mk (fun h => Step.out ?_) (fun h => Step.out ?_))
    | (refine Two.mk (Step.out ?_) (Step.out ?_))
    | (refine CallOK.io1 (g := 12) (Step.out ?_))
    | (refine CallOK.of_ct (Step.out ?_))
    | (refine Met.by (g := 8) (awake_ct) ?_; rintro q outs ⟨rfl, rfl⟩)
    | (refine Met.by (g := 9) (few_ct _) ?_; rintro q outs ⟨rfl, rfl⟩)
    | (refine Met.by (g := 10) (short_ct _ (by first | omega | decide | (simp; done) | (simp; omega))) ?_; rintro q outs ⟨rfl, rfl⟩)
    | (refine Met.by (g := 11) (new_ct _ (by assumption)) ?_; rintro q outs ⟨d, hd, rfl, rfl⟩)
    | (refine Met.by (g := 12) (token_ct _) ?_; rintro q outs ⟨x, d, ⟨hx1, hx2, hx3⟩, rfl, rfl⟩)
    | (refine Met.by (g := 13) (same_ct _ _ (by first | omega | decide | (simp; done) | (simp; omega)) (by first | omega | decide | (simp; done) | (simp; omega))) ?_; rintro q outs ⟨rfl, rfl⟩)
    | (refine Met.by (g := 14) (rsame_ct _ _ (by first | omega | decide | (simp; done) | (simp; omega)) (by first | omega | decide | (simp; done) | (simp; omega))) ?_; rintro q outs ⟨rfl, rfl⟩)
    | (refine Met.by (g := 15) (soundex_ct _ (by first | omega | decide | (simp; done) | (simp; omega))) ?_; rintro q outs ⟨rfl, rfl⟩)
    | (refine Met.by (g := 16) (rsoundex_ct _ (by first | omega | decide | (simp; done) | (simp; omega))) ?_; rintro q outs ⟨rfl, rfl⟩)
    | (refine Met.by (g := 17) (skeleton_ct _ (by first | omega | decide | (simp; done) | (simp; omega))) ?_; rintro q outs ⟨rfl, rfl⟩)
    | (refine Met.by (g := 18) (rskeleton_ct _ (by first | omega | decide | (simp; done) | (simp; omega))) ?_; rintro q outs ⟨rfl, rfl⟩)
    | (refine Met.by (g := 19) (key_ct _ (by first | omega | decide | (simp; done) | (simp; omega))) ?_; rintro q outs ⟨rfl, rfl⟩)
    | (refine Met.by (g := 20) (rkey_ct _ (by first | omega | decide | (simp; done) | (simp; omega))) ?_; rintro q outs ⟨rfl, rfl⟩)
    | (refine Vc.mk ?_ (Step.out ?_))
  have hs := all_two ‹_›
  simp only [decide_eq_true_eq] at hs
  rename_i x0 d0 a1 a2 a3 x1 d1 b1 b2 b3 y d2 c1 c2 c3
  obtain ⟨w, hw⟩ : ∃ w, w = x0 ++ x1 := ⟨_, rfl⟩
  rw [← hw]
  have hwl : w.length ≤ 16 := by rw [hw, List.length_append]; omega
  have hL : ∀ q ∈ [s, t, w, y, x ++ [32] ++ w], q.length ≤ 1000 := by
    intro q hq
    simp only [List.mem_cons, List.not_mem_nil, or_false] at hq
    rcases hq with rfl | rfl | rfl | rfl | rfl <;> (try simp only [List.length_append, List.length_cons, List.length_nil]) <;> omega
  have hM : ∀ q ∈ [s, t, w], q.length ≤ 1000 := by
    intro q hq
    simp only [List.mem_cons, List.not_mem_nil, or_false] at hq
    rcases hq with rfl | rfl | rfl <;> omega
  have hsel : 5 = [s, t, w, y, x ++ [32] ++ w].length ∧ ∀ i, i < [s, t, w, y, x ++ [32] ++ w].length → selC [[.str s], [.str t], [.str w], [.str y], [.str (x ++ [32] ++ w)]] i = [.str ([s, t, w, y, x ++ [32] ++ w].getD i [])] := ⟨rfl, selC_str [s, t, w, y, x ++ [32] ++ w]⟩
  have hsel3 : 3 = [s, t, w].length ∧ ∀ i, i < [s, t, w].length → selC [[.str s], [.str t], [.str w]] i = [.str ([s, t, w].getD i [])] := ⟨rfl, selC_str [s, t, w]⟩
  generalize [s, t, w, y, x ++ [32] ++ w] = L at hL hsel
  generalize hN : [s, t, w] = N at hM hsel3
  have e5 := hsel.1
  have e3 := hsel3.1
  refine CodeOK.loopW hΓ hm [] [] (by kernel_rfl) (α := Nat) (fun i => [(1, .str s), (2, .str t), (8, .str w), (45, strs L), (46, i64 5), (47, i64 i)]) (fun i => []) 0 (fun i => i ≤ 5) (fun i => 5 - i) ?_ ?_
  · refine Again.by 0 (Nat.zero_le _) ?_
    repeat' first
      | (exact hsel)
      | (refine Step.mk ?_; conv => whnf)
      | (refine Vc.om ?_ ?_; first | omega | with_reducible rfl | with_reducible exact ⟨rfl, fun _ _ => rfl⟩ | (simp only [bytes_2, bytes_3, bytes_4, bytes_5, bytes_9, bytes_12, bytes_21, bytes_22, bytes_26, bytes_29, bytes_35, bytes_36, bytes_37, bytes_40, bytes_46, bytes_50, bytes_51, bytes_52, bytes_59, bytes_63, bytes_66]; omega))
      | (refine NilB.mk fun b hb => Step.out ?_)
      | with_reducible trivial
      | exact noSh_bool _
      | exact noSh_lit _
      | exact noSh_int _ _
      | exact noSh_str _
      | with_reducible rfl
      | with_reducible exact ⟨rfl, fun _ _ => rfl⟩
      | (refine Wr.i64 ?_ ?_; omega)
      | (refine Wr.u8 ?_ ?_; omega)
      | (refine Wr.i32 ?_ ?_; omega)
      | (with_reducible refine Br.tt ?_)
      | (with_reducible refine Br.ff ?_)
      | (refine Br.dT ?_ ?_; omega)
      | (refine Br.dF ?_ ?_; omega)
      | (refine Br.d (fun h => ?_) (fun h => ?_))
      | (refine Br.swap ?_)
      | (refine Br.bnot ?_)
      | (refine Br.mk (fun h => Step.out ?_) (fun h => Step.out ?_))
      | (refine Two.mk (Step.out ?_) (Step.out ?_))
      | (refine CallOK.io1 (g := 12) (Step.out ?_))
      | (refine CallOK.of_ct (Step.out ?_))
      | (refine Met.by (g := 8) (awake_ct) ?_; rintro q outs ⟨rfl, rfl⟩)
      | (refine Met.by (g := 9) (few_ct _) ?_; rintro q outs ⟨rfl, rfl⟩)
      | (refine Met.by (g := 10) (short_ct _ (by first | omega | decide | (simp; done) | (simp; omega))) ?_; rintro q outs ⟨rfl, rfl⟩)
      | (refine Met.by (g := 11) (new_ct _ (by assumption)) ?_; rintro q outs ⟨d, hd, rfl, rfl⟩)
      | (refine Met.by (g := 12) (token_ct _) ?_; rintro q outs ⟨x, d, ⟨hx1, hx2, hx3⟩, rfl, rfl⟩)
      | (refine Met.by (g := 13) (same_ct _ _ (by first | omega | decide | (simp; done) | (simp; omega)) (by first | omega | decide | (simp; done) | (simp; omega))) ?_; rintro q outs ⟨rfl, rfl⟩)
      | (refine Met.by (g := 14) (rsame_ct _ _ (by first | omega | decide | (simp; done) | (simp; omega)) (by first | omega | decide | (simp; done) | (simp; omega))) ?_; rintro q outs ⟨rfl, rfl⟩)
      | (refine Met.by (g := 15) (soundex_ct _ (by first | omega | decide | (simp; done) | (simp; omega))) ?_; rintro q outs ⟨rfl, rfl⟩)
      | (refine Met.by (g := 16) (rsoundex_ct _ (by first | omega | decide | (simp; done) | (simp; omega))) ?_; rintro q outs ⟨rfl, rfl⟩)
      | (refine Met.by (g := 17) (skeleton_ct _ (by first | omega | decide | (simp; done) | (simp; omega))) ?_; rintro q outs ⟨rfl, rfl⟩)
      | (refine Met.by (g := 18) (rskeleton_ct _ (by first | omega | decide | (simp; done) | (simp; omega))) ?_; rintro q outs ⟨rfl, rfl⟩)
      | (refine Met.by (g := 19) (key_ct _ (by first | omega | decide | (simp; done) | (simp; omega))) ?_; rintro q outs ⟨rfl, rfl⟩)
      | (refine Met.by (g := 20) (rkey_ct _ (by first | omega | decide | (simp; done) | (simp; omega))) ?_; rintro q outs ⟨rfl, rfl⟩)
      | (refine Vc.mk ?_ (Step.out ?_))
  · intro i hi
    repeat' first
      | (refine Step.mk ?_; conv => whnf)
      | (refine Vc.om ?_ ?_; first | omega | with_reducible rfl | with_reducible exact ⟨rfl, fun _ _ => rfl⟩ | (simp only [bytes_2, bytes_3, bytes_4, bytes_5, bytes_9, bytes_12, bytes_21, bytes_22, bytes_26, bytes_29, bytes_35, bytes_36, bytes_37, bytes_40, bytes_46, bytes_50, bytes_51, bytes_52, bytes_59, bytes_63, bytes_66]; omega))
      | (refine NilB.mk fun b hb => Step.out ?_)
      | with_reducible trivial
      | exact noSh_bool _
      | exact noSh_lit _
      | exact noSh_int _ _
      | exact noSh_str _
      | with_reducible rfl
      | with_reducible exact ⟨rfl, fun _ _ => rfl⟩
      | (refine Wr.i64 ?_ ?_; omega)
      | (refine Wr.u8 ?_ ?_; omega)
      | (refine Wr.i32 ?_ ?_; omega)
      | (with_reducible refine Br.tt ?_)
      | (with_reducible refine Br.ff ?_)
      | (refine Br.dT ?_ ?_; omega)
      | (refine Br.dF ?_ ?_; omega)
      | (refine Vc.om ?_ ?_; focus (rw [← e5]; omega; done))
      | (refine Wr.i64 ?_ ?_; focus (rw [← e5]; omega; done))
      | (refine Wr.u8 ?_ ?_; focus (rw [← e5]; omega; done))
      | (refine Br.dT ?_ ?_; focus (rw [← e5]; omega; done))
      | (refine Br.dF ?_ ?_; focus (rw [← e5]; omega; done))
      | (refine Br.d (fun h => ?_) (fun h => ?_))
      | (refine Br.swap ?_)
      | (refine Br.bnot ?_)
      | (refine Br.mk (fun h => Step.out ?_) (fun h => Step.out ?_))
      | (refine Two.mk (Step.out ?_) (Step.out ?_))
      | (refine CallOK.io1 (g := 12) (Step.out ?_))
      | (refine CallOK.of_ct (Step.out ?_))
      | (refine Met.by (g := 8) (awake_ct) ?_; rintro q outs ⟨rfl, rfl⟩)
      | (refine Met.by (g := 9) (few_ct _) ?_; rintro q outs ⟨rfl, rfl⟩)
      | (refine Met.by (g := 10) (short_ct _ (by first | omega | decide | (simp; done) | (simp; omega))) ?_; rintro q outs ⟨rfl, rfl⟩)
      | (refine Met.by (g := 11) (new_ct _ (by assumption)) ?_; rintro q outs ⟨d, hd, rfl, rfl⟩)
      | (refine Met.by (g := 12) (token_ct _) ?_; rintro q outs ⟨x, d, ⟨hx1, hx2, hx3⟩, rfl, rfl⟩)
      | (refine Met.by (g := 13) (same_ct _ _ (by first | omega | decide | (simp; done) | (simp; omega)) (by first | omega | decide | (simp; done) | (simp; omega))) ?_; rintro q outs ⟨rfl, rfl⟩)
      | (refine Met.by (g := 14) (rsame_ct _ _ (by first | omega | decide | (simp; done) | (simp; omega)) (by first | omega | decide | (simp; done) | (simp; omega))) ?_; rintro q outs ⟨rfl, rfl⟩)
      | (refine Met.by (g := 15) (soundex_ct _ (by first | omega | decide | (simp; done) | (simp; omega))) ?_; rintro q outs ⟨rfl, rfl⟩)
      | (refine Met.by (g := 16) (rsoundex_ct _ (by first | omega | decide | (simp; done) | (simp; omega))) ?_; rintro q outs ⟨rfl, rfl⟩)
      | (refine Met.by (g := 17) (skeleton_ct _ (by first | omega | decide | (simp; done) | (simp; omega))) ?_; rintro q outs ⟨rfl, rfl⟩)
      | (refine Met.by (g := 18) (rskeleton_ct _ (by first | omega | decide | (simp; done) | (simp; omega))) ?_; rintro q outs ⟨rfl, rfl⟩)
      | (refine Met.by (g := 19) (key_ct _ (by first | omega | decide | (simp; done) | (simp; omega))) ?_; rintro q outs ⟨rfl, rfl⟩)
      | (refine Met.by (g := 20) (rkey_ct _ (by first | omega | decide | (simp; done) | (simp; omega))) ?_; rintro q outs ⟨rfl, rfl⟩)
      | (refine Vc.mk ?_ (Step.out ?_))
    · have ha := hL (L.getD i []) (getD_in (by omega))
      refine CodeOK.loopW hΓ hm [] [] (by kernel_rfl) (α := Nat) (fun j => [(1, .str s), (2, .str t), (8, .str w), (45, strs L), (46, i64 5), (47, i64 i), (10, .str (L.getD i [])), (54, strs N), (55, i64 3), (56, i64 j)]) (fun j => []) 0 (fun j => j ≤ 3) (fun j => 3 - j) ?_ ?_
      · refine Again.by 0 (Nat.zero_le _) ?_
        repeat' first
          | (exact hsel3)
          | (refine Step.mk ?_; conv => whnf)
          | (refine Vc.om ?_ ?_; first | omega | with_reducible rfl | with_reducible exact ⟨rfl, fun _ _ => rfl⟩ | (simp only [bytes_2, bytes_3, bytes_4, bytes_5, bytes_9, bytes_12, bytes_21, bytes_22, bytes_26, bytes_29, bytes_35, bytes_36, bytes_37, bytes_40, bytes_46, bytes_50, bytes_51, bytes_52, bytes_59, bytes_63, bytes_66]; omega))
          | (refine NilB.mk fun b hb => Step.out ?_)
          | with_reducible trivial
          | exact noSh_bool _
          | exact noSh_lit _
          | exact noSh_int _ _
          | exact noSh_str _
          | with_reducible rfl
          | with_reducible exact ⟨rfl, fun _ _ => rfl⟩
          | (refine Wr.i64 ?_ ?_; omega)
          | (refine Wr.u8 ?_ ?_; omega)
          | (refine Wr.i32 ?_ ?_; omega)
          | (with_reducible refine Br.tt ?_)
          | (with_reducible refine Br.ff ?_)
          | (refine Br.dT ?_ ?_; omega)
          | (refine Br.dF ?_ ?_; omega)
          | (rfl)
          | (refine Br.d (fun h => ?_) (fun h => ?_))
          | (refine Br.swap ?_)
          | (refine Br.bnot ?_)
          | (refine Br.mk (fun h => Step.out ?_) (fun h => Step.out ?_))
          | (refine Two.mk (Step.out ?_) (Step.out ?_))
          | (refine CallOK.io1 (g := 12) (Step.out ?_))
          | (refine CallOK.of_ct (Step.out ?_))
          | (refine Met.by (g := 8) (awake_ct) ?_; rintro q outs ⟨rfl, rfl⟩)
          | (refine Met.by (g := 9) (few_ct _) ?_; rintro q outs ⟨rfl, rfl⟩)
          | (refine Met.by (g := 10) (short_ct _ (by first | omega | decide | (simp; done) | (simp; omega))) ?_; rintro q outs ⟨rfl, rfl⟩)
          | (refine Met.by (g := 11) (new_ct _ (by assumption)) ?_; rintro q outs ⟨d, hd, rfl, rfl⟩)
          | (refine Met.by (g := 12) (token_ct _) ?_; rintro q outs ⟨x, d, ⟨hx1, hx2, hx3⟩, rfl, rfl⟩)
          | (refine Met.by (g := 13) (same_ct _ _ (by first | omega | decide | (simp; done) | (simp; omega)) (by first | omega | decide | (simp; done) | (simp; omega))) ?_; rintro q outs ⟨rfl, rfl⟩)
          | (refine Met.by (g := 14) (rsame_ct _ _ (by first | omega | decide | (simp; done) | (simp; omega)) (by first | omega | decide | (simp; done) | (simp; omega))) ?_; rintro q outs ⟨rfl, rfl⟩)
          | (refine Met.by (g := 15) (soundex_ct _ (by first | omega | decide | (simp; done) | (simp; omega))) ?_; rintro q outs ⟨rfl, rfl⟩)
          | (refine Met.by (g := 16) (rsoundex_ct _ (by first | omega | decide | (simp; done) | (simp; omega))) ?_; rintro q outs ⟨rfl, rfl⟩)
          | (refine Met.by (g := 17) (skeleton_ct _ (by first | omega | decide | (simp; done) | (simp; omega))) ?_; rintro q outs ⟨rfl, rfl⟩)
          | (refine Met.by (g := 18) (rskeleton_ct _ (by first | omega | decide | (simp; done) | (simp; omega))) ?_; rintro q outs ⟨rfl, rfl⟩)
          | (refine Met.by (g := 19) (key_ct _ (by first | omega | decide | (simp; done) | (simp; omega))) ?_; rintro q outs ⟨rfl, rfl⟩)
          | (refine Met.by (g := 20) (rkey_ct _ (by first | omega | decide | (simp; done) | (simp; omega))) ?_; rintro q outs ⟨rfl, rfl⟩)
          | (refine Vc.mk ?_ (Step.out ?_))
      · intro j hj
        have hb := fun h : j < 3 => hM (N.getD j []) (getD_in (by omega))
        repeat' first
          | (refine Step.mk ?_; conv => whnf)
          | (refine Vc.om ?_ ?_; first | omega | with_reducible rfl | with_reducible exact ⟨rfl, fun _ _ => rfl⟩ | (simp only [bytes_2, bytes_3, bytes_4, bytes_5, bytes_9, bytes_12, bytes_21, bytes_22, bytes_26, bytes_29, bytes_35, bytes_36, bytes_37, bytes_40, bytes_46, bytes_50, bytes_51, bytes_52, bytes_59, bytes_63, bytes_66]; omega))
          | (refine NilB.mk fun b hb => Step.out ?_)
          | with_reducible trivial
          | exact noSh_bool _
          | exact noSh_lit _
          | exact noSh_int _ _
          | exact noSh_str _
          | with_reducible rfl
          | with_reducible exact ⟨rfl, fun _ _ => rfl⟩
          | (refine Wr.i64 ?_ ?_; omega)
          | (refine Wr.u8 ?_ ?_; omega)
          | (refine Wr.i32 ?_ ?_; omega)
          | (with_reducible refine Br.tt ?_)
          | (with_reducible refine Br.ff ?_)
          | (refine Br.dT ?_ ?_; omega)
          | (refine Br.dF ?_ ?_; omega)
          | (refine Vc.om ?_ ?_; focus (rw [← e3]; omega; done))
          | (refine Wr.i64 ?_ ?_; focus (rw [← e3]; omega; done))
          | (refine Wr.u8 ?_ ?_; focus (rw [← e3]; omega; done))
          | (refine Br.dT ?_ ?_; focus (rw [← e3]; omega; done))
          | (refine Br.dF ?_ ?_; focus (rw [← e3]; omega; done))
          | (refine Met.by (same_ct _ _ (Nat.le_trans ha (by decide)) (Nat.le_trans (hb (by omega)) (by decide))) ?_; rintro q outs ⟨rfl, rfl⟩)
          | (refine Met.by (rsame_ct _ _ (Nat.le_trans ha (by decide)) (Nat.le_trans (hb (by omega)) (by decide))) ?_; rintro q outs ⟨rfl, rfl⟩)
          | (refine Br.same ?_)
          | (refine Br.samb ?_)
          | (refine Br.d (fun h => ?_) (fun h => ?_))
          | (refine Br.swap ?_)
          | (refine Br.bnot ?_)
          | (refine Br.mk (fun h => Step.out ?_) (fun h => Step.out ?_))
          | (refine Two.mk (Step.out ?_) (Step.out ?_))
          | (refine CallOK.io1 (g := 12) (Step.out ?_))
          | (refine CallOK.of_ct (Step.out ?_))
          | (refine Met.by (g := 8) (awake_ct) ?_; rintro q outs ⟨rfl, rfl⟩)
          | (refine Met.by (g := 9) (few_ct _) ?_; rintro q outs ⟨rfl, rfl⟩)
          | (refine Met.by (g := 10) (short_ct _ (by first | omega | decide | (simp; done) | (simp; omega))) ?_; rintro q outs ⟨rfl, rfl⟩)
          | (refine Met.by (g := 11) (new_ct _ (by assumption)) ?_; rintro q outs ⟨d, hd, rfl, rfl⟩)
          | (refine Met.by (g := 12) (token_ct _) ?_; rintro q outs ⟨x, d, ⟨hx1, hx2, hx3⟩, rfl, rfl⟩)
          | (refine Met.by (g := 13) (same_ct _ _ (by first | omega | decide | (simp; done) | (simp; omega)) (by first | omega | decide | (simp; done) | (simp; omega))) ?_; rintro q outs ⟨rfl, rfl⟩)
          | (refine Met.by (g := 14) (rsame_ct _ _ (by first | omega | decide | (simp; done) | (simp; omega)) (by first | omega | decide | (simp; done) | (simp; omega))) ?_; rintro q outs ⟨rfl, rfl⟩)
          | (refine Met.by (g := 15) (soundex_ct _ (by first | omega | decide | (simp; done) | (simp; omega))) ?_; rintro q outs ⟨rfl, rfl⟩)
          | (refine Met.by (g := 16) (rsoundex_ct _ (by first | omega | decide | (simp; done) | (simp; omega))) ?_; rintro q outs ⟨rfl, rfl⟩)
          | (refine Met.by (g := 17) (skeleton_ct _ (by first | omega | decide | (simp; done) | (simp; omega))) ?_; rintro q outs ⟨rfl, rfl⟩)
          | (refine Met.by (g := 18) (rskeleton_ct _ (by first | omega | decide | (simp; done) | (simp; omega))) ?_; rintro q outs ⟨rfl, rfl⟩)
          | (refine Met.by (g := 19) (key_ct _ (by first | omega | decide | (simp; done) | (simp; omega))) ?_; rintro q outs ⟨rfl, rfl⟩)
          | (refine Met.by (g := 20) (rkey_ct _ (by first | omega | decide | (simp; done) | (simp; omega))) ?_; rintro q outs ⟨rfl, rfl⟩)
          | (refine Vc.mk ?_ (Step.out ?_))
        · refine Again.by (j + 1) ⟨by omega, by omega⟩ ?_
          repeat' first
            | (refine Step.mk ?_; conv => whnf)
            | (refine Vc.om ?_ ?_; first | omega | with_reducible rfl | with_reducible exact ⟨rfl, fun _ _ => rfl⟩ | (simp only [bytes_2, bytes_3, bytes_4, bytes_5, bytes_9, bytes_12, bytes_21, bytes_22, bytes_26, bytes_29, bytes_35, bytes_36, bytes_37, bytes_40, bytes_46, bytes_50, bytes_51, bytes_52, bytes_59, bytes_63, bytes_66]; omega))
            | (refine NilB.mk fun b hb => Step.out ?_)
            | with_reducible trivial
            | exact noSh_bool _
            | exact noSh_lit _
            | exact noSh_int _ _
            | exact noSh_str _
            | with_reducible rfl
            | with_reducible exact ⟨rfl, fun _ _ => rfl⟩
            | (refine Wr.i64 ?_ ?_; omega)
            | (refine Wr.u8 ?_ ?_; omega)
            | (refine Wr.i32 ?_ ?_; omega)
            | (with_reducible refine Br.tt ?_)
            | (with_reducible refine Br.ff ?_)
            | (refine Br.dT ?_ ?_; omega)
            | (refine Br.dF ?_ ?_; omega)
            | (refine Br.d (fun h => ?_) (fun h => ?_))
            | (refine Br.swap ?_)
            | (refine Br.bnot ?_)
            | (refine Br.mk (fun h => Step.out ?_) (fun h => Step.out ?_))
            | (refine Two.mk (Step.out ?_) (Step.out ?_))
            | (refine CallOK.io1 (g := 12) (Step.out ?_))
            | (refine CallOK.of_ct (Step.out ?_))
            | (refine Met.by (g := 8) (awake_ct) ?_; rintro q outs ⟨rfl, rfl⟩)
            | (refine Met.by (g := 9) (few_ct _) ?_; rintro q outs ⟨rfl, rfl⟩)
            | (refine Met.by (g := 10) (short_ct _ (by first | omega | decide | (simp; done) | (simp; omega))) ?_; rintro q outs ⟨rfl, rfl⟩)
            | (refine Met.by (g := 11) (new_ct _ (by assumption)) ?_; rintro q outs ⟨d, hd, rfl, rfl⟩)
            | (refine Met.by (g := 12) (token_ct _) ?_; rintro q outs ⟨x, d, ⟨hx1, hx2, hx3⟩, rfl, rfl⟩)
            | (refine Met.by (g := 13) (same_ct _ _ (by first | omega | decide | (simp; done) | (simp; omega)) (by first | omega | decide | (simp; done) | (simp; omega))) ?_; rintro q outs ⟨rfl, rfl⟩)
            | (refine Met.by (g := 14) (rsame_ct _ _ (by first | omega | decide | (simp; done) | (simp; omega)) (by first | omega | decide | (simp; done) | (simp; omega))) ?_; rintro q outs ⟨rfl, rfl⟩)
            | (refine Met.by (g := 15) (soundex_ct _ (by first | omega | decide | (simp; done) | (simp; omega))) ?_; rintro q outs ⟨rfl, rfl⟩)
            | (refine Met.by (g := 16) (rsoundex_ct _ (by first | omega | decide | (simp; done) | (simp; omega))) ?_; rintro q outs ⟨rfl, rfl⟩)
            | (refine Met.by (g := 17) (skeleton_ct _ (by first | omega | decide | (simp; done) | (simp; omega))) ?_; rintro q outs ⟨rfl, rfl⟩)
            | (refine Met.by (g := 18) (rskeleton_ct _ (by first | omega | decide | (simp; done) | (simp; omega))) ?_; rintro q outs ⟨rfl, rfl⟩)
            | (refine Met.by (g := 19) (key_ct _ (by first | omega | decide | (simp; done) | (simp; omega))) ?_; rintro q outs ⟨rfl, rfl⟩)
            | (refine Met.by (g := 20) (rkey_ct _ (by first | omega | decide | (simp; done) | (simp; omega))) ?_; rintro q outs ⟨rfl, rfl⟩)
            | (refine Vc.mk ?_ (Step.out ?_))
        · repeat' first
            | (refine Step.mk ?_; conv => whnf)
            | (refine Vc.om ?_ ?_; first | omega | with_reducible rfl | with_reducible exact ⟨rfl, fun _ _ => rfl⟩ | (simp only [bytes_2, bytes_3, bytes_4, bytes_5, bytes_9, bytes_12, bytes_21, bytes_22, bytes_26, bytes_29, bytes_35, bytes_36, bytes_37, bytes_40, bytes_46, bytes_50, bytes_51, bytes_52, bytes_59, bytes_63, bytes_66]; omega))
            | (refine NilB.mk fun b hb => Step.out ?_)
            | with_reducible trivial
            | exact noSh_bool _
            | exact noSh_lit _
            | exact noSh_int _ _
            | exact noSh_str _
            | with_reducible rfl
            | with_reducible exact ⟨rfl, fun _ _ => rfl⟩
            | (refine Wr.i64 ?_ ?_; omega)
            | (refine Wr.u8 ?_ ?_; omega)
            | (refine Wr.i32 ?_ ?_; omega)
            | (with_reducible refine Br.tt ?_)
            | (with_reducible refine Br.ff ?_)
            | (refine Br.dT ?_ ?_; omega)
            | (refine Br.dF ?_ ?_; omega)
            | (refine Met.by (soundex_ct _ (Nat.le_trans ha (by decide))) ?_; rintro q outs ⟨rfl, rfl⟩)
            | (refine Met.by (rsoundex_ct _ (Nat.le_trans ha (by decide))) ?_; rintro q outs ⟨rfl, rfl⟩)
            | (refine Met.by (skeleton_ct _ (Nat.le_trans ha (by decide))) ?_; rintro q outs ⟨rfl, rfl⟩)
            | (refine Met.by (rskeleton_ct _ (Nat.le_trans ha (by decide))) ?_; rintro q outs ⟨rfl, rfl⟩)
            | (refine Met.by (key_ct _ (Nat.le_trans ha (by decide))) ?_; rintro q outs ⟨rfl, rfl⟩)
            | (refine Met.by (rkey_ct _ (Nat.le_trans ha (by decide))) ?_; rintro q outs ⟨rfl, rfl⟩)
            | (refine Br.same ?_)
            | (refine Br.samb ?_)
            | (refine Br.d (fun h => ?_) (fun h => ?_))
            | (refine Br.swap ?_)
            | (refine Br.bnot ?_)
            | (refine Br.mk (fun h => Step.out ?_) (fun h => Step.out ?_))
            | (refine Two.mk (Step.out ?_) (Step.out ?_))
            | (refine CallOK.io1 (g := 12) (Step.out ?_))
            | (refine CallOK.of_ct (Step.out ?_))
            | (refine Met.by (g := 8) (awake_ct) ?_; rintro q outs ⟨rfl, rfl⟩)
            | (refine Met.by (g := 9) (few_ct _) ?_; rintro q outs ⟨rfl, rfl⟩)
            | (refine Met.by (g := 10) (short_ct _ (by first | omega | decide | (simp; done) | (simp; omega))) ?_; rintro q outs ⟨rfl, rfl⟩)
            | (refine Met.by (g := 11) (new_ct _ (by assumption)) ?_; rintro q outs ⟨d, hd, rfl, rfl⟩)
            | (refine Met.by (g := 12) (token_ct _) ?_; rintro q outs ⟨x, d, ⟨hx1, hx2, hx3⟩, rfl, rfl⟩)
            | (refine Met.by (g := 13) (same_ct _ _ (by first | omega | decide | (simp; done) | (simp; omega)) (by first | omega | decide | (simp; done) | (simp; omega))) ?_; rintro q outs ⟨rfl, rfl⟩)
            | (refine Met.by (g := 14) (rsame_ct _ _ (by first | omega | decide | (simp; done) | (simp; omega)) (by first | omega | decide | (simp; done) | (simp; omega))) ?_; rintro q outs ⟨rfl, rfl⟩)
            | (refine Met.by (g := 15) (soundex_ct _ (by first | omega | decide | (simp; done) | (simp; omega))) ?_; rintro q outs ⟨rfl, rfl⟩)
            | (refine Met.by (g := 16) (rsoundex_ct _ (by first | omega | decide | (simp; done) | (simp; omega))) ?_; rintro q outs ⟨rfl, rfl⟩)
            | (refine Met.by (g := 17) (skeleton_ct _ (by first | omega | decide | (simp; done) | (simp; omega))) ?_; rintro q outs ⟨rfl, rfl⟩)
            | (refine Met.by (g := 18) (rskeleton_ct _ (by first | omega | decide | (simp; done) | (simp; omega))) ?_; rintro q outs ⟨rfl, rfl⟩)
            | (refine Met.by (g := 19) (key_ct _ (by first | omega | decide | (simp; done) | (simp; omega))) ?_; rintro q outs ⟨rfl, rfl⟩)
            | (refine Met.by (g := 20) (rkey_ct _ (by first | omega | decide | (simp; done) | (simp; omega))) ?_; rintro q outs ⟨rfl, rfl⟩)
            | (refine Vc.mk ?_ (Step.out ?_))
          refine Again.by (i + 1) ⟨by omega, by omega⟩ ?_
          repeat' first
            | (refine Step.mk ?_; conv => whnf)
            | (refine Vc.om ?_ ?_; first | omega | with_reducible rfl | with_reducible exact ⟨rfl, fun _ _ => rfl⟩ | (simp only [bytes_2, bytes_3, bytes_4, bytes_5, bytes_9, bytes_12, bytes_21, bytes_22, bytes_26, bytes_29, bytes_35, bytes_36, bytes_37, bytes_40, bytes_46, bytes_50, bytes_51, bytes_52, bytes_59, bytes_63, bytes_66]; omega))
            | (refine NilB.mk fun b hb => Step.out ?_)
            | with_reducible trivial
            | exact noSh_bool _
            | exact noSh_lit _
            | exact noSh_int _ _
            | exact noSh_str _
            | with_reducible rfl
            | with_reducible exact ⟨rfl, fun _ _ => rfl⟩
            | (refine Wr.i64 ?_ ?_; omega)
            | (refine Wr.u8 ?_ ?_; omega)
            | (refine Wr.i32 ?_ ?_; omega)
            | (with_reducible refine Br.tt ?_)
            | (with_reducible refine Br.ff ?_)
            | (refine Br.dT ?_ ?_; omega)
            | (refine Br.dF ?_ ?_; omega)
            | (refine Br.d (fun h => ?_) (fun h => ?_))
            | (refine Br.swap ?_)
            | (refine Br.bnot ?_)
            | (refine Br.mk (fun h => Step.out ?_) (fun h => Step.out ?_))
            | (refine Two.mk (Step.out ?_) (Step.out ?_))
            | (refine CallOK.io1 (g := 12) (Step.out ?_))
            | (refine CallOK.of_ct (Step.out ?_))
            | (refine Met.by (g := 8) (awake_ct) ?_; rintro q outs ⟨rfl, rfl⟩)
            | (refine Met.by (g := 9) (few_ct _) ?_; rintro q outs ⟨rfl, rfl⟩)
            | (refine Met.by (g := 10) (short_ct _ (by first | omega | decide | (simp; done) | (simp; omega))) ?_; rintro q outs ⟨rfl, rfl⟩)
            | (refine Met.by (g := 11) (new_ct _ (by assumption)) ?_; rintro q outs ⟨d, hd, rfl, rfl⟩)
            | (refine Met.by (g := 12) (token_ct _) ?_; rintro q outs ⟨x, d, ⟨hx1, hx2, hx3⟩, rfl, rfl⟩)
            | (refine Met.by (g := 13) (same_ct _ _ (by first | omega | decide | (simp; done) | (simp; omega)) (by first | omega | decide | (simp; done) | (simp; omega))) ?_; rintro q outs ⟨rfl, rfl⟩)
            | (refine Met.by (g := 14) (rsame_ct _ _ (by first | omega | decide | (simp; done) | (simp; omega)) (by first | omega | decide | (simp; done) | (simp; omega))) ?_; rintro q outs ⟨rfl, rfl⟩)
            | (refine Met.by (g := 15) (soundex_ct _ (by first | omega | decide | (simp; done) | (simp; omega))) ?_; rintro q outs ⟨rfl, rfl⟩)
            | (refine Met.by (g := 16) (rsoundex_ct _ (by first | omega | decide | (simp; done) | (simp; omega))) ?_; rintro q outs ⟨rfl, rfl⟩)
            | (refine Met.by (g := 17) (skeleton_ct _ (by first | omega | decide | (simp; done) | (simp; omega))) ?_; rintro q outs ⟨rfl, rfl⟩)
            | (refine Met.by (g := 18) (rskeleton_ct _ (by first | omega | decide | (simp; done) | (simp; omega))) ?_; rintro q outs ⟨rfl, rfl⟩)
            | (refine Met.by (g := 19) (key_ct _ (by first | omega | decide | (simp; done) | (simp; omega))) ?_; rintro q outs ⟨rfl, rfl⟩)
            | (refine Met.by (g := 20) (rkey_ct _ (by first | omega | decide | (simp; done) | (simp; omega))) ?_; rintro q outs ⟨rfl, rfl⟩)
            | (refine Vc.mk ?_ (Step.out ?_))
    · exact .inr rfl
end Kx
