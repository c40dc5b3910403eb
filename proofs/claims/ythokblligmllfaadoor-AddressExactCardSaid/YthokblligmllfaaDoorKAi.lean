/-
  The statements on addresses: as the reference does.
  No condition beyond those written in each theorem.
-/
import Derived.Test.YthokblligmllfaaDoorKAh
open Go Sx Go.Proofs
set_option linter.unusedSimpArgs false
set_option linter.unusedVariables false
namespace Kx
theorem all_two {s t : Str} (h : ([s, t].all fun s => decide (s.length ≤ 200)) = true) : s.length ≤ 200 ∧ t.length ≤ 200 := by simpa using h
def rus (l : List Ru) (i : Nat) : List D := [strs (l.getD i r0).t, prs (l.getD i r0).n, prs (l.getD i r0).s]
def zeroL : List Str := [[48,48,48],[48,48,98],[48,48,55,98],[48],[49,48,32,48,32,50,48],[97,49]]
theorem zeroL_le : ∀ s ∈ zeroL, s.length ≤ 64 := by decide
theorem rnormalO_ct (r : Ru) (x : Str) (hr : Ru.ok r) : Ct Tryd.prog 28 [ruD r, .str (addrO r x)] fun q outs => q = .bool (addrB r (addrO r x)) ∧ outs = [] := rnormal_ct r _ hr (by have := addrO_len r x; omega)
set_option maxHeartbeats 4000000 in
theorem exact_ct (l : List Int) (raw : Ru) (s t : Str) : Ct Tryd.prog 6 [ints l, ruD raw, .str s, .str t] fun q _ => Yes q := by
  refine .of_W (fn := Tryd.f6) hΓ hm Tryd.func6 ord6 [] (by kernel_rfl) (Step.out ?_)
  repeat' first
    | (refine Step.mk ?_; conv => whnf)
    | (refine Vc.om ?_ ?_; first | omega | with_reducible rfl | with_reducible exact same_rfl | (simp only [bytes_2, bytes_3, bytes_4, bytes_5, bytes_9, bytes_12, bytes_21, bytes_22, bytes_25, bytes_27, bytes_28, bytes_29, bytes_30, bytes_34, bytes_45, bytes_49, bytes_50, bytes_51, bytes_52, bytes_53, bytes_54, bytes_64, bytes_67, bytes_68, bytes_73, bytes_75, bytes_76, bytes_77, bytes_92, bytes_93, bytes_94, bytes_95, bytes_98, bytes_102, bytes_112, bytes_123, bytes_129]; omega))
    | (refine NilB.mk fun b hb => Step.out ?_)
    | with_reducible trivial
    | exact noSh_bool _
    | exact noSh_lit _
    | exact noSh_int _ _
    | exact noSh_str _
    | with_reducible rfl
    | with_reducible exact same_rfl
    | (refine Wr.i64 ?_ ?_; omega)
    | (refine Wr.u8 ?_ ?_; omega)
    | (refine Wr.i32 ?_ ?_; omega)
    | (with_reducible refine Br.tt ?_)
    | (with_reducible refine Br.ff ?_)
    | (refine Br.dT ?_ ?_; omega)
    | (refine Br.dF ?_ ?_; omega)
    | (exact .inl rfl)
    | (exact .inr rfl)
    | (refine Met.by (Ct.lit1 [s, t] (short_ct [s, t] (by first | omega | decide | (simp; done) | (simp; omega)))) ?_; rintro q outs ⟨rfl, rfl⟩)
    | (refine Met.by (picksP_ct (fun s => s.length ≤ 64) _ zeroL zeroL_le (by first | omega | decide | (simp; done) | (simp; omega)) (by first | omega | decide | (simp; done) | (simp; omega))) ?_; rintro q outs ⟨y, d, hy, rfl, rfl⟩)
    | (refine Br.d (fun h => ?_) (fun h => ?_))
    | (refine Br.swap ?_)
    | (refine Br.bnot ?_)
    | (refine Br.mk (fun h => Step.out ?_) (fun h => Step.out ?_))
    | (refine Two.mk (Step.out ?_) (Step.out ?_))
    | (refine CallOK.io1 (g := 11) (Step.out ?_))
    | (refine CallOK.io1F (g := 13) (Step.out ?_))
    | (refine CallOK.io1 (g := 23) (Step.out ?_))
    | (refine CallOK.io1 (g := 24) (Step.out ?_))
    | (refine CallOK.io1 (g := 25) (Step.out ?_))
    | (refine CallOK.of_ct (Step.out ?_))
    | (refine Met.by (g := 8) (awake_ct) ?_; rintro q outs ⟨rfl, rfl⟩)
    | (refine Met.by (g := 9) (few_ct _) ?_; rintro q outs ⟨rfl, rfl⟩)
    | (refine Met.by (g := 10) (new_ct _ (by assumption)) ?_; rintro q outs ⟨d, hd, rfl, rfl⟩)
    | (refine Met.by (g := 11) (rules_ct _) ?_; rintro q outs ⟨r, d, hr, rfl, rfl⟩)
    | (refine Met.by (g := 13) (picks_ct _ [] (by first | omega | decide | (simp; done) | (simp; omega)) (by first | omega | decide | (simp; done) | (simp; omega))) ?_; rintro q outs ⟨x, d, hx, rfl, rfl⟩)
    | (refine Met.by (g := 14) (norm_ct _ _ (by assumption) (by first | omega | decide | (simp; done) | (simp; omega))) ?_; rintro q outs ⟨rfl, rfl⟩)
    | (refine Met.by (g := 16) (number_ct _ (by first | omega | decide | (simp; done) | (simp; omega))) ?_; rintro q outs ⟨rfl, rfl⟩)
    | (refine Met.by (g := 17) (street_ct _ (by first | omega | decide | (simp; done) | (simp; omega))) ?_; rintro q outs ⟨rfl, rfl⟩)
    | (refine Met.by (g := 20) (code_ct _ (by first | omega | decide | (simp; done) | (simp; omega))) ?_; rintro q outs ⟨rfl, rfl⟩)
    | (refine Met.by (g := 22) (short_ct _ (by first | omega | decide | (simp; done) | (simp; omega))) ?_; rintro q outs ⟨rfl, rfl⟩)
    | (refine Met.by (g := 23) (text_ct _) ?_; rintro q outs ⟨x, d, hx, rfl, rfl⟩)
    | (refine Met.by (g := 24) (raw_ct _) ?_; rintro q outs ⟨x, d, hx, rfl, rfl⟩)
    | (refine Met.by (g := 25) (bent_ct _) ?_; rintro q outs ⟨r, d, hr, rfl, rfl⟩)
    | (refine Met.by (g := 26) (rnorm_ct _ _ (by assumption) (by first | omega | decide | (simp; done) | (simp; omega))) ?_; rintro q outs ⟨rfl, rfl⟩)
    | (refine Met.by (g := 27) (normal_ct _ _ (by assumption) (by first | omega | decide | (simp; done) | (simp; omega))) ?_; rintro q outs ⟨rfl, rfl⟩)
    | (refine Met.by (g := 28) (rnormal_ct _ _ (by assumption) (by first | omega | decide | (simp; done) | (simp; omega))) ?_; rintro q outs ⟨rfl, rfl⟩)
    | (refine Met.by (g := 29) (rcode_ct _ (by first | omega | decide | (simp; done) | (simp; omega))) ?_; rintro q outs ⟨rfl, rfl⟩)
    | (refine Met.by (g := 30) (normed_ct _ (by first | omega | decide | (simp; done) | (simp; omega))) ?_; rintro q outs ⟨rfl, rfl⟩)
    | (refine Met.by (g := 31) (rnormed_ct _ (by first | omega | decide | (simp; done) | (simp; omega))) ?_; rintro q outs ⟨rfl, rfl⟩)
    | (refine Met.by (g := 32) (rnumber2_ct _ (by first | omega | decide | (simp; done) | (simp; omega))) ?_; rintro q outs ⟨rfl, rfl⟩)
    | (refine Met.by (g := 33) (rstreet_ct _ (by first | omega | decide | (simp; done) | (simp; omega))) ?_; rintro q outs ⟨rfl, rfl⟩)
    | (refine Vc.mk ?_ (Step.out ?_))
  obtain ⟨hs, ht⟩ := all_two ‹_›
  have hraw : Ru.ok raw := ⟨by omega, by omega, by omega⟩
  rename_i x0 _ _ _
  have hx0 := ‹x0.length ≤ 64›
  have hTs : ∀ i : Nat, ([s, t, x0, x, y].getD i []).length ≤ 200 := fun i => by
    match i with
    | 0 => exact hs
    | 1 => exact ht
    | 2 => exact Nat.le_trans hx0 (by decide)
    | 3 => exact Nat.le_trans hx (by decide)
    | 4 => exact Nat.le_trans hy (by decide)
    | n + 5 => simp
  refine CodeOK.loopW hΓ hm ord6 [7] (by kernel_rfl) (α := Dk × Nat) (fun z => [(5, .loc 0 0), (9, .loc 1 0), (66, strs [s, t, x0, x, y]), (67, i64 5), (68, i64 z.2)]) (fun z => [(0, .var [strs raw.t, prs raw.n, prs raw.s]), (1, .var z.1.ls)]) 2 (fun z => z.2 ≤ 5) (fun z => 5 - z.2) ?_ ?_
  · refine Again.by (d, 0) (Nat.zero_le _) ?_
    dsimp only
    repeat' first
      | (exact ⟨rfl, selC_str [s, t, x0, x, y]⟩)
      | (refine Step.mk ?_; conv => whnf)
      | (refine Vc.om ?_ ?_; first | omega | with_reducible rfl | with_reducible exact same_rfl | (simp only [bytes_2, bytes_3, bytes_4, bytes_5, bytes_9, bytes_12, bytes_21, bytes_22, bytes_25, bytes_27, bytes_28, bytes_29, bytes_30, bytes_34, bytes_45, bytes_49, bytes_50, bytes_51, bytes_52, bytes_53, bytes_54, bytes_64, bytes_67, bytes_68, bytes_73, bytes_75, bytes_76, bytes_77, bytes_92, bytes_93, bytes_94, bytes_95, bytes_98, bytes_102, bytes_112, bytes_123, bytes_129]; omega))
      | (refine NilB.mk fun b hb => Step.out ?_)
      | with_reducible trivial
      | exact noSh_bool _
      | exact noSh_lit _
      | exact noSh_int _ _
      | exact noSh_str _
      | with_reducible rfl
      | with_reducible exact same_rfl
      | (refine Wr.i64 ?_ ?_; omega)
      | (refine Wr.u8 ?_ ?_; omega)
      | (refine Wr.i32 ?_ ?_; omega)
      | (with_reducible refine Br.tt ?_)
      | (with_reducible refine Br.ff ?_)
      | (refine Br.dT ?_ ?_; omega)
      | (refine Br.dF ?_ ?_; omega)
      | (refine Br.d (fun h => ?_) (fun h => ?_))
      | (refine Br.swap ?_)
      | (refine Br.bnot ?_)
      | (refine Br.mk (fun h => Step.out ?_) (fun h => Step.out ?_))
      | (refine Two.mk (Step.out ?_) (Step.out ?_))
      | (refine CallOK.io1 (g := 11) (Step.out ?_))
      | (refine CallOK.io1F (g := 13) (Step.out ?_))
      | (refine CallOK.io1 (g := 23) (Step.out ?_))
      | (refine CallOK.io1 (g := 24) (Step.out ?_))
      | (refine CallOK.io1 (g := 25) (Step.out ?_))
      | (refine CallOK.of_ct (Step.out ?_))
      | (refine Met.by (g := 8) (awake_ct) ?_; rintro q outs ⟨rfl, rfl⟩)
      | (refine Met.by (g := 9) (few_ct _) ?_; rintro q outs ⟨rfl, rfl⟩)
      | (refine Met.by (g := 10) (new_ct _ (by assumption)) ?_; rintro q outs ⟨d, hd, rfl, rfl⟩)
      | (refine Met.by (g := 11) (rules_ct _) ?_; rintro q outs ⟨r, d, hr, rfl, rfl⟩)
      | (refine Met.by (g := 13) (picks_ct _ [] (by first | omega | decide | (simp; done) | (simp; omega)) (by first | omega | decide | (simp; done) | (simp; omega))) ?_; rintro q outs ⟨x, d, hx, rfl, rfl⟩)
      | (refine Met.by (g := 14) (norm_ct _ _ (by assumption) (by first | omega | decide | (simp; done) | (simp; omega))) ?_; rintro q outs ⟨rfl, rfl⟩)
      | (refine Met.by (g := 16) (number_ct _ (by first | omega | decide | (simp; done) | (simp; omega))) ?_; rintro q outs ⟨rfl, rfl⟩)
      | (refine Met.by (g := 17) (street_ct _ (by first | omega | decide | (simp; done) | (simp; omega))) ?_; rintro q outs ⟨rfl, rfl⟩)
      | (refine Met.by (g := 20) (code_ct _ (by first | omega | decide | (simp; done) | (simp; omega))) ?_; rintro q outs ⟨rfl, rfl⟩)
      | (refine Met.by (g := 22) (short_ct _ (by first | omega | decide | (simp; done) | (simp; omega))) ?_; rintro q outs ⟨rfl, rfl⟩)
      | (refine Met.by (g := 23) (text_ct _) ?_; rintro q outs ⟨x, d, hx, rfl, rfl⟩)
      | (refine Met.by (g := 24) (raw_ct _) ?_; rintro q outs ⟨x, d, hx, rfl, rfl⟩)
      | (refine Met.by (g := 25) (bent_ct _) ?_; rintro q outs ⟨r, d, hr, rfl, rfl⟩)
      | (refine Met.by (g := 26) (rnorm_ct _ _ (by assumption) (by first | omega | decide | (simp; done) | (simp; omega))) ?_; rintro q outs ⟨rfl, rfl⟩)
      | (refine Met.by (g := 27) (normal_ct _ _ (by assumption) (by first | omega | decide | (simp; done) | (simp; omega))) ?_; rintro q outs ⟨rfl, rfl⟩)
      | (refine Met.by (g := 28) (rnormal_ct _ _ (by assumption) (by first | omega | decide | (simp; done) | (simp; omega))) ?_; rintro q outs ⟨rfl, rfl⟩)
      | (refine Met.by (g := 29) (rcode_ct _ (by first | omega | decide | (simp; done) | (simp; omega))) ?_; rintro q outs ⟨rfl, rfl⟩)
      | (refine Met.by (g := 30) (normed_ct _ (by first | omega | decide | (simp; done) | (simp; omega))) ?_; rintro q outs ⟨rfl, rfl⟩)
      | (refine Met.by (g := 31) (rnormed_ct _ (by first | omega | decide | (simp; done) | (simp; omega))) ?_; rintro q outs ⟨rfl, rfl⟩)
      | (refine Met.by (g := 32) (rnumber2_ct _ (by first | omega | decide | (simp; done) | (simp; omega))) ?_; rintro q outs ⟨rfl, rfl⟩)
      | (refine Met.by (g := 33) (rstreet_ct _ (by first | omega | decide | (simp; done) | (simp; omega))) ?_; rintro q outs ⟨rfl, rfl⟩)
      | (refine Vc.mk ?_ (Step.out ?_))
  · intro ⟨d, i⟩ hi
    dsimp only at hi ⊢
    repeat' first
      | (refine Step.mk ?_; conv => whnf)
      | (refine Vc.om ?_ ?_; first | omega | with_reducible rfl | with_reducible exact same_rfl | (simp only [bytes_2, bytes_3, bytes_4, bytes_5, bytes_9, bytes_12, bytes_21, bytes_22, bytes_25, bytes_27, bytes_28, bytes_29, bytes_30, bytes_34, bytes_45, bytes_49, bytes_50, bytes_51, bytes_52, bytes_53, bytes_54, bytes_64, bytes_67, bytes_68, bytes_73, bytes_75, bytes_76, bytes_77, bytes_92, bytes_93, bytes_94, bytes_95, bytes_98, bytes_102, bytes_112, bytes_123, bytes_129]; omega))
      | (refine NilB.mk fun b hb => Step.out ?_)
      | with_reducible trivial
      | exact noSh_bool _
      | exact noSh_lit _
      | exact noSh_int _ _
      | exact noSh_str _
      | with_reducible rfl
      | with_reducible exact same_rfl
      | (refine Wr.i64 ?_ ?_; omega)
      | (refine Wr.u8 ?_ ?_; omega)
      | (refine Wr.i32 ?_ ?_; omega)
      | (with_reducible refine Br.tt ?_)
      | (with_reducible refine Br.ff ?_)
      | (refine Br.dT ?_ ?_; omega)
      | (refine Br.dF ?_ ?_; omega)
      | (refine Vc.om ?_ ?_; focus (simp; omega; done))
      | (refine Wr.i64 ?_ ?_; focus (simp; omega; done))
      | (refine Wr.u8 ?_ ?_; focus (simp; omega; done))
      | (refine Br.dT ?_ ?_; focus (simp; omega; done))
      | (refine Br.dF ?_ ?_; focus (simp; omega; done))
      | (refine Br.d (fun h => ?_) (fun h => ?_))
      | (refine Br.swap ?_)
      | (refine Br.bnot ?_)
      | (refine Br.mk (fun h => Step.out ?_) (fun h => Step.out ?_))
      | (refine Two.mk (Step.out ?_) (Step.out ?_))
      | (refine CallOK.io1 (g := 11) (Step.out ?_))
      | (refine CallOK.io1F (g := 13) (Step.out ?_))
      | (refine CallOK.io1 (g := 23) (Step.out ?_))
      | (refine CallOK.io1 (g := 24) (Step.out ?_))
      | (refine CallOK.io1 (g := 25) (Step.out ?_))
      | (refine CallOK.of_ct (Step.out ?_))
      | (refine Met.by (g := 8) (awake_ct) ?_; rintro q outs ⟨rfl, rfl⟩)
      | (refine Met.by (g := 9) (few_ct _) ?_; rintro q outs ⟨rfl, rfl⟩)
      | (refine Met.by (g := 10) (new_ct _ (by assumption)) ?_; rintro q outs ⟨d, hd, rfl, rfl⟩)
      | (refine Met.by (g := 11) (rules_ct _) ?_; rintro q outs ⟨r, d, hr, rfl, rfl⟩)
      | (refine Met.by (g := 13) (picks_ct _ [] (by first | omega | decide | (simp; done) | (simp; omega)) (by first | omega | decide | (simp; done) | (simp; omega))) ?_; rintro q outs ⟨x, d, hx, rfl, rfl⟩)
      | (refine Met.by (g := 14) (norm_ct _ _ (by assumption) (by first | omega | decide | (simp; done) | (simp; omega))) ?_; rintro q outs ⟨rfl, rfl⟩)
      | (refine Met.by (g := 16) (number_ct _ (by first | omega | decide | (simp; done) | (simp; omega))) ?_; rintro q outs ⟨rfl, rfl⟩)
      | (refine Met.by (g := 17) (street_ct _ (by first | omega | decide | (simp; done) | (simp; omega))) ?_; rintro q outs ⟨rfl, rfl⟩)
      | (refine Met.by (g := 20) (code_ct _ (by first | omega | decide | (simp; done) | (simp; omega))) ?_; rintro q outs ⟨rfl, rfl⟩)
      | (refine Met.by (g := 22) (short_ct _ (by first | omega | decide | (simp; done) | (simp; omega))) ?_; rintro q outs ⟨rfl, rfl⟩)
      | (refine Met.by (g := 23) (text_ct _) ?_; rintro q outs ⟨x, d, hx, rfl, rfl⟩)
      | (refine Met.by (g := 24) (raw_ct _) ?_; rintro q outs ⟨x, d, hx, rfl, rfl⟩)
      | (refine Met.by (g := 25) (bent_ct _) ?_; rintro q outs ⟨r, d, hr, rfl, rfl⟩)
      | (refine Met.by (g := 26) (rnorm_ct _ _ (by assumption) (by first | omega | decide | (simp; done) | (simp; omega))) ?_; rintro q outs ⟨rfl, rfl⟩)
      | (refine Met.by (g := 27) (normal_ct _ _ (by assumption) (by first | omega | decide | (simp; done) | (simp; omega))) ?_; rintro q outs ⟨rfl, rfl⟩)
      | (refine Met.by (g := 28) (rnormal_ct _ _ (by assumption) (by first | omega | decide | (simp; done) | (simp; omega))) ?_; rintro q outs ⟨rfl, rfl⟩)
      | (refine Met.by (g := 29) (rcode_ct _ (by first | omega | decide | (simp; done) | (simp; omega))) ?_; rintro q outs ⟨rfl, rfl⟩)
      | (refine Met.by (g := 30) (normed_ct _ (by first | omega | decide | (simp; done) | (simp; omega))) ?_; rintro q outs ⟨rfl, rfl⟩)
      | (refine Met.by (g := 31) (rnormed_ct _ (by first | omega | decide | (simp; done) | (simp; omega))) ?_; rintro q outs ⟨rfl, rfl⟩)
      | (refine Met.by (g := 32) (rnumber2_ct _ (by first | omega | decide | (simp; done) | (simp; omega))) ?_; rintro q outs ⟨rfl, rfl⟩)
      | (refine Met.by (g := 33) (rstreet_ct _ (by first | omega | decide | (simp; done) | (simp; omega))) ?_; rintro q outs ⟨rfl, rfl⟩)
      | (refine Vc.mk ?_ (Step.out ?_))
    · have hu := hTs (i : Int).toNat
      generalize [s, t, x0, x, y].getD (i : Int).toNat [] = u at *
      refine CodeOK.cutW hΓ hm ord6 [7] (by kernel_rfl) (α := Dk) (fun z => [(5, .loc 0 0), (9, .loc 1 0), (11, .str u), (66, strs [s, t, x0, x, y]), (67, i64 5), (68, i64 i)]) (fun z => [(0, .var [strs raw.t, prs raw.n, prs raw.s]), (1, .var z.ls)]) 2 (fun z => True) ?_ ?_
      · repeat' first
          | (refine Step.mk ?_; conv => whnf)
          | (refine Vc.om ?_ ?_; first | omega | with_reducible rfl | with_reducible exact same_rfl | (simp only [bytes_2, bytes_3, bytes_4, bytes_5, bytes_9, bytes_12, bytes_21, bytes_22, bytes_25, bytes_27, bytes_28, bytes_29, bytes_30, bytes_34, bytes_45, bytes_49, bytes_50, bytes_51, bytes_52, bytes_53, bytes_54, bytes_64, bytes_67, bytes_68, bytes_73, bytes_75, bytes_76, bytes_77, bytes_92, bytes_93, bytes_94, bytes_95, bytes_98, bytes_102, bytes_112, bytes_123, bytes_129]; omega))
          | (refine NilB.mk fun b hb => Step.out ?_)
          | with_reducible trivial
          | exact noSh_bool _
          | exact noSh_lit _
          | exact noSh_int _ _
          | exact noSh_str _
          | with_reducible rfl
          | with_reducible exact same_rfl
          | (refine Wr.i64 ?_ ?_; omega)
          | (refine Wr.u8 ?_ ?_; omega)
          | (refine Wr.i32 ?_ ?_; omega)
          | (with_reducible refine Br.tt ?_)
          | (with_reducible refine Br.ff ?_)
          | (refine Br.dT ?_ ?_; omega)
          | (refine Br.dF ?_ ?_; omega)
          | (refine Br.d (fun h => ?_) (fun h => ?_))
          | (refine Br.swap ?_)
          | (refine Br.bnot ?_)
          | (refine Br.mk (fun h => Step.out ?_) (fun h => Step.out ?_))
          | (refine Two.mk (Step.out ?_) (Step.out ?_))
          | (refine CallOK.io1 (g := 11) (Step.out ?_))
          | (refine CallOK.io1F (g := 13) (Step.out ?_))
          | (refine CallOK.io1 (g := 23) (Step.out ?_))
          | (refine CallOK.io1 (g := 24) (Step.out ?_))
          | (refine CallOK.io1 (g := 25) (Step.out ?_))
          | (refine CallOK.of_ct (Step.out ?_))
          | (refine Met.by (g := 8) (awake_ct) ?_; rintro q outs ⟨rfl, rfl⟩)
          | (refine Met.by (g := 9) (few_ct _) ?_; rintro q outs ⟨rfl, rfl⟩)
          | (refine Met.by (g := 10) (new_ct _ (by assumption)) ?_; rintro q outs ⟨d, hd, rfl, rfl⟩)
          | (refine Met.by (g := 11) (rules_ct _) ?_; rintro q outs ⟨r, d, hr, rfl, rfl⟩)
          | (refine Met.by (g := 13) (picks_ct _ [] (by first | omega | decide | (simp; done) | (simp; omega)) (by first | omega | decide | (simp; done) | (simp; omega))) ?_; rintro q outs ⟨x, d, hx, rfl, rfl⟩)
          | (refine Met.by (g := 14) (norm_ct _ _ (by assumption) (by first | omega | decide | (simp; done) | (simp; omega))) ?_; rintro q outs ⟨rfl, rfl⟩)
          | (refine Met.by (g := 16) (number_ct _ (by first | omega | decide | (simp; done) | (simp; omega))) ?_; rintro q outs ⟨rfl, rfl⟩)
          | (refine Met.by (g := 17) (street_ct _ (by first | omega | decide | (simp; done) | (simp; omega))) ?_; rintro q outs ⟨rfl, rfl⟩)
          | (refine Met.by (g := 20) (code_ct _ (by first | omega | decide | (simp; done) | (simp; omega))) ?_; rintro q outs ⟨rfl, rfl⟩)
          | (refine Met.by (g := 22) (short_ct _ (by first | omega | decide | (simp; done) | (simp; omega))) ?_; rintro q outs ⟨rfl, rfl⟩)
          | (refine Met.by (g := 23) (text_ct _) ?_; rintro q outs ⟨x, d, hx, rfl, rfl⟩)
          | (refine Met.by (g := 24) (raw_ct _) ?_; rintro q outs ⟨x, d, hx, rfl, rfl⟩)
          | (refine Met.by (g := 25) (bent_ct _) ?_; rintro q outs ⟨r, d, hr, rfl, rfl⟩)
          | (refine Met.by (g := 26) (rnorm_ct _ _ (by assumption) (by first | omega | decide | (simp; done) | (simp; omega))) ?_; rintro q outs ⟨rfl, rfl⟩)
          | (refine Met.by (g := 27) (normal_ct _ _ (by assumption) (by first | omega | decide | (simp; done) | (simp; omega))) ?_; rintro q outs ⟨rfl, rfl⟩)
          | (refine Met.by (g := 28) (rnormal_ct _ _ (by assumption) (by first | omega | decide | (simp; done) | (simp; omega))) ?_; rintro q outs ⟨rfl, rfl⟩)
          | (refine Met.by (g := 29) (rcode_ct _ (by first | omega | decide | (simp; done) | (simp; omega))) ?_; rintro q outs ⟨rfl, rfl⟩)
          | (refine Met.by (g := 30) (normed_ct _ (by first | omega | decide | (simp; done) | (simp; omega))) ?_; rintro q outs ⟨rfl, rfl⟩)
          | (refine Met.by (g := 31) (rnormed_ct _ (by first | omega | decide | (simp; done) | (simp; omega))) ?_; rintro q outs ⟨rfl, rfl⟩)
          | (refine Met.by (g := 32) (rnumber2_ct _ (by first | omega | decide | (simp; done) | (simp; omega))) ?_; rintro q outs ⟨rfl, rfl⟩)
          | (refine Met.by (g := 33) (rstreet_ct _ (by first | omega | decide | (simp; done) | (simp; omega))) ?_; rintro q outs ⟨rfl, rfl⟩)
          | (refine Vc.mk ?_ (Step.out ?_))
        refine CodeOK.cutW hΓ hm ord6 [] (by kernel_rfl) (α := Dk × Ru × Ru) (fun z => [(5, .loc 0 0), (9, .loc 1 0), (11, .str u), (66, strs [s, t, x0, x, y]), (67, i64 5), (68, i64 i), (77, .tab 3 3 (rus [raw, z.2.1, z.2.2])), (78, i64 3), (79, i64 0)]) (fun z => [(0, .var [strs raw.t, prs raw.n, prs raw.s]), (1, .var z.1.ls)]) 2 (fun z => Ru.ok z.2.1 ∧ Ru.ok z.2.2) ?_ ?_
        · repeat' first
            | (refine Step.mk ?_; conv => whnf)
            | (refine Vc.om ?_ ?_; first | omega | with_reducible rfl | with_reducible exact same_rfl | (simp only [bytes_2, bytes_3, bytes_4, bytes_5, bytes_9, bytes_12, bytes_21, bytes_22, bytes_25, bytes_27, bytes_28, bytes_29, bytes_30, bytes_34, bytes_45, bytes_49, bytes_50, bytes_51, bytes_52, bytes_53, bytes_54, bytes_64, bytes_67, bytes_68, bytes_73, bytes_75, bytes_76, bytes_77, bytes_92, bytes_93, bytes_94, bytes_95, bytes_98, bytes_102, bytes_112, bytes_123, bytes_129]; omega))
            | (refine NilB.mk fun b hb => Step.out ?_)
            | with_reducible trivial
            | exact noSh_bool _
            | exact noSh_lit _
            | exact noSh_int _ _
            | exact noSh_str _
            | with_reducible rfl
            | with_reducible exact same_rfl
            | (refine Wr.i64 ?_ ?_; omega)
            | (refine Wr.u8 ?_ ?_; omega)
            | (refine Wr.i32 ?_ ?_; omega)
            | (with_reducible refine Br.tt ?_)
            | (with_reducible refine Br.ff ?_)
            | (refine Br.dT ?_ ?_; omega)
            | (refine Br.dF ?_ ?_; omega)
            | (refine Br.d (fun h => ?_) (fun h => ?_))
            | (refine Br.swap ?_)
            | (refine Br.bnot ?_)
            | (refine Br.mk (fun h => Step.out ?_) (fun h => Step.out ?_))
            | (refine Two.mk (Step.out ?_) (Step.out ?_))
            | (refine CallOK.io1 (g := 11) (Step.out ?_))
            | (refine CallOK.io1F (g := 13) (Step.out ?_))
            | (refine CallOK.io1 (g := 23) (Step.out ?_))
            | (refine CallOK.io1 (g := 24) (Step.out ?_))
            | (refine CallOK.io1 (g := 25) (Step.out ?_))
            | (refine CallOK.of_ct (Step.out ?_))
            | (refine Met.by (g := 8) (awake_ct) ?_; rintro q outs ⟨rfl, rfl⟩)
            | (refine Met.by (g := 9) (few_ct _) ?_; rintro q outs ⟨rfl, rfl⟩)
            | (refine Met.by (g := 10) (new_ct _ (by assumption)) ?_; rintro q outs ⟨d, hd, rfl, rfl⟩)
            | (refine Met.by (g := 11) (rules_ct _) ?_; rintro q outs ⟨r, d, hr, rfl, rfl⟩)
            | (refine Met.by (g := 13) (picks_ct _ [] (by first | omega | decide | (simp; done) | (simp; omega)) (by first | omega | decide | (simp; done) | (simp; omega))) ?_; rintro q outs ⟨x, d, hx, rfl, rfl⟩)
            | (refine Met.by (g := 14) (norm_ct _ _ (by assumption) (by first | omega | decide | (simp; done) | (simp; omega))) ?_; rintro q outs ⟨rfl, rfl⟩)
            | (refine Met.by (g := 16) (number_ct _ (by first | omega | decide | (simp; done) | (simp; omega))) ?_; rintro q outs ⟨rfl, rfl⟩)
            | (refine Met.by (g := 17) (street_ct _ (by first | omega | decide | (simp; done) | (simp; omega))) ?_; rintro q outs ⟨rfl, rfl⟩)
            | (refine Met.by (g := 20) (code_ct _ (by first | omega | decide | (simp; done) | (simp; omega))) ?_; rintro q outs ⟨rfl, rfl⟩)
            | (refine Met.by (g := 22) (short_ct _ (by first | omega | decide | (simp; done) | (simp; omega))) ?_; rintro q outs ⟨rfl, rfl⟩)
            | (refine Met.by (g := 23) (text_ct _) ?_; rintro q outs ⟨x, d, hx, rfl, rfl⟩)
            | (refine Met.by (g := 24) (raw_ct _) ?_; rintro q outs ⟨x, d, hx, rfl, rfl⟩)
            | (refine Met.by (g := 25) (bent_ct _) ?_; rintro q outs ⟨r, d, hr, rfl, rfl⟩)
            | (refine Met.by (g := 26) (rnorm_ct _ _ (by assumption) (by first | omega | decide | (simp; done) | (simp; omega))) ?_; rintro q outs ⟨rfl, rfl⟩)
            | (refine Met.by (g := 27) (normal_ct _ _ (by assumption) (by first | omega | decide | (simp; done) | (simp; omega))) ?_; rintro q outs ⟨rfl, rfl⟩)
            | (refine Met.by (g := 28) (rnormal_ct _ _ (by assumption) (by first | omega | decide | (simp; done) | (simp; omega))) ?_; rintro q outs ⟨rfl, rfl⟩)
            | (refine Met.by (g := 29) (rcode_ct _ (by first | omega | decide | (simp; done) | (simp; omega))) ?_; rintro q outs ⟨rfl, rfl⟩)
            | (refine Met.by (g := 30) (normed_ct _ (by first | omega | decide | (simp; done) | (simp; omega))) ?_; rintro q outs ⟨rfl, rfl⟩)
            | (refine Met.by (g := 31) (rnormed_ct _ (by first | omega | decide | (simp; done) | (simp; omega))) ?_; rintro q outs ⟨rfl, rfl⟩)
            | (refine Met.by (g := 32) (rnumber2_ct _ (by first | omega | decide | (simp; done) | (simp; omega))) ?_; rintro q outs ⟨rfl, rfl⟩)
            | (refine Met.by (g := 33) (rstreet_ct _ (by first | omega | decide | (simp; done) | (simp; omega))) ?_; rintro q outs ⟨rfl, rfl⟩)
            | (refine Vc.mk ?_ (Step.out ?_))
          all_goals rename_i r1 _ hr1
          all_goals refine Again.by (d, r1, r) ⟨hr1.ok, hr⟩ ?_
          all_goals dsimp only
          all_goals
            repeat' first
              | (refine Step.mk ?_; conv => whnf)
              | (refine Vc.om ?_ ?_; first | omega | with_reducible rfl | with_reducible exact same_rfl | (simp only [bytes_2, bytes_3, bytes_4, bytes_5, bytes_9, bytes_12, bytes_21, bytes_22, bytes_25, bytes_27, bytes_28, bytes_29, bytes_30, bytes_34, bytes_45, bytes_49, bytes_50, bytes_51, bytes_52, bytes_53, bytes_54, bytes_64, bytes_67, bytes_68, bytes_73, bytes_75, bytes_76, bytes_77, bytes_92, bytes_93, bytes_94, bytes_95, bytes_98, bytes_102, bytes_112, bytes_123, bytes_129]; omega))
              | (refine NilB.mk fun b hb => Step.out ?_)
              | with_reducible trivial
              | exact noSh_bool _
              | exact noSh_lit _
              | exact noSh_int _ _
              | exact noSh_str _
              | with_reducible rfl
              | with_reducible exact same_rfl
              | (refine Wr.i64 ?_ ?_; omega)
              | (refine Wr.u8 ?_ ?_; omega)
              | (refine Wr.i32 ?_ ?_; omega)
              | (with_reducible refine Br.tt ?_)
              | (with_reducible refine Br.ff ?_)
              | (refine Br.dT ?_ ?_; omega)
              | (refine Br.dF ?_ ?_; omega)
              | (refine ⟨rfl, fun i hi => ?_⟩; match i with | 0 => rfl | 1 => rfl | 2 => rfl | n + 3 => exact absurd hi (by omega))
              | (refine Br.d (fun h => ?_) (fun h => ?_))
              | (refine Br.swap ?_)
              | (refine Br.bnot ?_)
              | (refine Br.mk (fun h => Step.out ?_) (fun h => Step.out ?_))
              | (refine Two.mk (Step.out ?_) (Step.out ?_))
              | (refine CallOK.io1 (g := 11) (Step.out ?_))
              | (refine CallOK.io1F (g := 13) (Step.out ?_))
              | (refine CallOK.io1 (g := 23) (Step.out ?_))
              | (refine CallOK.io1 (g := 24) (Step.out ?_))
              | (refine CallOK.io1 (g := 25) (Step.out ?_))
              | (refine CallOK.of_ct (Step.out ?_))
              | (refine Met.by (g := 8) (awake_ct) ?_; rintro q outs ⟨rfl, rfl⟩)
              | (refine Met.by (g := 9) (few_ct _) ?_; rintro q outs ⟨rfl, rfl⟩)
              | (refine Met.by (g := 10) (new_ct _ (by assumption)) ?_; rintro q outs ⟨d, hd, rfl, rfl⟩)
              | (refine Met.by (g := 11) (rules_ct _) ?_; rintro q outs ⟨r, d, hr, rfl, rfl⟩)
              | (refine Met.by (g := 13) (picks_ct _ [] (by first | omega | decide | (simp; done) | (simp; omega)) (by first | omega | decide | (simp; done) | (simp; omega))) ?_; rintro q outs ⟨x, d, hx, rfl, rfl⟩)
              | (refine Met.by (g := 14) (norm_ct _ _ (by assumption) (by first | omega | decide | (simp; done) | (simp; omega))) ?_; rintro q outs ⟨rfl, rfl⟩)
              | (refine Met.by (g := 16) (number_ct _ (by first | omega | decide | (simp; done) | (simp; omega))) ?_; rintro q outs ⟨rfl, rfl⟩)
              | (refine Met.by (g := 17) (street_ct _ (by first | omega | decide | (simp; done) | (simp; omega))) ?_; rintro q outs ⟨rfl, rfl⟩)
              | (refine Met.by (g := 20) (code_ct _ (by first | omega | decide | (simp; done) | (simp; omega))) ?_; rintro q outs ⟨rfl, rfl⟩)
              | (refine Met.by (g := 22) (short_ct _ (by first | omega | decide | (simp; done) | (simp; omega))) ?_; rintro q outs ⟨rfl, rfl⟩)
              | (refine Met.by (g := 23) (text_ct _) ?_; rintro q outs ⟨x, d, hx, rfl, rfl⟩)
              | (refine Met.by (g := 24) (raw_ct _) ?_; rintro q outs ⟨x, d, hx, rfl, rfl⟩)
              | (refine Met.by (g := 25) (bent_ct _) ?_; rintro q outs ⟨r, d, hr, rfl, rfl⟩)
              | (refine Met.by (g := 26) (rnorm_ct _ _ (by assumption) (by first | omega | decide | (simp; done) | (simp; omega))) ?_; rintro q outs ⟨rfl, rfl⟩)
              | (refine Met.by (g := 27) (normal_ct _ _ (by assumption) (by first | omega | decide | (simp; done) | (simp; omega))) ?_; rintro q outs ⟨rfl, rfl⟩)
              | (refine Met.by (g := 28) (rnormal_ct _ _ (by assumption) (by first | omega | decide | (simp; done) | (simp; omega))) ?_; rintro q outs ⟨rfl, rfl⟩)
              | (refine Met.by (g := 29) (rcode_ct _ (by first | omega | decide | (simp; done) | (simp; omega))) ?_; rintro q outs ⟨rfl, rfl⟩)
              | (refine Met.by (g := 30) (normed_ct _ (by first | omega | decide | (simp; done) | (simp; omega))) ?_; rintro q outs ⟨rfl, rfl⟩)
              | (refine Met.by (g := 31) (rnormed_ct _ (by first | omega | decide | (simp; done) | (simp; omega))) ?_; rintro q outs ⟨rfl, rfl⟩)
              | (refine Met.by (g := 32) (rnumber2_ct _ (by first | omega | decide | (simp; done) | (simp; omega))) ?_; rintro q outs ⟨rfl, rfl⟩)
              | (refine Met.by (g := 33) (rstreet_ct _ (by first | omega | decide | (simp; done) | (simp; omega))) ?_; rintro q outs ⟨rfl, rfl⟩)
              | (refine Vc.mk ?_ (Step.out ?_))
        · intro ⟨d, r1, r2⟩ ⟨h1, h2⟩
          dsimp only at h1 h2 ⊢
          repeat' first
            | (refine Step.mk ?_; conv => whnf)
            | (refine Vc.om ?_ ?_; first | omega | with_reducible rfl | with_reducible exact same_rfl | (simp only [bytes_2, bytes_3, bytes_4, bytes_5, bytes_9, bytes_12, bytes_21, bytes_22, bytes_25, bytes_27, bytes_28, bytes_29, bytes_30, bytes_34, bytes_45, bytes_49, bytes_50, bytes_51, bytes_52, bytes_53, bytes_54, bytes_64, bytes_67, bytes_68, bytes_73, bytes_75, bytes_76, bytes_77, bytes_92, bytes_93, bytes_94, bytes_95, bytes_98, bytes_102, bytes_112, bytes_123, bytes_129]; omega))
            | (refine NilB.mk fun b hb => Step.out ?_)
            | with_reducible trivial
            | exact noSh_bool _
            | exact noSh_lit _
            | exact noSh_int _ _
            | exact noSh_str _
            | with_reducible rfl
            | with_reducible exact same_rfl
            | (refine Wr.i64 ?_ ?_; omega)
            | (refine Wr.u8 ?_ ?_; omega)
            | (refine Wr.i32 ?_ ?_; omega)
            | (with_reducible refine Br.tt ?_)
            | (with_reducible refine Br.ff ?_)
            | (refine Br.dT ?_ ?_; omega)
            | (refine Br.dF ?_ ?_; omega)
            | (refine Br.d (fun h => ?_) (fun h => ?_))
            | (refine Br.swap ?_)
            | (refine Br.bnot ?_)
            | (refine Br.mk (fun h => Step.out ?_) (fun h => Step.out ?_))
            | (refine Two.mk (Step.out ?_) (Step.out ?_))
            | (refine CallOK.io1 (g := 11) (Step.out ?_))
            | (refine CallOK.io1F (g := 13) (Step.out ?_))
            | (refine CallOK.io1 (g := 23) (Step.out ?_))
            | (refine CallOK.io1 (g := 24) (Step.out ?_))
            | (refine CallOK.io1 (g := 25) (Step.out ?_))
            | (refine CallOK.of_ct (Step.out ?_))
            | (refine Met.by (g := 8) (awake_ct) ?_; rintro q outs ⟨rfl, rfl⟩)
            | (refine Met.by (g := 9) (few_ct _) ?_; rintro q outs ⟨rfl, rfl⟩)
            | (refine Met.by (g := 10) (new_ct _ (by assumption)) ?_; rintro q outs ⟨d, hd, rfl, rfl⟩)
            | (refine Met.by (g := 11) (rules_ct _) ?_; rintro q outs ⟨r, d, hr, rfl, rfl⟩)
            | (refine Met.by (g := 13) (picks_ct _ [] (by first | omega | decide | (simp; done) | (simp; omega)) (by first | omega | decide | (simp; done) | (simp; omega))) ?_; rintro q outs ⟨x, d, hx, rfl, rfl⟩)
            | (refine Met.by (g := 14) (norm_ct _ _ (by assumption) (by first | omega | decide | (simp; done) | (simp; omega))) ?_; rintro q outs ⟨rfl, rfl⟩)
            | (refine Met.by (g := 16) (number_ct _ (by first | omega | decide | (simp; done) | (simp; omega))) ?_; rintro q outs ⟨rfl, rfl⟩)
            | (refine Met.by (g := 17) (street_ct _ (by first | omega | decide | (simp; done) | (simp; omega))) ?_; rintro q outs ⟨rfl, rfl⟩)
            | (refine Met.by (g := 20) (code_ct _ (by first | omega | decide | (simp; done) | (simp; omega))) ?_; rintro q outs ⟨rfl, rfl⟩)
            | (refine Met.by (g := 22) (short_ct _ (by first | omega | decide | (simp; done) | (simp; omega))) ?_; rintro q outs ⟨rfl, rfl⟩)
            | (refine Met.by (g := 23) (text_ct _) ?_; rintro q outs ⟨x, d, hx, rfl, rfl⟩)
            | (refine Met.by (g := 24) (raw_ct _) ?_; rintro q outs ⟨x, d, hx, rfl, rfl⟩)
            | (refine Met.by (g := 25) (bent_ct _) ?_; rintro q outs ⟨r, d, hr, rfl, rfl⟩)
            | (refine Met.by (g := 26) (rnorm_ct _ _ (by assumption) (by first | omega | decide | (simp; done) | (simp; omega))) ?_; rintro q outs ⟨rfl, rfl⟩)
            | (refine Met.by (g := 27) (normal_ct _ _ (by assumption) (by first | omega | decide | (simp; done) | (simp; omega))) ?_; rintro q outs ⟨rfl, rfl⟩)
            | (refine Met.by (g := 28) (rnormal_ct _ _ (by assumption) (by first | omega | decide | (simp; done) | (simp; omega))) ?_; rintro q outs ⟨rfl, rfl⟩)
            | (refine Met.by (g := 29) (rcode_ct _ (by first | omega | decide | (simp; done) | (simp; omega))) ?_; rintro q outs ⟨rfl, rfl⟩)
            | (refine Met.by (g := 30) (normed_ct _ (by first | omega | decide | (simp; done) | (simp; omega))) ?_; rintro q outs ⟨rfl, rfl⟩)
            | (refine Met.by (g := 31) (rnormed_ct _ (by first | omega | decide | (simp; done) | (simp; omega))) ?_; rintro q outs ⟨rfl, rfl⟩)
            | (refine Met.by (g := 32) (rnumber2_ct _ (by first | omega | decide | (simp; done) | (simp; omega))) ?_; rintro q outs ⟨rfl, rfl⟩)
            | (refine Met.by (g := 33) (rstreet_ct _ (by first | omega | decide | (simp; done) | (simp; omega))) ?_; rintro q outs ⟨rfl, rfl⟩)
            | (refine Vc.mk ?_ (Step.out ?_))
          refine CodeOK.loopW hΓ hm ord6 [] (by kernel_rfl) (α := Nat) (fun j => [(5, .loc 0 0), (9, .loc 1 0), (11, .str u), (66, strs [s, t, x0, x, y]), (67, i64 5), (68, i64 i), (77, .tab 3 3 (rus [raw, r1, r2])), (78, i64 3), (79, i64 j)]) (fun j => [(0, .var [strs raw.t, prs raw.n, prs raw.s]), (1, .var d.ls)]) 2 (fun j => j ≤ 3) (fun j => 3 - j) ?_ ?_
          · refine Again.by 0 (Nat.zero_le _) ?_
            repeat' first
              | (refine Step.mk ?_; conv => whnf)
              | (refine Vc.om ?_ ?_; first | omega | with_reducible rfl | with_reducible exact same_rfl | (simp only [bytes_2, bytes_3, bytes_4, bytes_5, bytes_9, bytes_12, bytes_21, bytes_22, bytes_25, bytes_27, bytes_28, bytes_29, bytes_30, bytes_34, bytes_45, bytes_49, bytes_50, bytes_51, bytes_52, bytes_53, bytes_54, bytes_64, bytes_67, bytes_68, bytes_73, bytes_75, bytes_76, bytes_77, bytes_92, bytes_93, bytes_94, bytes_95, bytes_98, bytes_102, bytes_112, bytes_123, bytes_129]; omega))
              | (refine NilB.mk fun b hb => Step.out ?_)
              | with_reducible trivial
              | exact noSh_bool _
              | exact noSh_lit _
              | exact noSh_int _ _
              | exact noSh_str _
              | with_reducible rfl
              | with_reducible exact same_rfl
              | (refine Wr.i64 ?_ ?_; omega)
              | (refine Wr.u8 ?_ ?_; omega)
              | (refine Wr.i32 ?_ ?_; omega)
              | (with_reducible refine Br.tt ?_)
              | (with_reducible refine Br.ff ?_)
              | (refine Br.dT ?_ ?_; omega)
              | (refine Br.dF ?_ ?_; omega)
              | (refine Br.d (fun h => ?_) (fun h => ?_))
              | (refine Br.swap ?_)
              | (refine Br.bnot ?_)
              | (refine Br.mk (fun h => Step.out ?_) (fun h => Step.out ?_))
              | (refine Two.mk (Step.out ?_) (Step.out ?_))
              | (refine CallOK.io1 (g := 11) (Step.out ?_))
              | (refine CallOK.io1F (g := 13) (Step.out ?_))
              | (refine CallOK.io1 (g := 23) (Step.out ?_))
              | (refine CallOK.io1 (g := 24) (Step.out ?_))
              | (refine CallOK.io1 (g := 25) (Step.out ?_))
              | (refine CallOK.of_ct (Step.out ?_))
              | (refine Met.by (g := 8) (awake_ct) ?_; rintro q outs ⟨rfl, rfl⟩)
              | (refine Met.by (g := 9) (few_ct _) ?_; rintro q outs ⟨rfl, rfl⟩)
              | (refine Met.by (g := 10) (new_ct _ (by assumption)) ?_; rintro q outs ⟨d, hd, rfl, rfl⟩)
              | (refine Met.by (g := 11) (rules_ct _) ?_; rintro q outs ⟨r, d, hr, rfl, rfl⟩)
              | (refine Met.by (g := 13) (picks_ct _ [] (by first | omega | decide | (simp; done) | (simp; omega)) (by first | omega | decide | (simp; done) | (simp; omega))) ?_; rintro q outs ⟨x, d, hx, rfl, rfl⟩)
              | (refine Met.by (g := 14) (norm_ct _ _ (by assumption) (by first | omega | decide | (simp; done) | (simp; omega))) ?_; rintro q outs ⟨rfl, rfl⟩)
              | (refine Met.by (g := 16) (number_ct _ (by first | omega | decide | (simp; done) | (simp; omega))) ?_; rintro q outs ⟨rfl, rfl⟩)
              | (refine Met.by (g := 17) (street_ct _ (by first | omega | decide | (simp; done) | (simp; omega))) ?_; rintro q outs ⟨rfl, rfl⟩)
              | (refine Met.by (g := 20) (code_ct _ (by first | omega | decide | (simp; done) | (simp; omega))) ?_; rintro q outs ⟨rfl, rfl⟩)
              | (refine Met.by (g := 22) (short_ct _ (by first | omega | decide | (simp; done) | (simp; omega))) ?_; rintro q outs ⟨rfl, rfl⟩)
              | (refine Met.by (g := 23) (text_ct _) ?_; rintro q outs ⟨x, d, hx, rfl, rfl⟩)
              | (refine Met.by (g := 24) (raw_ct _) ?_; rintro q outs ⟨x, d, hx, rfl, rfl⟩)
              | (refine Met.by (g := 25) (bent_ct _) ?_; rintro q outs ⟨r, d, hr, rfl, rfl⟩)
              | (refine Met.by (g := 26) (rnorm_ct _ _ (by assumption) (by first | omega | decide | (simp; done) | (simp; omega))) ?_; rintro q outs ⟨rfl, rfl⟩)
              | (refine Met.by (g := 27) (normal_ct _ _ (by assumption) (by first | omega | decide | (simp; done) | (simp; omega))) ?_; rintro q outs ⟨rfl, rfl⟩)
              | (refine Met.by (g := 28) (rnormal_ct _ _ (by assumption) (by first | omega | decide | (simp; done) | (simp; omega))) ?_; rintro q outs ⟨rfl, rfl⟩)
              | (refine Met.by (g := 29) (rcode_ct _ (by first | omega | decide | (simp; done) | (simp; omega))) ?_; rintro q outs ⟨rfl, rfl⟩)
              | (refine Met.by (g := 30) (normed_ct _ (by first | omega | decide | (simp; done) | (simp; omega))) ?_; rintro q outs ⟨rfl, rfl⟩)
              | (refine Met.by (g := 31) (rnormed_ct _ (by first | omega | decide | (simp; done) | (simp; omega))) ?_; rintro q outs ⟨rfl, rfl⟩)
              | (refine Met.by (g := 32) (rnumber2_ct _ (by first | omega | decide | (simp; done) | (simp; omega))) ?_; rintro q outs ⟨rfl, rfl⟩)
              | (refine Met.by (g := 33) (rstreet_ct _ (by first | omega | decide | (simp; done) | (simp; omega))) ?_; rintro q outs ⟨rfl, rfl⟩)
              | (refine Vc.mk ?_ (Step.out ?_))
          · intro j hj
            have hk : Ru.ok ([raw, r1, r2].getD (j : Int).toNat r0) := by
              rw [Int.toNat_natCast]
              match j with
              | 0 => exact hraw
              | 1 => exact h1
              | 2 => exact h2
              | 3 => exact ⟨Nat.zero_le _, Nat.zero_le _, Nat.zero_le _⟩
              | n + 4 => exact absurd hj (by omega)
            repeat' first
              | (refine Step.mk ?_; conv => whnf)
              | (refine Vc.om ?_ ?_; first | omega | with_reducible rfl | with_reducible exact same_rfl | (simp only [bytes_2, bytes_3, bytes_4, bytes_5, bytes_9, bytes_12, bytes_21, bytes_22, bytes_25, bytes_27, bytes_28, bytes_29, bytes_30, bytes_34, bytes_45, bytes_49, bytes_50, bytes_51, bytes_52, bytes_53, bytes_54, bytes_64, bytes_67, bytes_68, bytes_73, bytes_75, bytes_76, bytes_77, bytes_92, bytes_93, bytes_94, bytes_95, bytes_98, bytes_102, bytes_112, bytes_123, bytes_129]; omega))
              | (refine NilB.mk fun b hb => Step.out ?_)
              | with_reducible trivial
              | exact noSh_bool _
              | exact noSh_lit _
              | exact noSh_int _ _
              | exact noSh_str _
              | with_reducible rfl
              | with_reducible exact same_rfl
              | (refine Wr.i64 ?_ ?_; omega)
              | (refine Wr.u8 ?_ ?_; omega)
              | (refine Wr.i32 ?_ ?_; omega)
              | (with_reducible refine Br.tt ?_)
              | (with_reducible refine Br.ff ?_)
              | (refine Br.dT ?_ ?_; omega)
              | (refine Br.dF ?_ ?_; omega)
              | (refine Met.by (normalO_ct _ _ hk) ?_; rintro q outs ⟨rfl, rfl⟩)
              | (refine Met.by (rnormalO_ct _ _ hk) ?_; rintro q outs ⟨rfl, rfl⟩)
              | (refine Again.by (j + 1) ⟨by omega, by omega⟩ ?_)
              | (refine Br.d (fun h => ?_) (fun h => ?_))
              | (refine Br.swap ?_)
              | (refine Br.bnot ?_)
              | (refine Br.mk (fun h => Step.out ?_) (fun h => Step.out ?_))
              | (refine Two.mk (Step.out ?_) (Step.out ?_))
              | (refine CallOK.io1 (g := 11) (Step.out ?_))
              | (refine CallOK.io1F (g := 13) (Step.out ?_))
              | (refine CallOK.io1 (g := 23) (Step.out ?_))
              | (refine CallOK.io1 (g := 24) (Step.out ?_))
              | (refine CallOK.io1 (g := 25) (Step.out ?_))
              | (refine CallOK.of_ct (Step.out ?_))
              | (refine Met.by (g := 8) (awake_ct) ?_; rintro q outs ⟨rfl, rfl⟩)
              | (refine Met.by (g := 9) (few_ct _) ?_; rintro q outs ⟨rfl, rfl⟩)
              | (refine Met.by (g := 10) (new_ct _ (by assumption)) ?_; rintro q outs ⟨d, hd, rfl, rfl⟩)
              | (refine Met.by (g := 11) (rules_ct _) ?_; rintro q outs ⟨r, d, hr, rfl, rfl⟩)
              | (refine Met.by (g := 13) (picks_ct _ [] (by first | omega | decide | (simp; done) | (simp; omega)) (by first | omega | decide | (simp; done) | (simp; omega))) ?_; rintro q outs ⟨x, d, hx, rfl, rfl⟩)
              | (refine Met.by (g := 14) (norm_ct _ _ (by assumption) (by first | omega | decide | (simp; done) | (simp; omega))) ?_; rintro q outs ⟨rfl, rfl⟩)
              | (refine Met.by (g := 16) (number_ct _ (by first | omega | decide | (simp; done) | (simp; omega))) ?_; rintro q outs ⟨rfl, rfl⟩)
              | (refine Met.by (g := 17) (street_ct _ (by first | omega | decide | (simp; done) | (simp; omega))) ?_; rintro q outs ⟨rfl, rfl⟩)
              | (refine Met.by (g := 20) (code_ct _ (by first | omega | decide | (simp; done) | (simp; omega))) ?_; rintro q outs ⟨rfl, rfl⟩)
              | (refine Met.by (g := 22) (short_ct _ (by first | omega | decide | (simp; done) | (simp; omega))) ?_; rintro q outs ⟨rfl, rfl⟩)
              | (refine Met.by (g := 23) (text_ct _) ?_; rintro q outs ⟨x, d, hx, rfl, rfl⟩)
              | (refine Met.by (g := 24) (raw_ct _) ?_; rintro q outs ⟨x, d, hx, rfl, rfl⟩)
              | (refine Met.by (g := 25) (bent_ct _) ?_; rintro q outs ⟨r, d, hr, rfl, rfl⟩)
              | (refine Met.by (g := 26) (rnorm_ct _ _ (by assumption) (by first | omega | decide | (simp; done) | (simp; omega))) ?_; rintro q outs ⟨rfl, rfl⟩)
              | (refine Met.by (g := 27) (normal_ct _ _ (by assumption) (by first | omega | decide | (simp; done) | (simp; omega))) ?_; rintro q outs ⟨rfl, rfl⟩)
              | (refine Met.by (g := 28) (rnormal_ct _ _ (by assumption) (by first | omega | decide | (simp; done) | (simp; omega))) ?_; rintro q outs ⟨rfl, rfl⟩)
              | (refine Met.by (g := 29) (rcode_ct _ (by first | omega | decide | (simp; done) | (simp; omega))) ?_; rintro q outs ⟨rfl, rfl⟩)
              | (refine Met.by (g := 30) (normed_ct _ (by first | omega | decide | (simp; done) | (simp; omega))) ?_; rintro q outs ⟨rfl, rfl⟩)
              | (refine Met.by (g := 31) (rnormed_ct _ (by first | omega | decide | (simp; done) | (simp; omega))) ?_; rintro q outs ⟨rfl, rfl⟩)
              | (refine Met.by (g := 32) (rnumber2_ct _ (by first | omega | decide | (simp; done) | (simp; omega))) ?_; rintro q outs ⟨rfl, rfl⟩)
              | (refine Met.by (g := 33) (rstreet_ct _ (by first | omega | decide | (simp; done) | (simp; omega))) ?_; rintro q outs ⟨rfl, rfl⟩)
              | (refine Vc.mk ?_ (Step.out ?_))
            all_goals (refine Again.by d trivial ?_)
            repeat' first
              | (refine Step.mk ?_; conv => whnf)
              | (refine Vc.om ?_ ?_; first | omega | with_reducible rfl | with_reducible exact same_rfl | (simp only [bytes_2, bytes_3, bytes_4, bytes_5, bytes_9, bytes_12, bytes_21, bytes_22, bytes_25, bytes_27, bytes_28, bytes_29, bytes_30, bytes_34, bytes_45, bytes_49, bytes_50, bytes_51, bytes_52, bytes_53, bytes_54, bytes_64, bytes_67, bytes_68, bytes_73, bytes_75, bytes_76, bytes_77, bytes_92, bytes_93, bytes_94, bytes_95, bytes_98, bytes_102, bytes_112, bytes_123, bytes_129]; omega))
              | (refine NilB.mk fun b hb => Step.out ?_)
              | with_reducible trivial
              | exact noSh_bool _
              | exact noSh_lit _
              | exact noSh_int _ _
              | exact noSh_str _
              | with_reducible rfl
              | with_reducible exact same_rfl
              | (refine Wr.i64 ?_ ?_; omega)
              | (refine Wr.u8 ?_ ?_; omega)
              | (refine Wr.i32 ?_ ?_; omega)
              | (with_reducible refine Br.tt ?_)
              | (with_reducible refine Br.ff ?_)
              | (refine Br.dT ?_ ?_; omega)
              | (refine Br.dF ?_ ?_; omega)
              | (refine Br.d (fun h => ?_) (fun h => ?_))
              | (refine Br.swap ?_)
              | (refine Br.bnot ?_)
              | (refine Br.mk (fun h => Step.out ?_) (fun h => Step.out ?_))
              | (refine Two.mk (Step.out ?_) (Step.out ?_))
              | (refine CallOK.io1 (g := 11) (Step.out ?_))
              | (refine CallOK.io1F (g := 13) (Step.out ?_))
              | (refine CallOK.io1 (g := 23) (Step.out ?_))
              | (refine CallOK.io1 (g := 24) (Step.out ?_))
              | (refine CallOK.io1 (g := 25) (Step.out ?_))
              | (refine CallOK.of_ct (Step.out ?_))
              | (refine Met.by (g := 8) (awake_ct) ?_; rintro q outs ⟨rfl, rfl⟩)
              | (refine Met.by (g := 9) (few_ct _) ?_; rintro q outs ⟨rfl, rfl⟩)
              | (refine Met.by (g := 10) (new_ct _ (by assumption)) ?_; rintro q outs ⟨d, hd, rfl, rfl⟩)
              | (refine Met.by (g := 11) (rules_ct _) ?_; rintro q outs ⟨r, d, hr, rfl, rfl⟩)
              | (refine Met.by (g := 13) (picks_ct _ [] (by first | omega | decide | (simp; done) | (simp; omega)) (by first | omega | decide | (simp; done) | (simp; omega))) ?_; rintro q outs ⟨x, d, hx, rfl, rfl⟩)
              | (refine Met.by (g := 14) (norm_ct _ _ (by assumption) (by first | omega | decide | (simp; done) | (simp; omega))) ?_; rintro q outs ⟨rfl, rfl⟩)
              | (refine Met.by (g := 16) (number_ct _ (by first | omega | decide | (simp; done) | (simp; omega))) ?_; rintro q outs ⟨rfl, rfl⟩)
              | (refine Met.by (g := 17) (street_ct _ (by first | omega | decide | (simp; done) | (simp; omega))) ?_; rintro q outs ⟨rfl, rfl⟩)
              | (refine Met.by (g := 20) (code_ct _ (by first | omega | decide | (simp; done) | (simp; omega))) ?_; rintro q outs ⟨rfl, rfl⟩)
              | (refine Met.by (g := 22) (short_ct _ (by first | omega | decide | (simp; done) | (simp; omega))) ?_; rintro q outs ⟨rfl, rfl⟩)
              | (refine Met.by (g := 23) (text_ct _) ?_; rintro q outs ⟨x, d, hx, rfl, rfl⟩)
              | (refine Met.by (g := 24) (raw_ct _) ?_; rintro q outs ⟨x, d, hx, rfl, rfl⟩)
              | (refine Met.by (g := 25) (bent_ct _) ?_; rintro q outs ⟨r, d, hr, rfl, rfl⟩)
              | (refine Met.by (g := 26) (rnorm_ct _ _ (by assumption) (by first | omega | decide | (simp; done) | (simp; omega))) ?_; rintro q outs ⟨rfl, rfl⟩)
              | (refine Met.by (g := 27) (normal_ct _ _ (by assumption) (by first | omega | decide | (simp; done) | (simp; omega))) ?_; rintro q outs ⟨rfl, rfl⟩)
              | (refine Met.by (g := 28) (rnormal_ct _ _ (by assumption) (by first | omega | decide | (simp; done) | (simp; omega))) ?_; rintro q outs ⟨rfl, rfl⟩)
              | (refine Met.by (g := 29) (rcode_ct _ (by first | omega | decide | (simp; done) | (simp; omega))) ?_; rintro q outs ⟨rfl, rfl⟩)
              | (refine Met.by (g := 30) (normed_ct _ (by first | omega | decide | (simp; done) | (simp; omega))) ?_; rintro q outs ⟨rfl, rfl⟩)
              | (refine Met.by (g := 31) (rnormed_ct _ (by first | omega | decide | (simp; done) | (simp; omega))) ?_; rintro q outs ⟨rfl, rfl⟩)
              | (refine Met.by (g := 32) (rnumber2_ct _ (by first | omega | decide | (simp; done) | (simp; omega))) ?_; rintro q outs ⟨rfl, rfl⟩)
              | (refine Met.by (g := 33) (rstreet_ct _ (by first | omega | decide | (simp; done) | (simp; omega))) ?_; rintro q outs ⟨rfl, rfl⟩)
              | (refine Vc.mk ?_ (Step.out ?_))
      · intro d _
        have hcl := codeO_len u
        repeat' first
          | (refine Step.mk ?_; conv => whnf)
          | (refine Vc.om ?_ ?_; first | omega | with_reducible rfl | with_reducible exact same_rfl | (simp only [bytes_2, bytes_3, bytes_4, bytes_5, bytes_9, bytes_12, bytes_21, bytes_22, bytes_25, bytes_27, bytes_28, bytes_29, bytes_30, bytes_34, bytes_45, bytes_49, bytes_50, bytes_51, bytes_52, bytes_53, bytes_54, bytes_64, bytes_67, bytes_68, bytes_73, bytes_75, bytes_76, bytes_77, bytes_92, bytes_93, bytes_94, bytes_95, bytes_98, bytes_102, bytes_112, bytes_123, bytes_129]; omega))
          | (refine NilB.mk fun b hb => Step.out ?_)
          | with_reducible trivial
          | exact noSh_bool _
          | exact noSh_lit _
          | exact noSh_int _ _
          | exact noSh_str _
          | with_reducible rfl
          | with_reducible exact same_rfl
          | (refine Wr.i64 ?_ ?_; omega)
          | (refine Wr.u8 ?_ ?_; omega)
          | (refine Wr.i32 ?_ ?_; omega)
          | (with_reducible refine Br.tt ?_)
          | (with_reducible refine Br.ff ?_)
          | (refine Br.dT ?_ ?_; omega)
          | (refine Br.dF ?_ ?_; omega)
          | (refine Again.by (d, i + 1) ⟨by dsimp only; omega, by dsimp only; omega⟩ ?_; dsimp only)
          | (refine Br.d (fun h => ?_) (fun h => ?_))
          | (refine Br.swap ?_)
          | (refine Br.bnot ?_)
          | (refine Br.mk (fun h => Step.out ?_) (fun h => Step.out ?_))
          | (refine Two.mk (Step.out ?_) (Step.out ?_))
          | (refine CallOK.io1 (g := 11) (Step.out ?_))
          | (refine CallOK.io1F (g := 13) (Step.out ?_))
          | (refine CallOK.io1 (g := 23) (Step.out ?_))
          | (refine CallOK.io1 (g := 24) (Step.out ?_))
          | (refine CallOK.io1 (g := 25) (Step.out ?_))
          | (refine CallOK.of_ct (Step.out ?_))
          | (refine Met.by (g := 8) (awake_ct) ?_; rintro q outs ⟨rfl, rfl⟩)
          | (refine Met.by (g := 9) (few_ct _) ?_; rintro q outs ⟨rfl, rfl⟩)
          | (refine Met.by (g := 10) (new_ct _ (by assumption)) ?_; rintro q outs ⟨d, hd, rfl, rfl⟩)
          | (refine Met.by (g := 11) (rules_ct _) ?_; rintro q outs ⟨r, d, hr, rfl, rfl⟩)
          | (refine Met.by (g := 13) (picks_ct _ [] (by first | omega | decide | (simp; done) | (simp; omega)) (by first | omega | decide | (simp; done) | (simp; omega))) ?_; rintro q outs ⟨x, d, hx, rfl, rfl⟩)
          | (refine Met.by (g := 14) (norm_ct _ _ (by assumption) (by first | omega | decide | (simp; done) | (simp; omega))) ?_; rintro q outs ⟨rfl, rfl⟩)
          | (refine Met.by (g := 16) (number_ct _ (by first | omega | decide | (simp; done) | (simp; omega))) ?_; rintro q outs ⟨rfl, rfl⟩)
          | (refine Met.by (g := 17) (street_ct _ (by first | omega | decide | (simp; done) | (simp; omega))) ?_; rintro q outs ⟨rfl, rfl⟩)
          | (refine Met.by (g := 20) (code_ct _ (by first | omega | decide | (simp; done) | (simp; omega))) ?_; rintro q outs ⟨rfl, rfl⟩)
          | (refine Met.by (g := 22) (short_ct _ (by first | omega | decide | (simp; done) | (simp; omega))) ?_; rintro q outs ⟨rfl, rfl⟩)
          | (refine Met.by (g := 23) (text_ct _) ?_; rintro q outs ⟨x, d, hx, rfl, rfl⟩)
          | (refine Met.by (g := 24) (raw_ct _) ?_; rintro q outs ⟨x, d, hx, rfl, rfl⟩)
          | (refine Met.by (g := 25) (bent_ct _) ?_; rintro q outs ⟨r, d, hr, rfl, rfl⟩)
          | (refine Met.by (g := 26) (rnorm_ct _ _ (by assumption) (by first | omega | decide | (simp; done) | (simp; omega))) ?_; rintro q outs ⟨rfl, rfl⟩)
          | (refine Met.by (g := 27) (normal_ct _ _ (by assumption) (by first | omega | decide | (simp; done) | (simp; omega))) ?_; rintro q outs ⟨rfl, rfl⟩)
          | (refine Met.by (g := 28) (rnormal_ct _ _ (by assumption) (by first | omega | decide | (simp; done) | (simp; omega))) ?_; rintro q outs ⟨rfl, rfl⟩)
          | (refine Met.by (g := 29) (rcode_ct _ (by first | omega | decide | (simp; done) | (simp; omega))) ?_; rintro q outs ⟨rfl, rfl⟩)
          | (refine Met.by (g := 30) (normed_ct _ (by first | omega | decide | (simp; done) | (simp; omega))) ?_; rintro q outs ⟨rfl, rfl⟩)
          | (refine Met.by (g := 31) (rnormed_ct _ (by first | omega | decide | (simp; done) | (simp; omega))) ?_; rintro q outs ⟨rfl, rfl⟩)
          | (refine Met.by (g := 32) (rnumber2_ct _ (by first | omega | decide | (simp; done) | (simp; omega))) ?_; rintro q outs ⟨rfl, rfl⟩)
          | (refine Met.by (g := 33) (rstreet_ct _ (by first | omega | decide | (simp; done) | (simp; omega))) ?_; rintro q outs ⟨rfl, rfl⟩)
          | (refine Vc.mk ?_ (Step.out ?_))
    · repeat' first
        | (refine Step.mk ?_; conv => whnf)
        | (refine Vc.om ?_ ?_; first | omega | with_reducible rfl | with_reducible exact same_rfl | (simp only [bytes_2, bytes_3, bytes_4, bytes_5, bytes_9, bytes_12, bytes_21, bytes_22, bytes_25, bytes_27, bytes_28, bytes_29, bytes_30, bytes_34, bytes_45, bytes_49, bytes_50, bytes_51, bytes_52, bytes_53, bytes_54, bytes_64, bytes_67, bytes_68, bytes_73, bytes_75, bytes_76, bytes_77, bytes_92, bytes_93, bytes_94, bytes_95, bytes_98, bytes_102, bytes_112, bytes_123, bytes_129]; omega))
        | (refine NilB.mk fun b hb => Step.out ?_)
        | with_reducible trivial
        | exact noSh_bool _
        | exact noSh_lit _
        | exact noSh_int _ _
        | exact noSh_str _
        | with_reducible rfl
        | with_reducible exact same_rfl
        | (refine Wr.i64 ?_ ?_; omega)
        | (refine Wr.u8 ?_ ?_; omega)
        | (refine Wr.i32 ?_ ?_; omega)
        | (with_reducible refine Br.tt ?_)
        | (with_reducible refine Br.ff ?_)
        | (refine Br.dT ?_ ?_; omega)
        | (refine Br.dF ?_ ?_; omega)
        | (exact .inl rfl)
        | (exact .inr rfl)
        | (refine Br.d (fun h => ?_) (fun h => ?_))
        | (refine Br.swap ?_)
        | (refine Br.bnot ?_)
        | (refine Br.mk (fun h => Step.out ?_) (fun h => Step.out ?_))
        | (refine Two.mk (Step.out ?_) (Step.out ?_))
        | (refine CallOK.io1 (g := 11) (Step.out ?_))
        | (refine CallOK.io1F (g := 13) (Step.out ?_))
        | (refine CallOK.io1 (g := 23) (Step.out ?_))
        | (refine CallOK.io1 (g := 24) (Step.out ?_))
        | (refine CallOK.io1 (g := 25) (Step.out ?_))
        | (refine CallOK.of_ct (Step.out ?_))
        | (refine Met.by (g := 8) (awake_ct) ?_; rintro q outs ⟨rfl, rfl⟩)
        | (refine Met.by (g := 9) (few_ct _) ?_; rintro q outs ⟨rfl, rfl⟩)
        | (refine Met.by (g := 10) (new_ct _ (by assumption)) ?_; rintro q outs ⟨d, hd, rfl, rfl⟩)
        | (refine Met.by (g := 11) (rules_ct _) ?_; rintro q outs ⟨r, d, hr, rfl, rfl⟩)
        | (refine Met.by (g := 13) (picks_ct _ [] (by first | omega | decide | (simp; done) | (simp; omega)) (by first | omega | decide | (simp; done) | (simp; omega))) ?_; rintro q outs ⟨x, d, hx, rfl, rfl⟩)
        | (refine Met.by (g := 14) (norm_ct _ _ (by assumption) (by first | omega | decide | (simp; done) | (simp; omega))) ?_; rintro q outs ⟨rfl, rfl⟩)
        | (refine Met.by (g := 16) (number_ct _ (by first | omega | decide | (simp; done) | (simp; omega))) ?_; rintro q outs ⟨rfl, rfl⟩)
        | (refine Met.by (g := 17) (street_ct _ (by first | omega | decide | (simp; done) | (simp; omega))) ?_; rintro q outs ⟨rfl, rfl⟩)
        | (refine Met.by (g := 20) (code_ct _ (by first | omega | decide | (simp; done) | (simp; omega))) ?_; rintro q outs ⟨rfl, rfl⟩)
        | (refine Met.by (g := 22) (short_ct _ (by first | omega | decide | (simp; done) | (simp; omega))) ?_; rintro q outs ⟨rfl, rfl⟩)
        | (refine Met.by (g := 23) (text_ct _) ?_; rintro q outs ⟨x, d, hx, rfl, rfl⟩)
        | (refine Met.by (g := 24) (raw_ct _) ?_; rintro q outs ⟨x, d, hx, rfl, rfl⟩)
        | (refine Met.by (g := 25) (bent_ct _) ?_; rintro q outs ⟨r, d, hr, rfl, rfl⟩)
        | (refine Met.by (g := 26) (rnorm_ct _ _ (by assumption) (by first | omega | decide | (simp; done) | (simp; omega))) ?_; rintro q outs ⟨rfl, rfl⟩)
        | (refine Met.by (g := 27) (normal_ct _ _ (by assumption) (by first | omega | decide | (simp; done) | (simp; omega))) ?_; rintro q outs ⟨rfl, rfl⟩)
        | (refine Met.by (g := 28) (rnormal_ct _ _ (by assumption) (by first | omega | decide | (simp; done) | (simp; omega))) ?_; rintro q outs ⟨rfl, rfl⟩)
        | (refine Met.by (g := 29) (rcode_ct _ (by first | omega | decide | (simp; done) | (simp; omega))) ?_; rintro q outs ⟨rfl, rfl⟩)
        | (refine Met.by (g := 30) (normed_ct _ (by first | omega | decide | (simp; done) | (simp; omega))) ?_; rintro q outs ⟨rfl, rfl⟩)
        | (refine Met.by (g := 31) (rnormed_ct _ (by first | omega | decide | (simp; done) | (simp; omega))) ?_; rintro q outs ⟨rfl, rfl⟩)
        | (refine Met.by (g := 32) (rnumber2_ct _ (by first | omega | decide | (simp; done) | (simp; omega))) ?_; rintro q outs ⟨rfl, rfl⟩)
        | (refine Met.by (g := 33) (rstreet_ct _ (by first | omega | decide | (simp; done) | (simp; omega))) ?_; rintro q outs ⟨rfl, rfl⟩)
        | (refine Vc.mk ?_ (Step.out ?_))
end Kx
