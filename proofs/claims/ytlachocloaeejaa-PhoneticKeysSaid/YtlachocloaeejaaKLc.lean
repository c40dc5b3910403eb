/-
  The statement on the shape of codes.
  No condition beyond those written in each theorem.
-/
import Derived.Test.YtlachocloaeejaaKLb
open Go Sx Go.Proofs
set_option linter.unusedSimpArgs false
set_option linter.unusedVariables false
namespace Kx
theorem shape_ct (l : List Int) : Ct Try.prog 6 [ints l] fun q _ => Yes q := by
  refine .of_W (fn := Try.f6) hΓ hm (by rfl) ord6 [] (by kernel_rfl) (Step.out ?_)
  repeat' first
    | (refine Step.mk ?_; conv => whnf)
    | (refine Vc.om ?_ ?_; first | omega | with_reducible rfl | with_reducible exact ⟨rfl, fun _ _ => rfl⟩ | (simp only [bytes_2, bytes_3, bytes_4, bytes_5, bytes_9, bytes_12, bytes_21, bytes_22, bytes_26, bytes_29, bytes_35, bytes_36, bytes_37, bytes_40, bytes_46, bytes_50, bytes_51, bytes_52, bytes_59, bytes_63, bytes_66]; omega))
    | (refine NilB.mk fun b hb => Step.out ?_)
    | with_reducible trivial
    | exact noSh_bool _
    | exact noSh_lit _
    | exact noSh_int _ _
    | exact noSh_str _
    | with_reducible rfl
    | with_reducible exact ⟨rfl, fun _ _ => rfl⟩
    | (refine Wr.i64 ?_ ?_; omega)
    | (refine Wr.u8 ?_ ?_; omega)
    | (refine Wr.i32 ?_ ?_; omega)
    | (with_reducible refine Br.tt ?_)
    | (with_reducible refine Br.ff ?_)
    | (refine Br.dT ?_ ?_; omega)
    | (refine Br.dF ?_ ?_; omega)
    | (exact .inl rfl)
    | (exact .inr rfl)
    | (refine Vc.om ?_ ?_; focus (simp; omega; done))
    | (refine Wr.i64 ?_ ?_; focus (simp; omega; done))
    | (refine Wr.u8 ?_ ?_; focus (simp; omega; done))
    | (refine Br.dT ?_ ?_; focus (simp; omega; done))
    | (refine Br.dF ?_ ?_; focus (simp; omega; done))
    | (refine Br.d (fun h => ?_) (fun h => ?_))
    | (refine Br.swap ?_)
    | (refine Br.bnot ?_)
    | (refine Br.mk (fun h => Step.out ?_) (fun h => Step.out ?_))
    | (refine Two.mk (Step.out ?_) (Step.out ?_))
    | (refine CallOK.io1 (g := 12) (Step.out ?_))
    | (refine CallOK.io1F (g := 21) (Step.out ?_))
    | (refine CallOK.of_ct (Step.out ?_))
    | (refine Met.by (g := 8) (awake_ct) ?_; rintro q outs ⟨rfl, rfl⟩)
    | (refine Met.by (g := 9) (few_ct _) ?_; rintro q outs ⟨rfl, rfl⟩)
    | (refine Met.by (g := 11) (new_ct _ (by assumption)) ?_; rintro q outs ⟨d, hd, rfl, rfl⟩)
    | (refine Met.by (g := 12) (token_ct _) ?_; rintro q outs ⟨x, d, ⟨hx1, hx2, hx3⟩, rfl, rfl⟩)
    | (refine Met.by (g := 15) (soundex_ct _ (by first | omega | decide | (simp; done) | (simp; omega))) ?_; rintro q outs ⟨rfl, rfl⟩)
    | (refine Met.by (g := 17) (skeleton_ct _ (by first | omega | decide | (simp; done) | (simp; omega))) ?_; rintro q outs ⟨rfl, rfl⟩)
    | (refine Met.by (g := 21) (picks_ct _ [] (by first | omega | decide | (simp; done) | (simp; omega)) (by first | omega | decide | (simp; done) | (simp; omega))) ?_; rintro q outs ⟨x, d, hx, rfl, rfl⟩)
    | (refine Met.by (g := 22) (rletters_ct _ (by first | omega | decide | (simp; done) | (simp; omega))) ?_; rintro q outs ⟨rfl, rfl⟩)
    | (refine Vc.mk ?_ (Step.out ?_))
  rename_i x0 d0 a1 a2 a3
  refine Met.by (picksP_ct (fun y => y.length ≤ 8 ∧ ∀ z ∈ y, isLet z = true) _ [[], x] (by simp only [List.mem_cons, List.not_mem_nil, or_false]; rintro y (rfl | rfl); exact ⟨by decide, nofun⟩; exact ⟨hx2, hx3⟩) (by first | omega | decide | (simp; done) | (simp; omega)) (by first | omega | decide | (simp; done) | (simp; omega))) ?_
  rintro q outs ⟨p, d, ⟨p1, p2⟩, rfl, rfl⟩
  have hS := shape_law (s := x0 ++ p) (by simp; omega) (by simp; omega) (fun y hy => by
    rcases List.mem_append.1 hy with h | h
    · exact a3 y h
    · exact p2 y h)
  obtain ⟨s1, s2, s3, s4, s5, s6, s7, s8, s9⟩ := hS
  have t1 : List.drop (Int.toNat 0) (List.take (Int.toNat 1) (sdx (x0 ++ p))) = List.drop (Int.toNat 0) (List.take (Int.toNat 1) (x0 ++ p)) := by
    rw [show (Int.toNat 0) = 0 from rfl, show (Int.toNat 1) = 0 + 1 from rfl, cut_step _ 0 0 (by omega), cut_step _ 0 0 (by simp; omega), s2]
  have t2 : List.drop (Int.toNat 0) (List.take (Int.toNat 1) (skl (x0 ++ p))) = List.drop (Int.toNat 0) (List.take (Int.toNat 1) (x0 ++ p)) := by
    rw [show (Int.toNat 0) = 0 from rfl, show (Int.toNat 1) = 0 + 1 from rfl, cut_step _ 0 0 (by omega), cut_step _ 0 0 (by simp; omega), s7]
  repeat' first
    | (refine Step.mk ?_; conv => whnf)
    | (refine Vc.om ?_ ?_; first | omega | with_reducible rfl | with_reducible exact ⟨rfl, fun _ _ => rfl⟩ | (simp only [bytes_2, bytes_3, bytes_4, bytes_5, bytes_9, bytes_12, bytes_21, bytes_22, bytes_26, bytes_29, bytes_35, bytes_36, bytes_37, bytes_40, bytes_46, bytes_50, bytes_51, bytes_52, bytes_59, bytes_63, bytes_66]; omega))
    | (refine NilB.mk fun b hb => Step.out ?_)
    | with_reducible trivial
    | exact noSh_bool _
    | exact noSh_lit _
    | exact noSh_int _ _
    | exact noSh_str _
    | with_reducible rfl
    | with_reducible exact ⟨rfl, fun _ _ => rfl⟩
    | (refine Wr.i64 ?_ ?_; omega)
    | (refine Wr.u8 ?_ ?_; omega)
    | (refine Wr.i32 ?_ ?_; omega)
    | (with_reducible refine Br.tt ?_)
    | (with_reducible refine Br.ff ?_)
    | (refine Br.dT ?_ ?_; omega)
    | (refine Br.dF ?_ ?_; omega)
    | (exact .inl rfl)
    | (exact .inr rfl)
    | (refine Vc.om ?_ ?_; focus (simp; omega; done))
    | (refine Wr.i64 ?_ ?_; focus (simp; omega; done))
    | (refine Wr.u8 ?_ ?_; focus (simp; omega; done))
    | (refine Br.dT ?_ ?_; focus (simp; omega; done))
    | (refine Br.dF ?_ ?_; focus (simp; omega; done))
    | (exact absurd t1 ‹_›)
    | (exact absurd t2 ‹_›)
    | (exact absurd s8 ‹_›)
    | (refine Br.d (fun h => ?_) (fun h => ?_))
    | (refine Br.swap ?_)
    | (refine Br.bnot ?_)
    | (refine Br.mk (fun h => Step.out ?_) (fun h => Step.out ?_))
    | (refine Two.mk (Step.out ?_) (Step.out ?_))
    | (refine CallOK.io1 (g := 12) (Step.out ?_))
    | (refine CallOK.io1F (g := 21) (Step.out ?_))
    | (refine CallOK.of_ct (Step.out ?_))
    | (refine Met.by (g := 8) (awake_ct) ?_; rintro q outs ⟨rfl, rfl⟩)
    | (refine Met.by (g := 9) (few_ct _) ?_; rintro q outs ⟨rfl, rfl⟩)
    | (refine Met.by (g := 11) (new_ct _ (by assumption)) ?_; rintro q outs ⟨d, hd, rfl, rfl⟩)
    | (refine Met.by (g := 12) (token_ct _) ?_; rintro q outs ⟨x, d, ⟨hx1, hx2, hx3⟩, rfl, rfl⟩)
    | (refine Met.by (g := 15) (soundex_ct _ (by first | omega | decide | (simp; done) | (simp; omega))) ?_; rintro q outs ⟨rfl, rfl⟩)
    | (refine Met.by (g := 17) (skeleton_ct _ (by first | omega | decide | (simp; done) | (simp; omega))) ?_; rintro q outs ⟨rfl, rfl⟩)
    | (refine Met.by (g := 21) (picks_ct _ [] (by first | omega | decide | (simp; done) | (simp; omega)) (by first | omega | decide | (simp; done) | (simp; omega))) ?_; rintro q outs ⟨x, d, hx, rfl, rfl⟩)
    | (refine Met.by (g := 22) (rletters_ct _ (by first | omega | decide | (simp; done) | (simp; omega))) ?_; rintro q outs ⟨rfl, rfl⟩)
    | (refine Vc.mk ?_ (Step.out ?_))
  generalize sdx (x0 ++ p) = c at *
  generalize skl (x0 ++ p) = k at *
  clear t1 t2 s2 s7 s8 p1 p2 a1 a2 a3 hx1 hx2 hx3 hd
  refine CodeOK.loopW hΓ hm ord6 [] (by kernel_rfl) (α := Nat) (fun i => [(5, .str c), (6, .str k), (7, i64 i)]) (fun i => []) 0 (fun i => 1 ≤ i ∧ i ≤ 4) (fun i => 4 - i) ?_ ?_
  · refine Again.by 1 (by omega) ?_
    repeat' first
      | (refine Step.mk ?_; conv => whnf)
      | (refine Vc.om ?_ ?_; first | omega | with_reducible rfl | with_reducible exact ⟨rfl, fun _ _ => rfl⟩ | (simp only [bytes_2, bytes_3, bytes_4, bytes_5, bytes_9, bytes_12, bytes_21, bytes_22, bytes_26, bytes_29, bytes_35, bytes_36, bytes_37, bytes_40, bytes_46, bytes_50, bytes_51, bytes_52, bytes_59, bytes_63, bytes_66]; omega))
      | (refine NilB.mk fun b hb => Step.out ?_)
      | with_reducible trivial
      | exact noSh_bool _
      | exact noSh_lit _
      | exact noSh_int _ _
      | exact noSh_str _
      | with_reducible rfl
      | with_reducible exact ⟨rfl, fun _ _ => rfl⟩
      | (refine Wr.i64 ?_ ?_; omega)
      | (refine Wr.u8 ?_ ?_; omega)
      | (refine Wr.i32 ?_ ?_; omega)
      | (with_reducible refine Br.tt ?_)
      | (with_reducible refine Br.ff ?_)
      | (refine Br.dT ?_ ?_; omega)
      | (refine Br.dF ?_ ?_; omega)
      | (refine Br.d (fun h => ?_) (fun h => ?_))
      | (refine Br.swap ?_)
      | (refine Br.bnot ?_)
      | (refine Br.mk (fun h => Step.out ?_) (fun h => Step.out ?_))
      | (refine Two.mk (Step.out ?_) (Step.out ?_))
      | (refine CallOK.io1 (g := 12) (Step.out ?_))
      | (refine CallOK.io1F (g := 21) (Step.out ?_))
      | (refine CallOK.of_ct (Step.out ?_))
      | (refine Met.by (g := 8) (awake_ct) ?_; rintro q outs ⟨rfl, rfl⟩)
      | (refine Met.by (g := 9) (few_ct _) ?_; rintro q outs ⟨rfl, rfl⟩)
      | (refine Met.by (g := 11) (new_ct _ (by assumption)) ?_; rintro q outs ⟨d, hd, rfl, rfl⟩)
      | (refine Met.by (g := 12) (token_ct _) ?_; rintro q outs ⟨x, d, ⟨hx1, hx2, hx3⟩, rfl, rfl⟩)
      | (refine Met.by (g := 15) (soundex_ct _ (by first | omega | decide | (simp; done) | (simp; omega))) ?_; rintro q outs ⟨rfl, rfl⟩)
      | (refine Met.by (g := 17) (skeleton_ct _ (by first | omega | decide | (simp; done) | (simp; omega))) ?_; rintro q outs ⟨rfl, rfl⟩)
      | (refine Met.by (g := 21) (picks_ct _ [] (by first | omega | decide | (simp; done) | (simp; omega)) (by first | omega | decide | (simp; done) | (simp; omega))) ?_; rintro q outs ⟨x, d, hx, rfl, rfl⟩)
      | (refine Met.by (g := 22) (rletters_ct _ (by first | omega | decide | (simp; done) | (simp; omega))) ?_; rintro q outs ⟨rfl, rfl⟩)
      | (refine Vc.mk ?_ (Step.out ?_))
  · intro i hi
    have u1 := s3 i hi.1
    have u2 : 2 ≤ i → i < 4 → ((c.getD (i - 1) 0).toNat : Int) = 48 → ((c.getD i 0).toNat : Int) = 48 := fun h1 h2 h3 => by rw [s4 i h1 h2 (u8_eq (n := 48) (by decide) h3)]; rfl
    repeat' first
      | (refine Step.mk ?_; conv => whnf)
      | (refine Vc.om ?_ ?_; first | omega | with_reducible rfl | with_reducible exact ⟨rfl, fun _ _ => rfl⟩ | (simp only [bytes_2, bytes_3, bytes_4, bytes_5, bytes_9, bytes_12, bytes_21, bytes_22, bytes_26, bytes_29, bytes_35, bytes_36, bytes_37, bytes_40, bytes_46, bytes_50, bytes_51, bytes_52, bytes_59, bytes_63, bytes_66]; omega))
      | (refine NilB.mk fun b hb => Step.out ?_)
      | with_reducible trivial
      | exact noSh_bool _
      | exact noSh_lit _
      | exact noSh_int _ _
      | exact noSh_str _
      | with_reducible rfl
      | with_reducible exact ⟨rfl, fun _ _ => rfl⟩
      | (refine Wr.i64 ?_ ?_; omega)
      | (refine Wr.u8 ?_ ?_; omega)
      | (refine Wr.i32 ?_ ?_; omega)
      | (with_reducible refine Br.tt ?_)
      | (with_reducible refine Br.ff ?_)
      | (refine Br.dT ?_ ?_; omega)
      | (refine Br.dF ?_ ?_; omega)
      | (refine Br.d (fun h => ?_) (fun h => ?_))
      | (refine Br.swap ?_)
      | (refine Br.bnot ?_)
      | (refine Br.mk (fun h => Step.out ?_) (fun h => Step.out ?_))
      | (refine Two.mk (Step.out ?_) (Step.out ?_))
      | (refine CallOK.io1 (g := 12) (Step.out ?_))
      | (refine CallOK.io1F (g := 21) (Step.out ?_))
      | (refine CallOK.of_ct (Step.out ?_))
      | (refine Met.by (g := 8) (awake_ct) ?_; rintro q outs ⟨rfl, rfl⟩)
      | (refine Met.by (g := 9) (few_ct _) ?_; rintro q outs ⟨rfl, rfl⟩)
      | (refine Met.by (g := 11) (new_ct _ (by assumption)) ?_; rintro q outs ⟨d, hd, rfl, rfl⟩)
      | (refine Met.by (g := 12) (token_ct _) ?_; rintro q outs ⟨x, d, ⟨hx1, hx2, hx3⟩, rfl, rfl⟩)
      | (refine Met.by (g := 15) (soundex_ct _ (by first | omega | decide | (simp; done) | (simp; omega))) ?_; rintro q outs ⟨rfl, rfl⟩)
      | (refine Met.by (g := 17) (skeleton_ct _ (by first | omega | decide | (simp; done) | (simp; omega))) ?_; rintro q outs ⟨rfl, rfl⟩)
      | (refine Met.by (g := 21) (picks_ct _ [] (by first | omega | decide | (simp; done) | (simp; omega)) (by first | omega | decide | (simp; done) | (simp; omega))) ?_; rintro q outs ⟨x, d, hx, rfl, rfl⟩)
      | (refine Met.by (g := 22) (rletters_ct _ (by first | omega | decide | (simp; done) | (simp; omega))) ?_; rintro q outs ⟨rfl, rfl⟩)
      | (refine Vc.mk ?_ (Step.out ?_))
    all_goals try simp only [Int.toNat_natCast, show ((i : Int) - 1).toNat = i - 1 by omega] at *
    all_goals try (exfalso; have := u1 (by omega); omega)
    all_goals try (exfalso; have := u2 (by omega) (by omega) ‹_›; omega)
    all_goals try
      refine Again.by (i + 1) ⟨by omega, by omega⟩ ?_
      repeat' first
        | (refine Step.mk ?_; conv => whnf)
        | (refine Vc.om ?_ ?_; first | omega | with_reducible rfl | with_reducible exact ⟨rfl, fun _ _ => rfl⟩ | (simp only [bytes_2, bytes_3, bytes_4, bytes_5, bytes_9, bytes_12, bytes_21, bytes_22, bytes_26, bytes_29, bytes_35, bytes_36, bytes_37, bytes_40, bytes_46, bytes_50, bytes_51, bytes_52, bytes_59, bytes_63, bytes_66]; omega))
        | (refine NilB.mk fun b hb => Step.out ?_)
        | with_reducible trivial
        | exact noSh_bool _
        | exact noSh_lit _
        | exact noSh_int _ _
        | exact noSh_str _
        | with_reducible rfl
        | with_reducible exact ⟨rfl, fun _ _ => rfl⟩
        | (refine Wr.i64 ?_ ?_; omega)
        | (refine Wr.u8 ?_ ?_; omega)
        | (refine Wr.i32 ?_ ?_; omega)
        | (with_reducible refine Br.tt ?_)
        | (with_reducible refine Br.ff ?_)
        | (refine Br.dT ?_ ?_; omega)
        | (refine Br.dF ?_ ?_; omega)
        | (refine Br.d (fun h => ?_) (fun h => ?_))
        | (refine Br.swap ?_)
        | (refine Br.bnot ?_)
        | (refine Br.mk (fun h => Step.out ?_) (fun h => Step.out ?_))
        | (refine Two.mk (Step.out ?_) (Step.out ?_))
        | (refine CallOK.io1 (g := 12) (Step.out ?_))
        | (refine CallOK.io1F (g := 21) (Step.out ?_))
        | (refine CallOK.of_ct (Step.out ?_))
        | (refine Met.by (g := 8) (awake_ct) ?_; rintro q outs ⟨rfl, rfl⟩)
        | (refine Met.by (g := 9) (few_ct _) ?_; rintro q outs ⟨rfl, rfl⟩)
        | (refine Met.by (g := 11) (new_ct _ (by assumption)) ?_; rintro q outs ⟨d, hd, rfl, rfl⟩)
        | (refine Met.by (g := 12) (token_ct _) ?_; rintro q outs ⟨x, d, ⟨hx1, hx2, hx3⟩, rfl, rfl⟩)
        | (refine Met.by (g := 15) (soundex_ct _ (by first | omega | decide | (simp; done) | (simp; omega))) ?_; rintro q outs ⟨rfl, rfl⟩)
        | (refine Met.by (g := 17) (skeleton_ct _ (by first | omega | decide | (simp; done) | (simp; omega))) ?_; rintro q outs ⟨rfl, rfl⟩)
        | (refine Met.by (g := 21) (picks_ct _ [] (by first | omega | decide | (simp; done) | (simp; omega)) (by first | omega | decide | (simp; done) | (simp; omega))) ?_; rintro q outs ⟨x, d, hx, rfl, rfl⟩)
        | (refine Met.by (g := 22) (rletters_ct _ (by first | omega | decide | (simp; done) | (simp; omega))) ?_; rintro q outs ⟨rfl, rfl⟩)
        | (refine Vc.mk ?_ (Step.out ?_))
    refine CodeOK.loopW hΓ hm ord6 [] (by kernel_rfl) (α := Nat) (fun j => [(6, .str k), (8, i64 j)]) (fun j => []) 0 (fun j => 1 ≤ j ∧ j ≤ k.length) (fun j => k.length - j) ?_ ?_
    · refine Again.by 1 ⟨Nat.le_refl _, s5⟩ ?_
      repeat' first
        | (refine Step.mk ?_; conv => whnf)
        | (refine Vc.om ?_ ?_; first | omega | with_reducible rfl | with_reducible exact ⟨rfl, fun _ _ => rfl⟩ | (simp only [bytes_2, bytes_3, bytes_4, bytes_5, bytes_9, bytes_12, bytes_21, bytes_22, bytes_26, bytes_29, bytes_35, bytes_36, bytes_37, bytes_40, bytes_46, bytes_50, bytes_51, bytes_52, bytes_59, bytes_63, bytes_66]; omega))
        | (refine NilB.mk fun b hb => Step.out ?_)
        | with_reducible trivial
        | exact noSh_bool _
        | exact noSh_lit _
        | exact noSh_int _ _
        | exact noSh_str _
        | with_reducible rfl
        | with_reducible exact ⟨rfl, fun _ _ => rfl⟩
        | (refine Wr.i64 ?_ ?_; omega)
        | (refine Wr.u8 ?_ ?_; omega)
        | (refine Wr.i32 ?_ ?_; omega)
        | (with_reducible refine Br.tt ?_)
        | (with_reducible refine Br.ff ?_)
        | (refine Br.dT ?_ ?_; omega)
        | (refine Br.dF ?_ ?_; omega)
        | (refine Br.d (fun h => ?_) (fun h => ?_))
        | (refine Br.swap ?_)
        | (refine Br.bnot ?_)
        | (refine Br.mk (fun h => Step.out ?_) (fun h => Step.out ?_))
        | (refine Two.mk (Step.out ?_) (Step.out ?_))
        | (refine CallOK.io1 (g := 12) (Step.out ?_))
        | (refine CallOK.io1F (g := 21) (Step.out ?_))
        | (refine CallOK.of_ct (Step.out ?_))
        | (refine Met.by (g := 8) (awake_ct) ?_; rintro q outs ⟨rfl, rfl⟩)
        | (refine Met.by (g := 9) (few_ct _) ?_; rintro q outs ⟨rfl, rfl⟩)
        | (refine Met.by (g := 11) (new_ct _ (by assumption)) ?_; rintro q outs ⟨d, hd, rfl, rfl⟩)
        | (refine Met.by (g := 12) (token_ct _) ?_; rintro q outs ⟨x, d, ⟨hx1, hx2, hx3⟩, rfl, rfl⟩)
        | (refine Met.by (g := 15) (soundex_ct _ (by first | omega | decide | (simp; done) | (simp; omega))) ?_; rintro q outs ⟨rfl, rfl⟩)
        | (refine Met.by (g := 17) (skeleton_ct _ (by first | omega | decide | (simp; done) | (simp; omega))) ?_; rintro q outs ⟨rfl, rfl⟩)
        | (refine Met.by (g := 21) (picks_ct _ [] (by first | omega | decide | (simp; done) | (simp; omega)) (by first | omega | decide | (simp; done) | (simp; omega))) ?_; rintro q outs ⟨x, d, hx, rfl, rfl⟩)
        | (refine Met.by (g := 22) (rletters_ct _ (by first | omega | decide | (simp; done) | (simp; omega))) ?_; rintro q outs ⟨rfl, rfl⟩)
        | (refine Vc.mk ?_ (Step.out ?_))
    · intro j hj
      have u3 : j < k.length → ¬((k.getD j 0).toNat : Int) = ((k.getD (j - 1) 0).toNat : Int) := fun h e => s9 j hj.1 h (byte_eq e)
      repeat' first
        | (refine Step.mk ?_; conv => whnf)
        | (refine Vc.om ?_ ?_; first | omega | with_reducible rfl | with_reducible exact ⟨rfl, fun _ _ => rfl⟩ | (simp only [bytes_2, bytes_3, bytes_4, bytes_5, bytes_9, bytes_12, bytes_21, bytes_22, bytes_26, bytes_29, bytes_35, bytes_36, bytes_37, bytes_40, bytes_46, bytes_50, bytes_51, bytes_52, bytes_59, bytes_63, bytes_66]; omega))
        | (refine NilB.mk fun b hb => Step.out ?_)
        | with_reducible trivial
        | exact noSh_bool _
        | exact noSh_lit _
        | exact noSh_int _ _
        | exact noSh_str _
        | with_reducible rfl
        | with_reducible exact ⟨rfl, fun _ _ => rfl⟩
        | (refine Wr.i64 ?_ ?_; omega)
        | (refine Wr.u8 ?_ ?_; omega)
        | (refine Wr.i32 ?_ ?_; omega)
        | (with_reducible refine Br.tt ?_)
        | (with_reducible refine Br.ff ?_)
        | (refine Br.dT ?_ ?_; omega)
        | (refine Br.dF ?_ ?_; omega)
        | (refine Br.d (fun h => ?_) (fun h => ?_))
        | (refine Br.swap ?_)
        | (refine Br.bnot ?_)
        | (refine Br.mk (fun h => Step.out ?_) (fun h => Step.out ?_))
        | (refine Two.mk (Step.out ?_) (Step.out ?_))
        | (refine CallOK.io1 (g := 12) (Step.out ?_))
        | (refine CallOK.io1F (g := 21) (Step.out ?_))
        | (refine CallOK.of_ct (Step.out ?_))
        | (refine Met.by (g := 8) (awake_ct) ?_; rintro q outs ⟨rfl, rfl⟩)
        | (refine Met.by (g := 9) (few_ct _) ?_; rintro q outs ⟨rfl, rfl⟩)
        | (refine Met.by (g := 11) (new_ct _ (by assumption)) ?_; rintro q outs ⟨d, hd, rfl, rfl⟩)
        | (refine Met.by (g := 12) (token_ct _) ?_; rintro q outs ⟨x, d, ⟨hx1, hx2, hx3⟩, rfl, rfl⟩)
        | (refine Met.by (g := 15) (soundex_ct _ (by first | omega | decide | (simp; done) | (simp; omega))) ?_; rintro q outs ⟨rfl, rfl⟩)
        | (refine Met.by (g := 17) (skeleton_ct _ (by first | omega | decide | (simp; done) | (simp; omega))) ?_; rintro q outs ⟨rfl, rfl⟩)
        | (refine Met.by (g := 21) (picks_ct _ [] (by first | omega | decide | (simp; done) | (simp; omega)) (by first | omega | decide | (simp; done) | (simp; omega))) ?_; rintro q outs ⟨x, d, hx, rfl, rfl⟩)
        | (refine Met.by (g := 22) (rletters_ct _ (by first | omega | decide | (simp; done) | (simp; omega))) ?_; rintro q outs ⟨rfl, rfl⟩)
        | (refine Vc.mk ?_ (Step.out ?_))
      all_goals try simp only [Int.toNat_natCast, show ((j : Int) - 1).toNat = j - 1 by omega] at *
      · exact absurd ‹_› (u3 (by omega))
      · refine Again.by (j + 1) ⟨by omega, by omega⟩ ?_
        repeat' first
          | (refine Step.mk ?_; conv => whnf)
          | (refine Vc.om ?_ ?_; first | omega | with_reducible rfl | with_reducible exact ⟨rfl, fun _ _ => rfl⟩ | (simp only [bytes_2, bytes_3, bytes_4, bytes_5, bytes_9, bytes_12, bytes_21, bytes_22, bytes_26, bytes_29, bytes_35, bytes_36, bytes_37, bytes_40, bytes_46, bytes_50, bytes_51, bytes_52, bytes_59, bytes_63, bytes_66]; omega))
          | (refine NilB.mk fun b hb => Step.out ?_)
          | with_reducible trivial
          | exact noSh_bool _
          | exact noSh_lit _
          | exact noSh_int _ _
          | exact noSh_str _
          | with_reducible rfl
          | with_reducible exact ⟨rfl, fun _ _ => rfl⟩
          | (refine Wr.i64 ?_ ?_; omega)
          | (refine Wr.u8 ?_ ?_; omega)
          | (refine Wr.i32 ?_ ?_; omega)
          | (with_reducible refine Br.tt ?_)
          | (with_reducible refine Br.ff ?_)
          | (refine Br.dT ?_ ?_; omega)
          | (refine Br.dF ?_ ?_; omega)
          | (refine Br.d (fun h => ?_) (fun h => ?_))
          | (refine Br.swap ?_)
          | (refine Br.bnot ?_)
          | (refine Br.mk (fun h => Step.out ?_) (fun h => Step.out ?_))
          | (refine Two.mk (Step.out ?_) (Step.out ?_))
          | (refine CallOK.io1 (g := 12) (Step.out ?_))
          | (refine CallOK.io1F (g := 21) (Step.out ?_))
          | (refine CallOK.of_ct (Step.out ?_))
          | (refine Met.by (g := 8) (awake_ct) ?_; rintro q outs ⟨rfl, rfl⟩)
          | (refine Met.by (g := 9) (few_ct _) ?_; rintro q outs ⟨rfl, rfl⟩)
          | (refine Met.by (g := 11) (new_ct _ (by assumption)) ?_; rintro q outs ⟨d, hd, rfl, rfl⟩)
          | (refine Met.by (g := 12) (token_ct _) ?_; rintro q outs ⟨x, d, ⟨hx1, hx2, hx3⟩, rfl, rfl⟩)
          | (refine Met.by (g := 15) (soundex_ct _ (by first | omega | decide | (simp; done) | (simp; omega))) ?_; rintro q outs ⟨rfl, rfl⟩)
          | (refine Met.by (g := 17) (skeleton_ct _ (by first | omega | decide | (simp; done) | (simp; omega))) ?_; rintro q outs ⟨rfl, rfl⟩)
          | (refine Met.by (g := 21) (picks_ct _ [] (by first | omega | decide | (simp; done) | (simp; omega)) (by first | omega | decide | (simp; done) | (simp; omega))) ?_; rintro q outs ⟨x, d, hx, rfl, rfl⟩)
          | (refine Met.by (g := 22) (rletters_ct _ (by first | omega | decide | (simp; done) | (simp; omega))) ?_; rintro q outs ⟨rfl, rfl⟩)
          | (refine Vc.mk ?_ (Step.out ?_))
      · first | exact .inr rfl | simp
theorem toks_tok {a : Str} (h1 : 1 ≤ a.length) (h3 : ∀ x ∈ a, isLet x = true) (b : Str) : toks (a ++ 32 :: b) = a :: toks b ∧ toks a = [a] := by
  have hne : a ≠ [] := fun k => by rw [k] at h1; simp at h1
  have hno : ∀ x ∈ a, x ≠ 32 := fun x hx e => by have := h3 x hx; rw [e] at this; exact absurd this (by decide)
  constructor
  · unfold toks
    rw [toksF_skip a _ [] hno, List.nil_append, toksF_space, if_neg hne]; rfl
  · have := toksF_skip a [] [] hno
    rw [List.append_nil, List.nil_append] at this
    unfold toks
    rw [this, toksF, if_neg hne]
theorem toks_sp (s : Str) : toks (32 :: s) = toks s := by
  show toksF [] (32 :: s) = _
  rw [toksF_space, if_pos rfl]; rfl
theorem key_pair {a : Str} (h1 : 1 ≤ a.length) (h3 : ∀ x ∈ a, isLet x = true) (b : Str) : key (a ++ [32] ++ b) = sdx a := by
  rw [List.append_assoc]
  show key (a ++ 32 :: b) = _
  rw [key, (toks_tok h1 h3 b).1]; rfl
theorem key_tok {a : Str} (h1 : 1 ≤ a.length) (h3 : ∀ x ∈ a, isLet x = true) : key a = sdx a := by
  rw [key, (toks_tok h1 h3 []).2]; rfl
theorem key_two {a : Str} (h1 : 1 ≤ a.length) (h3 : ∀ x ∈ a, isLet x = true) : key ([32, 32] ++ a) = sdx a := by
  show key (32 :: 32 :: a) = _
  rw [key, toks_sp, toks_sp, (toks_tok h1 h3 []).2]; rfl
theorem sdx_ne {a : Str} (h1 : 1 ≤ a.length) (h2 : a.length ≤ 8) (h3 : ∀ x ∈ a, isLet x = true) : sdx a ≠ [] := by
  rw [sdx, if_pos (right_tok h1 (by omega) h3)]; exact pad_ne
theorem same_iff (a b : Str) : same a b = true ↔ key a ≠ [] ∧ key a = key b := by simp [same]
theorem same_comm (a b : Str) : same a b = same b a := by
  rw [Bool.eq_iff_iff, same_iff, same_iff]
  exact ⟨fun ⟨h1, h2⟩ => ⟨h2 ▸ h1, h2.symm⟩, fun ⟨h1, h2⟩ => ⟨h2 ▸ h1, h2.symm⟩⟩
theorem same_trans {a b c : Str} (h1 : same a b = true) (h2 : same b c = true) : same a c = true := by
  rw [same_iff] at *
  exact ⟨h1.1, h1.2.trans h2.2⟩
theorem same_pair {a : Str} (h1 : 1 ≤ a.length) (h2 : a.length ≤ 8) (h3 : ∀ x ∈ a, isLet x = true) (b : Str) : same a (a ++ [32] ++ b) = true := by
  rw [same_iff, key_pair h1 h3, key_tok h1 h3]
  exact ⟨sdx_ne h1 h2 h3, rfl⟩
theorem keys_ct (l : List Int) : Ct Try.prog 7 [ints l] fun q _ => Yes q := by
  refine .of_W (fn := Try.f7) hΓ hm (by rfl) [] [] (by kernel_rfl) (Step.out ?_)
  repeat' first
    | (refine Step.mk ?_; conv => whnf)
    | (refine Vc.om ?_ ?_; first | omega | with_reducible rfl | with_reducible exact ⟨rfl, fun _ _ => rfl⟩ | (simp only [bytes_2, bytes_3, bytes_4, bytes_5, bytes_9, bytes_12, bytes_21, bytes_22, bytes_26, bytes_29, bytes_35, bytes_36, bytes_37, bytes_40, bytes_46, bytes_50, bytes_51, bytes_52, bytes_59, bytes_63, bytes_66]; omega))
    | (refine NilB.mk fun b hb => Step.out ?_)
    | with_reducible trivial
    | exact noSh_bool _
    | exact noSh_lit _
    | exact noSh_int _ _
    | exact noSh_str _
    | with_reducible rfl
    | with_reducible exact ⟨rfl, fun _ _ => rfl⟩
    | (refine Wr.i64 ?_ ?_; omega)
    | (refine Wr.u8 ?_ ?_; omega)
    | (refine Wr.i32 ?_ ?_; omega)
    | (with_reducible refine Br.tt ?_)
    | (with_reducible refine Br.ff ?_)
    | (refine Br.dT ?_ ?_; omega)
    | (refine Br.dF ?_ ?_; omega)
    | (exact .inl rfl)
    | (exact .inr rfl)
    | (refine Vc.om ?_ ?_; focus (simp; omega; done))
    | (refine Wr.i64 ?_ ?_; focus (simp; omega; done))
    | (refine Wr.u8 ?_ ?_; focus (simp; omega; done))
    | (refine Br.dT ?_ ?_; focus (simp; omega; done))
    | (refine Br.dF ?_ ?_; focus (simp; omega; done))
    | (refine Br.d (fun h => ?_) (fun h => ?_))
    | (refine Br.swap ?_)
    | (refine Br.bnot ?_)
    | (refine Br.mk (fun h => Step.out ?_) (fun h => Step.out ?_))
    | (refine Two.mk (Step.out ?_) (Step.out ?_))
    | (refine CallOK.io1 (g := 12) (Step.out ?_))
    | (refine CallOK.of_ct (Step.out ?_))
    | (refine Met.by (g := 8) (awake_ct) ?_; rintro q outs ⟨rfl, rfl⟩)
    | (refine Met.by (g := 9) (few_ct _) ?_; rintro q outs ⟨rfl, rfl⟩)
    | (refine Met.by (g := 11) (new_ct _ (by assumption)) ?_; rintro q outs ⟨d, hd, rfl, rfl⟩)
    | (refine Met.by (g := 12) (token_ct _) ?_; rintro q outs ⟨x, d, ⟨hx1, hx2, hx3⟩, rfl, rfl⟩)
    | (refine Met.by (g := 13) (same_ct _ _ (by first | omega | decide | (simp; done) | (simp; omega)) (by first | omega | decide | (simp; done) | (simp; omega))) ?_; rintro q outs ⟨rfl, rfl⟩)
    | (refine Met.by (g := 15) (soundex_ct _ (by first | omega | decide | (simp; done) | (simp; omega))) ?_; rintro q outs ⟨rfl, rfl⟩)
    | (refine Met.by (g := 19) (key_ct _ (by first | omega | decide | (simp; done) | (simp; omega))) ?_; rintro q outs ⟨rfl, rfl⟩)
    | (refine Vc.mk ?_ (Step.out ?_))
  all_goals first
    | (refine absurd ?_ ‹¬key (_ ++ _ ++ _) = sdx _›; exact key_pair (by assumption) (by assumption) _)
    | (refine absurd ?_ ‹¬key (_ ++ _) = sdx _›; exact key_two (by assumption) (by assumption))
    | (refine absurd ?_ ‹¬key _ = _›; decide)
    | exact absurd ‹same { data := #[] }.data.toList _ = true› (by decide)
    | exact absurd (same_comm _ _) ‹¬same _ _ = same _ _›
    | (refine absurd ‹same _ (_ ++ _ ++ _) = false› ?_; rw [Bool.not_eq_false]; exact same_pair (by assumption) (by assumption) (by assumption) _)
    | exact .inl (congrArg D.bool (same_trans ‹same _ _ = true› ‹same _ _ = true›))
    | skip
end Kx
