/-
  recordlinkref39: Deliver.
  No condition beyond those written in each theorem.
-/
import Derived.Test.YtnjjjmknmoenmaaKEg
open Go Sx Go.Proofs
set_option linter.unusedSimpArgs false
set_option linter.unusedVariables false
namespace Kx
theorem tail_pk (l : List Pk) : (l.length : Int).toNat - Int.toNat 1 = l.tail.length ∧ ∀ i, i < l.tail.length → pkF (l.getD (Int.toNat 1 + i) (0, [])) = pkF (l.tail.getD i (0, [])) := by
  refine ⟨by simp, fun i _ => ?_⟩
  cases l with
  | nil => rfl
  | cons x l => rw [show Int.toNat 1 + i = i + 1 by rw [Nat.add_comm]; rfl, List.getD_cons_succ]; rfl
theorem ins_app (l : List Pk) (p : Pk) (k : Nat) (hk : k ≤ l.length) : (k : Int).toNat - Int.toNat 0 + 1 + ((l.length : Int).toNat - (k : Int).toNat) = (l.take k ++ p :: l.drop k).length ∧
    ∀ q, q < (l.take k ++ p :: l.drop k).length → iteL (q < (k : Int).toNat - Int.toNat 0 + 1) (iteL (q < (k : Int).toNat - Int.toNat 0) (pkF (l.getD (Int.toNat 0 + q) (0, []))) (selC [pkF p] (q - ((k : Int).toNat - Int.toNat 0)))) (pkF (l.getD ((k : Int).toNat + (q - ((k : Int).toNat - Int.toNat 0 + 1))) (0, []))) = pkF ((l.take k ++ p :: l.drop k).getD q (0, [])) := by
  have e0 : Int.toNat 0 = 0 := rfl
  have el : (l.take k ++ p :: l.drop k).length = l.length + 1 := by simp; omega
  refine ⟨by rw [el]; simp only [Int.toNat_natCast, e0]; omega, fun q hq => ?_⟩
  rw [el] at hq
  simp only [Int.toNat_natCast, e0, Nat.sub_zero, Nat.zero_add]
  rw [ins_get l p (0, []) k q hk]
  have hs : selC [pkF p] (q - k) = pkF p := rfl
  rw [hs, iteL_pk, iteL_pk]
  congr 1
  by_cases h1 : q < k
  · rw [if_pos (by omega), if_pos h1, if_pos h1]
  · by_cases h2 : q = k
    · rw [if_pos (by omega), if_neg h1, if_neg h1, if_pos h2]
    · rw [if_neg (by omega), if_neg h1, if_neg h2, show k + (q - (k + 1)) = q - 1 by omega]
theorem found_T {l : List Pk} {n : Int} (h : pos l n < l.length) (h1 : (l.getD ((pos l n : Nat) : Int).toNat (0, [])).1 = n) : found l n = true := by
  rw [Int.toNat_natCast] at h1
  rw [found, decide_eq_true h, decide_eq_true h1]; rfl
theorem found_F {l : List Pk} {n : Int} (h : l.length ≤ pos l n ∨ ¬(l.getD ((pos l n : Nat) : Int).toNat (0, [])).1 = n) : ¬found l n = true := by
  rw [Int.toNat_natCast] at h
  rw [found]
  rcases h with h | h
  · rw [decide_eq_false (by omega)]; simp
  · rw [decide_eq_false h]; simp
set_option maxHeartbeats 2000000 in
theorem rdeliver_ct (c : Ch) (hc : c.ok) (i : Int) : Ct Try.prog 36 [c.d, i64 i] fun r outs => r = .tup [(c.deliver i).1.d, strs (c.deliver i).2.1, i64 (c.deliver i).2.2] ∧ outs = [] := by
  have hc' := hc
  obtain ⟨h1, h2, h3, h4, h5, h6⟩ := hc
  unfold Ch.deliver
  have hl := rlose_ct c hc' i
  split
  · rename_i he
    refine .det (.of_W (fn := Try.f36) hΓ hm Try.func36 ord36 [] (by kernel_rfl) (Step.out ?_))
    repeat' first
      | (refine Step.mk ?_; conv => whnf)
      | with_reducible trivial
      | (refine Br.dF ?_ ?_; omega)
      | (refine Br.bnot ?_)
      | (refine Two.mk (Step.out ?_) (Step.out ?_))
      | (refine CallOK.of_ct (Step.out ?_))
      | (refine Met.by (g := 54) (rat_ct _ (by assumption) _) ?_; rintro q outs ⟨rfl, rfl⟩)
    all_goals rfl
  · rename_i he
    rw [Ch.lose, if_neg he] at hl
    dsimp only [Ch.o, Ch.lo] at hl
    have he := Classical.not_not.1 he
    obtain ⟨e0, e1, e2⟩ := Ch.err0 he
    obtain ⟨k, rfl⟩ := Int.eq_ofNat_of_zero_le e1
    have g := Ch.good_of e0
    have gt := g.t; have gh := g.h; have gk := g.k; have gw := g.w; have g1 := g.b1; have g2 := g.b2; have g3 := g.e1; have g4 := g.e2
    have hr : c.reach = c.base + min (c.wait.length : Int) 4 := rfl
    have hasc := (heldB_asc g.hr).1
    have gT := del_len c.there (i := k) (j := k + 1) (by omega) (by omega)
    rw [Ch.arrive]
    split
    · rename_i hp
      have hp : (c.there.getD (k : Int).toNat (0, [])).1 = c.exp := hp
      dsimp only
      rw [Ch.note]
      dsimp only
      generalize hE : (drain (c.exp + 1) c.held).1 = E
      generalize hH : (drain (c.exp + 1) c.held).2.2 = H
      generalize hO : (c.there.getD (k : Int).toNat (0, [])).2 :: (drain (c.exp + 1) c.held).2.1 = O
      by_cases hk : c.back.length < 16
      · rw [if_pos hk]
        refine .det (.of_W (fn := Try.f36) hΓ hm Try.func36 ord36 [] (by kernel_rfl) (Step.out ?_))
        repeat' first
          | (refine Step.mk ?_; conv => whnf)
          | (refine Vc.om ?_ ?_; first | omega | with_reducible rfl | with_reducible exact same_rfl)
          | (refine Vc.om ?_ ?_; (simp only [bytes_2, bytes_3, bytes_4, bytes_5, bytes_9, bytes_12, bytes_21, bytes_22, bytes_25, bytes_27, bytes_28, bytes_29, bytes_30, bytes_33, bytes_42, bytes_43, bytes_47, bytes_51, bytes_52, bytes_53, bytes_57, bytes_58, bytes_59, bytes_73, bytes_91, bytes_104, bytes_108, true_and, and_true] <;> omega))
          | (refine Wr.i64 ?_ ?_; omega)
          | (refine Br.dT ?_ ?_; omega)
          | (refine Met.by hl ?_; rintro q outs ⟨rfl, rfl⟩)
          | (refine Br.bnot ?_)
          | (refine CallOK.ctF (g := 30) (Step.out ?_))
          | (refine CallOK.of_ct (Step.out ?_))
          | (refine Met.by (g := 54) (rat_ct _ (by assumption) _) ?_; rintro q outs ⟨rfl, rfl⟩)
        refine CodeOK.loopW hΓ hm ord36 [] (by kernel_rfl) (α := Int × List Str × List Pk) (fun y => [(4, .loc 3 0), (9, .loc 0 0), (11, .own 2)]) (fun y => [(0, .var [i64 c.base, i64 y.1, strs c.wait, pks (c.there.take (k : Int).toNat ++ c.there.drop ((k : Int).toNat + 1)), pks y.2.2, .own 1]), (1, .arr 3 1 c.back.length fun j => [i64 (c.back.getD j 0)]), (2, .arr 9 1 y.2.1.length fun j => [.str (y.2.1.getD j [])]), (3, .var [i64 0, i64 0, .nil, .nil, .nil, .nil])]) 4 (fun y => DrI c (c.there.getD (k : Int).toNat (0, [])) y) (fun y => y.2.2.length) ?_ ?_
        · refine Again.by (c.exp + 1, [(c.there.getD (k : Int).toNat (0, [])).2], c.held) (DrI.init g _) ?_
          repeat' first
            | (refine Step.mk ?_; conv => whnf)
            | (refine Vc.om ?_ ?_; first | omega | with_reducible rfl | with_reducible exact same_rfl)
            | with_reducible trivial
            | (refine Vc.mk ?_ (Step.out ?_))
          all_goals first
            | exact ⟨rfl, fun _ _ => rfl⟩
            | exact ⟨rfl, fun q hq => by obtain rfl : q = 0 := by (have : q < 1 := hq); omega
                                         rfl⟩
        · intro y hI
          have i1 := hI.l; have i2 := hI.b; have i3 := hI.ol; have i4 := hI.b0
          repeat' first
            | (refine Step.mk ?_; conv => whnf)
            | (refine Vc.om ?_ ?_; first | omega | with_reducible rfl | with_reducible exact same_rfl)
            | (refine Vc.om ?_ ?_; (simp only [bytes_2, bytes_3, bytes_4, bytes_5, bytes_9, bytes_12, bytes_21, bytes_22, bytes_25, bytes_27, bytes_28, bytes_29, bytes_30, bytes_33, bytes_42, bytes_43, bytes_47, bytes_51, bytes_52, bytes_53, bytes_57, bytes_58, bytes_59, bytes_73, bytes_91, bytes_104, bytes_108, true_and, and_true] <;> omega))
            | with_reducible trivial
            | with_reducible exact same_rfl
            | (refine Wr.i64 ?_ ?_; omega)
            | (refine Br.dT ?_ ?_; omega)
            | (refine Br.d (fun h => ?_) (fun h => ?_))
            | (refine Two.mk (Step.out ?_) (Step.out ?_))
          · refine Again.by (y.1 + 1, y.2.1 ++ [(y.2.2.getD 0 (0, [])).2], y.2.2.tail) ⟨DrI.stepy hI (by omega) ‹_›, by simp only [List.length_tail]; omega⟩ ?_
            repeat' first
              | (refine Step.mk ?_; conv => whnf)
              | (refine Vc.om ?_ ?_; first | omega | with_reducible rfl | with_reducible exact same_rfl)
              | with_reducible trivial
              | (refine Vc.mk ?_ (Step.out ?_))
            all_goals first
              | exact ⟨rfl, fun _ _ => rfl⟩
              | exact app1 stF [] stF_same _ _
              | exact tail_pk _
          all_goals
            obtain ⟨s1, s2, s3⟩ := DrI.stopy hI (by first | (left; omega) | (right; assumption))
            obtain rfl : E = y.1 := hE.symm.trans s1
            obtain rfl : H = y.2.2 := hH.symm.trans s2
            obtain rfl : O = y.2.1 := hO.symm.trans s3
            first
              | exact ⟨rfl, fun _ _ => rfl⟩
              | exact app1 inF 0 inF_same _ _
              | rfl
      · rw [if_neg hk]
        refine .det (.of_W (fn := Try.f36) hΓ hm Try.func36 ord36 [] (by kernel_rfl) (Step.out ?_))
        repeat' first
          | (refine Step.mk ?_; conv => whnf)
          | (refine Vc.om ?_ ?_; first | omega | with_reducible rfl | with_reducible exact same_rfl)
          | (refine Vc.om ?_ ?_; (simp only [bytes_2, bytes_3, bytes_4, bytes_5, bytes_9, bytes_12, bytes_21, bytes_22, bytes_25, bytes_27, bytes_28, bytes_29, bytes_30, bytes_33, bytes_42, bytes_43, bytes_47, bytes_51, bytes_52, bytes_53, bytes_57, bytes_58, bytes_59, bytes_73, bytes_91, bytes_104, bytes_108, true_and, and_true] <;> omega))
          | (refine Wr.i64 ?_ ?_; omega)
          | (refine Br.dT ?_ ?_; omega)
          | (refine Met.by hl ?_; rintro q outs ⟨rfl, rfl⟩)
          | (refine Br.bnot ?_)
          | (refine CallOK.ctF (g := 30) (Step.out ?_))
          | (refine CallOK.of_ct (Step.out ?_))
          | (refine Met.by (g := 54) (rat_ct _ (by assumption) _) ?_; rintro q outs ⟨rfl, rfl⟩)
        refine CodeOK.loopW hΓ hm ord36 [] (by kernel_rfl) (α := Int × List Str × List Pk) (fun y => [(4, .loc 3 0), (9, .loc 0 0), (11, .own 2)]) (fun y => [(0, .var [i64 c.base, i64 y.1, strs c.wait, pks (c.there.take (k : Int).toNat ++ c.there.drop ((k : Int).toNat + 1)), pks y.2.2, .own 1]), (1, .arr 3 1 c.back.length fun j => [i64 (c.back.getD j 0)]), (2, .arr 9 1 y.2.1.length fun j => [.str (y.2.1.getD j [])]), (3, .var [i64 0, i64 0, .nil, .nil, .nil, .nil])]) 4 (fun y => DrI c (c.there.getD (k : Int).toNat (0, [])) y) (fun y => y.2.2.length) ?_ ?_
        · refine Again.by (c.exp + 1, [(c.there.getD (k : Int).toNat (0, [])).2], c.held) (DrI.init g _) ?_
          repeat' first
            | (refine Step.mk ?_; conv => whnf)
            | (refine Vc.om ?_ ?_; first | omega | with_reducible rfl | with_reducible exact same_rfl)
            | with_reducible trivial
            | (refine Vc.mk ?_ (Step.out ?_))
          all_goals first
            | exact ⟨rfl, fun _ _ => rfl⟩
            | exact ⟨rfl, fun q hq => by obtain rfl : q = 0 := by (have : q < 1 := hq); omega
                                         rfl⟩
        · intro y hI
          have i1 := hI.l; have i2 := hI.b; have i3 := hI.ol; have i4 := hI.b0
          repeat' first
            | (refine Step.mk ?_; conv => whnf)
            | (refine Vc.om ?_ ?_; first | omega | with_reducible rfl | with_reducible exact same_rfl)
            | (refine Vc.om ?_ ?_; (simp only [bytes_2, bytes_3, bytes_4, bytes_5, bytes_9, bytes_12, bytes_21, bytes_22, bytes_25, bytes_27, bytes_28, bytes_29, bytes_30, bytes_33, bytes_42, bytes_43, bytes_47, bytes_51, bytes_52, bytes_53, bytes_57, bytes_58, bytes_59, bytes_73, bytes_91, bytes_104, bytes_108, true_and, and_true] <;> omega))
            | with_reducible trivial
            | with_reducible exact same_rfl
            | (refine Wr.i64 ?_ ?_; omega)
            | (refine Br.dF ?_ ?_; omega)
            | (refine Br.d (fun h => ?_) (fun h => ?_))
            | (refine Two.mk (Step.out ?_) (Step.out ?_))
          · refine Again.by (y.1 + 1, y.2.1 ++ [(y.2.2.getD 0 (0, [])).2], y.2.2.tail) ⟨DrI.stepy hI (by omega) ‹_›, by simp only [List.length_tail]; omega⟩ ?_
            repeat' first
              | (refine Step.mk ?_; conv => whnf)
              | (refine Vc.om ?_ ?_; first | omega | with_reducible rfl | with_reducible exact same_rfl)
              | with_reducible trivial
              | (refine Vc.mk ?_ (Step.out ?_))
            all_goals first
              | exact ⟨rfl, fun _ _ => rfl⟩
              | exact app1 stF [] stF_same _ _
              | exact tail_pk _
          all_goals
            obtain ⟨s1, s2, s3⟩ := DrI.stopy hI (by first | (left; omega) | (right; assumption))
            obtain rfl : E = y.1 := hE.symm.trans s1
            obtain rfl : H = y.2.2 := hH.symm.trans s2
            obtain rfl : O = y.2.1 := hO.symm.trans s3
            first
              | exact ⟨rfl, fun _ _ => rfl⟩
              | exact app1 inF 0 inF_same _ _
              | rfl
    · rename_i hp
      have hp : ¬(c.there.getD (k : Int).toNat (0, [])).1 = c.exp := hp
      dsimp only
      split
      · rename_i hq
        have hq : c.exp < (c.there.getD (k : Int).toNat (0, [])).1 := hq
        have hpl := pos_le c.held (c.there.getD (k : Int).toNat (0, [])).1
        dsimp only
        rw [Ch.note, ins]
        dsimp only
        generalize hG : (if found c.held (c.there.getD (k : Int).toNat (0, [])).1 = true then c.held else c.held.take (pos c.held (c.there.getD (k : Int).toNat (0, [])).1) ++ (c.there.getD (k : Int).toNat (0, [])) :: c.held.drop (pos c.held (c.there.getD (k : Int).toNat (0, [])).1)) = G
        by_cases hk : c.back.length < 16
        · rw [if_pos hk]
          refine .det (.of_W (fn := Try.f36) hΓ hm Try.func36 ord36 [] (by kernel_rfl) (Step.out ?_))
          repeat' first
            | (refine Step.mk ?_; conv => whnf)
            | (refine Vc.om ?_ ?_; first | omega | with_reducible rfl | with_reducible exact same_rfl)
            | (refine Br.dT ?_ ?_; omega)
            | (refine Br.dF ?_ ?_; omega)
            | (refine Met.by hl ?_; rintro q outs ⟨rfl, rfl⟩)
            | (refine Br.bnot ?_)
            | (refine CallOK.ctF (g := 30) (Step.out ?_))
            | (refine CallOK.of_ct (Step.out ?_))
            | (refine Met.by (g := 54) (rat_ct _ (by assumption) _) ?_; rintro q outs ⟨rfl, rfl⟩)
          refine CodeOK.loopW hΓ hm ord36 [] (by kernel_rfl) (α := Nat) (fun j => [(4, .loc 3 0), (8, .loc 4 0), (9, .loc 0 0), (11, .nil), (12, i64 j)]) (fun j => [(0, .var [i64 c.base, i64 c.exp, strs c.wait, pks (c.there.take (k : Int).toNat ++ c.there.drop ((k : Int).toNat + 1)), pks c.held, .own 1]), (1, .arr 3 1 c.back.length fun j => [i64 (c.back.getD j 0)]), (3, .var [i64 0, i64 0, .nil, .nil, .nil, .nil]), (4, .var (pkF (c.there.getD (k : Int).toNat (0, []))))]) 5 (fun j => j ≤ pos c.held (c.there.getD (k : Int).toNat (0, [])).1) (fun j => c.held.length - j) ?_ ?_
          · refine Again.by 0 (Nat.zero_le _) ?_
            repeat' first
              | (refine Step.mk ?_; conv => whnf)
              | (refine Vc.om ?_ ?_; first | omega | with_reducible rfl | with_reducible exact same_rfl)
              | with_reducible trivial
            all_goals exact ⟨rfl, fun _ _ => rfl⟩
          · intro j hj
            repeat' first
              | (refine Step.mk ?_; conv => whnf)
              | (refine Vc.om ?_ ?_; first | omega | with_reducible rfl | with_reducible exact same_rfl)
              | (refine Vc.om ?_ ?_; (simp only [bytes_2, bytes_3, bytes_4, bytes_5, bytes_9, bytes_12, bytes_21, bytes_22, bytes_25, bytes_27, bytes_28, bytes_29, bytes_30, bytes_33, bytes_42, bytes_43, bytes_47, bytes_51, bytes_52, bytes_53, bytes_57, bytes_58, bytes_59, bytes_73, bytes_91, bytes_104, bytes_108, true_and, and_true] <;> omega))
              | with_reducible trivial
              | with_reducible exact same_rfl
              | (refine Wr.i64 ?_ ?_; omega)
              | (refine Br.dT ?_ ?_; omega)
              | (refine Br.dF ?_ ?_; omega)
              | (refine Br.d (fun h => ?_) (fun h => ?_))
              | (refine Br.swap ?_)
              | (refine Br.bnot ?_)
              | (refine Two.mk (Step.out ?_) (Step.out ?_))
            · have := (pos_lt hasc (show j < c.held.length by omega)).1 ‹_›
              refine Again.by (j + 1) ⟨this, by omega⟩ ?_
              repeat' first
                | (refine Step.mk ?_; conv => whnf)
                | (refine Vc.om ?_ ?_; first | omega | with_reducible rfl | with_reducible exact same_rfl)
                | with_reducible trivial
              all_goals exact ⟨rfl, fun _ _ => rfl⟩
            all_goals
              obtain rfl : j = pos c.held (c.there.getD (k : Int).toNat (0, [])).1 := by
                rcases Nat.lt_or_ge j c.held.length with h | h
                · have := (pos_lt (n := (c.there.getD (k : Int).toNat (0, [])).1) hasc h).2
                  rcases Nat.lt_or_ge j (pos c.held (c.there.getD (k : Int).toNat (0, [])).1) with h' | h'
                  · first | omega | exact absurd (this h') ‹_›
                  · omega
                · omega
            all_goals
              by_cases hf : found c.held (c.there.getD (k : Int).toNat (0, [])).1 = true
              · obtain rfl : G = c.held := by rw [← hG, if_pos hf]
                first
                  | exact ⟨rfl, fun _ _ => rfl⟩
                  | exact app1 inF 0 inF_same _ _
                  | rfl
                  | omega
                  | (refine absurd hf (found_F ?_); first | (left; omega) | (right; assumption))
              · obtain rfl := hG.symm.trans (if_neg hf)
                first
                  | exact ⟨rfl, fun _ _ => rfl⟩
                  | exact app1 inF 0 inF_same _ _
                  | rfl
                  | omega
                  | exact ins_app _ _ _ hpl
                  | (refine absurd (found_T ?_ ?_) hf <;> first | omega | assumption)
        · rw [if_neg hk]
          refine .det (.of_W (fn := Try.f36) hΓ hm Try.func36 ord36 [] (by kernel_rfl) (Step.out ?_))
          repeat' first
            | (refine Step.mk ?_; conv => whnf)
            | (refine Vc.om ?_ ?_; first | omega | with_reducible rfl | with_reducible exact same_rfl)
            | (refine Br.dT ?_ ?_; omega)
            | (refine Br.dF ?_ ?_; omega)
            | (refine Met.by hl ?_; rintro q outs ⟨rfl, rfl⟩)
            | (refine Br.bnot ?_)
            | (refine CallOK.ctF (g := 30) (Step.out ?_))
            | (refine CallOK.of_ct (Step.out ?_))
            | (refine Met.by (g := 54) (rat_ct _ (by assumption) _) ?_; rintro q outs ⟨rfl, rfl⟩)
          refine CodeOK.loopW hΓ hm ord36 [] (by kernel_rfl) (α := Nat) (fun j => [(4, .loc 3 0), (8, .loc 4 0), (9, .loc 0 0), (11, .nil), (12, i64 j)]) (fun j => [(0, .var [i64 c.base, i64 c.exp, strs c.wait, pks (c.there.take (k : Int).toNat ++ c.there.drop ((k : Int).toNat + 1)), pks c.held, .own 1]), (1, .arr 3 1 c.back.length fun j => [i64 (c.back.getD j 0)]), (3, .var [i64 0, i64 0, .nil, .nil, .nil, .nil]), (4, .var (pkF (c.there.getD (k : Int).toNat (0, []))))]) 5 (fun j => j ≤ pos c.held (c.there.getD (k : Int).toNat (0, [])).1) (fun j => c.held.length - j) ?_ ?_
          · refine Again.by 0 (Nat.zero_le _) ?_
            repeat' first
              | (refine Step.mk ?_; conv => whnf)
              | (refine Vc.om ?_ ?_; first | omega | with_reducible rfl | with_reducible exact same_rfl)
              | with_reducible trivial
            all_goals exact ⟨rfl, fun _ _ => rfl⟩
          · intro j hj
            repeat' first
              | (refine Step.mk ?_; conv => whnf)
              | (refine Vc.om ?_ ?_; first | omega | with_reducible rfl | with_reducible exact same_rfl)
              | (refine Vc.om ?_ ?_; (simp only [bytes_2, bytes_3, bytes_4, bytes_5, bytes_9, bytes_12, bytes_21, bytes_22, bytes_25, bytes_27, bytes_28, bytes_29, bytes_30, bytes_33, bytes_42, bytes_43, bytes_47, bytes_51, bytes_52, bytes_53, bytes_57, bytes_58, bytes_59, bytes_73, bytes_91, bytes_104, bytes_108, true_and, and_true] <;> omega))
              | with_reducible trivial
              | with_reducible exact same_rfl
              | (refine Wr.i64 ?_ ?_; omega)
              | (refine Br.dT ?_ ?_; omega)
              | (refine Br.dF ?_ ?_; omega)
              | (refine Br.d (fun h => ?_) (fun h => ?_))
              | (refine Br.swap ?_)
              | (refine Br.bnot ?_)
              | (refine Two.mk (Step.out ?_) (Step.out ?_))
            · have := (pos_lt hasc (show j < c.held.length by omega)).1 ‹_›
              refine Again.by (j + 1) ⟨this, by omega⟩ ?_
              repeat' first
                | (refine Step.mk ?_; conv => whnf)
                | (refine Vc.om ?_ ?_; first | omega | with_reducible rfl | with_reducible exact same_rfl)
                | with_reducible trivial
              all_goals exact ⟨rfl, fun _ _ => rfl⟩
            all_goals
              obtain rfl : j = pos c.held (c.there.getD (k : Int).toNat (0, [])).1 := by
                rcases Nat.lt_or_ge j c.held.length with h | h
                · have := (pos_lt (n := (c.there.getD (k : Int).toNat (0, [])).1) hasc h).2
                  rcases Nat.lt_or_ge j (pos c.held (c.there.getD (k : Int).toNat (0, [])).1) with h' | h'
                  · first | omega | exact absurd (this h') ‹_›
                  · omega
                · omega
            all_goals
              by_cases hf : found c.held (c.there.getD (k : Int).toNat (0, [])).1 = true
              · obtain rfl : G = c.held := by rw [← hG, if_pos hf]
                first
                  | exact ⟨rfl, fun _ _ => rfl⟩
                  | exact app1 inF 0 inF_same _ _
                  | rfl
                  | omega
                  | (refine absurd hf (found_F ?_); first | (left; omega) | (right; assumption))
              · obtain rfl := hG.symm.trans (if_neg hf)
                first
                  | exact ⟨rfl, fun _ _ => rfl⟩
                  | exact app1 inF 0 inF_same _ _
                  | rfl
                  | omega
                  | exact ins_app _ _ _ hpl
                  | (refine absurd (found_T ?_ ?_) hf <;> first | omega | assumption)
      · rename_i hq
        have hq : ¬c.exp < (c.there.getD (k : Int).toNat (0, [])).1 := hq
        rw [Ch.note]
        split
        · rename_i hk
          have hk : c.back.length < 16 := hk
          refine .det (.of_W (fn := Try.f36) hΓ hm Try.func36 ord36 [] (by kernel_rfl) (Step.out ?_))
          repeat' first
            | (refine Step.mk ?_; conv => whnf)
            | (refine Vc.om ?_ ?_; first | omega | with_reducible rfl | with_reducible exact same_rfl)
            | (refine Vc.om ?_ ?_; (simp only [bytes_2, bytes_3, bytes_4, bytes_5, bytes_9, bytes_12, bytes_21, bytes_22, bytes_25, bytes_27, bytes_28, bytes_29, bytes_30, bytes_33, bytes_42, bytes_43, bytes_47, bytes_51, bytes_52, bytes_53, bytes_57, bytes_58, bytes_59, bytes_73, bytes_91, bytes_104, bytes_108, true_and, and_true] <;> omega))
            | with_reducible trivial
            | with_reducible exact same_rfl
            | (refine Br.dT ?_ ?_; omega)
            | (refine Br.dF ?_ ?_; omega)
            | (refine Met.by hl ?_; rintro q outs ⟨rfl, rfl⟩)
            | (refine Br.bnot ?_)
            | (refine Two.mk (Step.out ?_) (Step.out ?_))
            | (refine CallOK.ctF (g := 30) (Step.out ?_))
            | (refine CallOK.of_ct (Step.out ?_))
            | (refine Met.by (g := 54) (rat_ct _ (by assumption) _) ?_; rintro q outs ⟨rfl, rfl⟩)
          all_goals first
            | exact ⟨rfl, fun _ _ => rfl⟩
            | exact app1 inF 0 inF_same _ _
            | exact ⟨trivial, trivial, trivial⟩
            | omega
            | rfl
        · rename_i hk
          have hk : ¬c.back.length < 16 := hk
          refine .det (.of_W (fn := Try.f36) hΓ hm Try.func36 ord36 [] (by kernel_rfl) (Step.out ?_))
          repeat' first
            | (refine Step.mk ?_; conv => whnf)
            | (refine Vc.om ?_ ?_; first | omega | with_reducible rfl | with_reducible exact same_rfl)
            | with_reducible trivial
            | with_reducible exact same_rfl
            | (refine Br.dT ?_ ?_; omega)
            | (refine Br.dF ?_ ?_; omega)
            | (refine Met.by hl ?_; rintro q outs ⟨rfl, rfl⟩)
            | (refine Br.bnot ?_)
            | (refine Two.mk (Step.out ?_) (Step.out ?_))
            | (refine CallOK.ctF (g := 30) (Step.out ?_))
            | (refine CallOK.of_ct (Step.out ?_))
            | (refine Met.by (g := 54) (rat_ct _ (by assumption) _) ?_; rintro q outs ⟨rfl, rfl⟩)
          all_goals first
            | exact ⟨rfl, fun _ _ => rfl⟩
            | exact app1 inF 0 inF_same _ _
            | exact ⟨trivial, trivial, trivial⟩
            | omega
            | rfl
end Kx
