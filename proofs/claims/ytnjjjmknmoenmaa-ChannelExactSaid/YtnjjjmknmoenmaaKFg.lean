/-
  The law Exact.
  No condition beyond those written in each theorem.
-/
import Derived.Test.YtnjjjmknmoenmaaKFx
open Go Sx Go.Proofs
set_option linter.unusedSimpArgs false
set_option linter.unusedVariables false
namespace Kx
/-- The four channels. -/
def CL (a b c d : Ch) : List Ch := [a, b, c, d]
theorem z_any : Ch.z.any := ⟨.inl ⟨by decide, by decide, by decide, by decide, by decide, by decide⟩, by decide, by decide, by decide, by decide⟩
theorem CL_any {a b c d : Ch} (ha : a.any) (hb : b.any) (hc : c.any) (hd : d.any) (j : Nat) : ((CL a b c d).getD j Ch.z).any := by
  match j with
  | 0 => exact ha
  | 1 => exact hb
  | 2 => exact hc
  | 3 => exact hd
  | n + 4 => exact z_any
/-- The seven places. -/
def KL (a b c d : Int) : List Int := [a, 0, 1, b, -1, c, d]
theorem KL_sel (a b c d : Int) (q : Nat) (hq : q < 7) : selC [[i64 a], [i64 0], [i64 1], [i64 b], [i64 (-1)], [i64 c], [i64 d]] q = [i64 ((KL a b c d).getD q 0)] := by
  match q with
  | 0 => rfl
  | 1 => rfl
  | 2 => rfl
  | 3 => rfl
  | 4 => rfl
  | 5 => rfl
  | 6 => rfl
  | n + 7 => exact absurd hq (by omega)
theorem chB (c : Ch) (h : c.wait.length + c.there.length + c.held.length + c.back.length ≤ 80) : c.any := by
  refine ⟨?_, by omega, by omega, by omega, by omega⟩
  by_cases hb : c.base < 1 ∨ 1048576 < c.base
  · exact .inr hb
  · exact .inl ⟨by omega, by omega, by omega, by omega, by omega, by omega⟩
set_option maxHeartbeats 8000000 in
theorem exact_ct (y0 : List Int) (raw : Ch) (p : Str) (i : Int) (hw : raw.wait.length ≤ 140737488351232 ∧ raw.there.length ≤ 140737488351232 ∧ raw.held.length ≤ 140737488351232 ∧ raw.back.length ≤ 140737488351232) : Ct Try.prog 6 [ints y0, raw.d, .str p, i64 i] fun q _ => q = .bool true ∨ q = .lit true := by
  have hnl : Ch.new.ln := ⟨by simp, by simp, by simp, by simp⟩
  refine .of_W (fn := Try.f6) hΓ hm Try.func6 ord6 [7] (by kernel_rfl) (Step.out ?_)
  repeat' first
    | (refine Step.mk ?_; conv => whnf)
    | (refine Wr.i64 ?_ ?_; omega)
    | (with_reducible refine Br.tt ?_)
    | (exact .inl rfl)
    | (refine Br.d (fun h => ?_) (fun h => ?_))
    | (refine Br.swap ?_)
    | (refine Br.bnot ?_)
    | (refine CallOK.io1 (g := 12) (Step.out ?_))
    | (refine CallOK.ctF (g := 21) (Step.out ?_))
    | (refine CallOK.of_ct (Step.out ?_))
    | (refine Met.by (g := 9) (awake_ct) ?_; rintro q outs ⟨rfl, rfl⟩)
    | (refine Met.by (g := 10) (few_ct _) ?_; rintro q outs ⟨rfl, rfl⟩)
    | (refine Met.by (g := 11) (new_ct _ (by assumption)) ?_; rintro q outs ⟨d, hd, rfl, rfl⟩)
    | (refine Met.by (g := 12) (channelL_ct _) ?_; rintro q outs ⟨c, d, ⟨hg, hlb, hle, hlw, hlt, hlh, hlk⟩, rfl, rfl⟩)
    | (refine Met.by (g := 17) (cnew_ct) ?_; rintro q outs ⟨rfl, rfl⟩)
    | (refine Met.by (g := 21) (same_ct _ (by with_reducible assumption)) ?_; rintro q outs ⟨rfl, rfl⟩)
    | (refine Met.by (g := 22) (rnew_ct) ?_; rintro q outs ⟨rfl, rfl⟩)
  refine CodeOK.cutW hΓ hm ord6 [9] (by kernel_rfl) (α := List Pk) (fun z => [(2, .str p), (3, i64 i), (5, .loc 0 0), (9, .loc 1 0), (10, .loc 2 0)]) (fun z => [(0, .var raw.l), (1, .var d.ls), (2, .var [i64 c.base, i64 c.exp, .own 3, .own 4, .own 5, .own 6]), (3, .oar 9 1 c.wait.length fun j => [.str (c.wait.getD j [])]), (4, .arr 43 2 z.length fun j => pkF (z.getD j (0, []))), (5, .oar 43 2 c.held.length fun j => pkF (c.held.getD j (0, []))), (6, .arr 3 1 c.back.length fun j => [i64 (c.back.getD j 0)])]) 7 (fun z => z.length ≤ 16) ?_ ?_
  · repeat' first
      | (refine Step.mk ?_; conv => whnf)
    refine CodeOK.loopW hΓ hm ord6 [] (by kernel_rfl) (α := List Pk) (fun z => [(2, .str p), (3, i64 i), (5, .loc 0 0), (9, .loc 1 0), (10, .loc 2 0)]) (fun z => [(0, .var raw.l), (1, .var d.ls), (2, .var [i64 c.base, i64 c.exp, .own 3, .own 4, .own 5, .own 6]), (3, .oar 9 1 c.wait.length fun j => [.str (c.wait.getD j [])]), (4, .arr 43 2 z.length fun j => pkF (z.getD j (0, []))), (5, .oar 43 2 c.held.length fun j => pkF (c.held.getD j (0, []))), (6, .arr 3 1 c.back.length fun j => [i64 (c.back.getD j 0)])]) 7 (fun z => z.length ≤ 16) (fun z => 16 - z.length) ?_ ?_
    · refine Again.by c.there (by omega) ?_
      repeat' first
        | (refine Step.mk ?_; conv => whnf)
        | (refine Vc.om ?_ ?_; first | omega | with_reducible rfl | with_reducible exact same_rfl)
        | with_reducible trivial
    · intro T hT
      repeat' first
        | (refine Step.mk ?_; conv => whnf)
        | (refine Vc.om ?_ ?_; first | omega | with_reducible rfl | with_reducible exact same_rfl)
        | (refine Vc.om ?_ ?_; (simp only [bytes_2, bytes_3, bytes_4, bytes_5, bytes_9, bytes_12, bytes_21, bytes_22, bytes_25, bytes_27, bytes_28, bytes_29, bytes_30, bytes_33, bytes_42, bytes_43, bytes_47, bytes_51, bytes_52, bytes_53, bytes_57, bytes_58, bytes_59, bytes_73, bytes_91, bytes_104, bytes_108, true_and, and_true] <;> omega))
        | (refine Br.d (fun h => ?_) (fun h => ?_))
        | (refine Two.mk (Step.out ?_) (Step.out ?_))
      all_goals first
        | (refine Again.by (T ++ [T.getD (Int.toNat 0) (0, [])]) ⟨by simp; omega, by simp; omega⟩ ?_)
        | (refine Again.by T hT ?_)
      all_goals
        repeat' first
          | (refine Step.mk ?_; conv => whnf)
          | (refine Vc.om ?_ ?_; first | omega | with_reducible rfl | with_reducible exact same_rfl)
          | with_reducible trivial
          | (refine Vc.mk ?_ (Step.out ?_))
      all_goals exact app2 _ _
  · intro T hT
    repeat' first
      | (refine Step.mk ?_; conv => whnf)
    refine CodeOK.cutW hΓ hm ord6 [11] (by kernel_rfl) (α := List Int) (fun z => [(2, .str p), (3, i64 i), (5, .loc 0 0), (9, .loc 1 0), (10, .loc 2 0)]) (fun z => [(0, .var raw.l), (1, .var d.ls), (2, .var [i64 c.base, i64 c.exp, strs c.wait, pks T, pks c.held, ints z])]) 3 (fun z => z.length ≤ 16) ?_ ?_
    · repeat' first
        | (refine Step.mk ?_; conv => whnf)
      refine CodeOK.loopW hΓ hm ord6 [] (by kernel_rfl) (α := List Int) (fun z => [(2, .str p), (3, i64 i), (5, .loc 0 0), (9, .loc 1 0), (10, .loc 2 0)]) (fun z => [(0, .var raw.l), (1, .var d.ls), (2, .var [i64 c.base, i64 c.exp, .own 3, .own 4, .own 5, .own 6]), (3, .oar 9 1 c.wait.length fun j => [.str (c.wait.getD j [])]), (4, .arr 43 2 T.length fun j => pkF (T.getD j (0, []))), (5, .oar 43 2 c.held.length fun j => pkF (c.held.getD j (0, []))), (6, .arr 3 1 z.length fun j => [i64 (z.getD j 0)])]) 7 (fun z => z.length ≤ 16) (fun z => 16 - z.length) ?_ ?_
      · refine Again.by c.back (by omega) ?_
        repeat' first
          | (refine Step.mk ?_; conv => whnf)
          | (refine Vc.om ?_ ?_; first | omega | with_reducible rfl | with_reducible exact same_rfl)
          | with_reducible trivial
      · intro K hK
        repeat' first
          | (refine Step.mk ?_; conv => whnf)
          | (refine Vc.om ?_ ?_; (simp only [bytes_2, bytes_3, bytes_4, bytes_5, bytes_9, bytes_12, bytes_21, bytes_22, bytes_25, bytes_27, bytes_28, bytes_29, bytes_30, bytes_33, bytes_42, bytes_43, bytes_47, bytes_51, bytes_52, bytes_53, bytes_57, bytes_58, bytes_59, bytes_73, bytes_91, bytes_104, bytes_108, true_and, and_true] <;> omega))
          | (refine Br.d (fun h => ?_) (fun h => ?_))
        all_goals first
          | (refine Again.by (K ++ [c.exp]) ⟨by simp; omega, by simp; omega⟩ ?_)
          | (refine Again.by K hK ?_)
        all_goals
          repeat' first
            | (refine Step.mk ?_; conv => whnf)
            | (refine Vc.om ?_ ?_; first | omega | with_reducible rfl | with_reducible exact same_rfl)
            | with_reducible trivial
            | (refine Vc.mk ?_ (Step.out ?_))
        all_goals exact app1 inF 0 inF_same _ _
    · intro K hK
      have hF : (⟨c.base, c.exp, c.wait, T, c.held, K⟩ : Ch).any := ⟨.inl ⟨by dsimp only; omega, by dsimp only; omega, by dsimp only; omega, by dsimp only; omega, by dsimp only; omega, by dsimp only; omega⟩, by dsimp only; omega, by dsimp only; omega, by dsimp only; omega, by dsimp only; omega⟩
      have hR := chB raw (by omega)
      repeat' first
        | (refine Step.mk ?_; conv => whnf)
      refine CodeOK.cutW hΓ hm ord6 [11] (by kernel_rfl) (α := Unit) (fun z => []) (fun z => []) 0 (fun z => True) ?_ ?_
      · repeat' first
          | (refine Step.mk ?_; conv => whnf)
        refine CodeOK.cutW hΓ hm ord6 [] (by kernel_rfl) (α := Ch × Ch × Dk) (fun z => [(2, .str p), (3, i64 i), (9, .loc 0 0), (104, .tab 6 4 fun j => Ch.l ((CL raw z.1 z.2.1 ⟨c.base, c.exp, c.wait, T, c.held, K⟩).getD j Ch.z)), (105, i64 4), (106, i64 0)]) (fun z => [(0, .var z.2.2.ls)]) 1 (fun z => z.1.any ∧ z.2.1.any) ?_ ?_
        · repeat' first
            | (refine Step.mk ?_; conv => whnf)
            | with_reducible trivial
            | (refine Met.by (channel_ct _) ?_; rintro q outs ⟨c, d, hg, rfl, rfl⟩)
            | (refine Two.mk (Step.out ?_) (Step.out ?_))
            | (refine CallOK.io1 (g := 12) (Step.out ?_))
            | (refine CallOK.io1 (g := 23) (Step.out ?_))
            | (refine Met.by (g := 23) (bent_ct _) ?_; rintro q outs ⟨c, d, hg, rfl, rfl⟩)
          all_goals rename_i c1 d1 g1
          all_goals refine Again.by (c1, c, d) ⟨g1.ok.any, hg.any⟩ ?_
          all_goals
            repeat' first
              | (refine Step.mk ?_; conv => whnf)
              | (refine Vc.om ?_ ?_; first | omega | with_reducible rfl | with_reducible exact same_rfl)
              | with_reducible trivial
              | (refine ⟨rfl, fun i hi => ?_⟩; match i with | 0 => rfl | 1 => rfl | 2 => rfl | 3 => rfl | n + 4 => exact absurd hi (by omega))
              | (refine Vc.mk ?_ (Step.out ?_))
        · intro ⟨c1, c2, d⟩ ⟨a1, a2⟩
          dsimp only at a1 a2 ⊢
          have hA := CL_any hR a1 a2 hF
          revert hA
          generalize CL raw c1 c2 ⟨c.base, c.exp, c.wait, T, c.held, K⟩ = L
          intro hA
          repeat' first
            | (refine Step.mk ?_; conv => whnf)
          refine CodeOK.loopW hΓ hm ord6 [20] (by kernel_rfl) (α := Dk × Nat) (fun z => [(2, .str p), (3, i64 i), (9, .loc 0 0), (104, .tab 6 4 fun j => Ch.l (L.getD j Ch.z)), (105, i64 4), (106, i64 z.2)]) (fun z => [(0, .var z.1.ls)]) 1 (fun z => z.2 ≤ 4) (fun z => 4 - z.2) ?_ ?_
          · refine Again.by (d, 0) (Nat.zero_le _) ?_
            repeat' first
              | (refine Step.mk ?_; conv => whnf)
              | (refine Vc.om ?_ ?_; first | omega | with_reducible rfl | with_reducible exact same_rfl)
              | with_reducible trivial
          · intro ⟨d, j⟩ hj
            dsimp only at hj ⊢
            have hX := hA (j : Int).toNat
            obtain ⟨ck, hck⟩ : ∃ e, (L.getD (j : Int).toNat Ch.z).chk = e := ⟨_, rfl⟩
            obtain ⟨id, hid⟩ : ∃ e, (L.getD (j : Int).toNat Ch.z).idle = e := ⟨_, rfl⟩
            obtain ⟨xo, eo, ho⟩ : ∃ x e, (L.getD (j : Int).toNat Ch.z).offer p = (x, e) := ⟨_, _, rfl⟩
            have lo := offer_ln hX ho
            have hXt := hX.t
            have hXk := hX.k
            repeat' first
              | (refine Step.mk ?_; conv => whnf)
              | (refine Vc.om ?_ ?_; first | omega | with_reducible rfl | with_reducible exact same_rfl)
              | with_reducible trivial
              | (with_reducible refine Br.tt ?_)
              | (refine Br.dT ?_ ?_; omega)
              | (refine Br.d (fun h => ?_) (fun h => ?_))
              | (refine Br.swap ?_)
              | (refine Br.bnot ?_)
              | (refine CallOK.ctF (g := 20) (Step.out ?_))
              | (refine CallOK.ctF (g := 21) (Step.out ?_))
              | (refine CallOK.ctF (g := 26) (Step.out ?_))
              | (refine CallQ.of_ct (Step.out ?_))
              | (refine Met.by (g := 13) (idleX_ct _ (by with_reducible assumption) _ (by with_reducible assumption)) ?_; rintro q outs ⟨rfl, rfl⟩)
              | (refine Met.by (g := 19) (checkX_ct _ (by with_reducible assumption) _ (by with_reducible assumption)) ?_; rintro q outs ⟨rfl, rfl⟩)
              | (refine Met.by (g := 20) (o_toD (offerX_ct _ (by with_reducible assumption) _ _ _ (by with_reducible assumption))) ?_; rintro q outs ⟨rfl, rfl⟩)
              | (refine Met.by (g := 21) (same_ct _ (by with_reducible assumption)) ?_; rintro q outs ⟨rfl, rfl⟩)
              | (refine Met.by (g := 24) (rcheckX_ct _ (by with_reducible assumption) _ (by with_reducible assumption)) ?_; rintro q outs ⟨rfl, rfl⟩)
              | (refine Met.by (g := 25) (ridleX_ct _ (by with_reducible assumption) _ (by with_reducible assumption)) ?_; rintro q outs ⟨rfl, rfl⟩)
              | (refine Met.by (g := 26) (o_toD (rofferX_ct _ (by with_reducible assumption) _ _ _ (by with_reducible assumption))) ?_; rintro q outs ⟨rfl, rfl⟩)
            · generalize L.getD (j : Int).toNat Ch.z = X at *
              refine CodeOK.cutW hΓ hm ord6 [] (by kernel_rfl) (α := Dk × Int) (fun z => [(2, .str p), (3, i64 i), (9, .loc 0 0), (12, .loc 1 0), (104, .tab 6 4 fun j => Ch.l (L.getD j Ch.z)), (105, i64 4), (106, i64 j), (153, .tab 1 7 fun q => [i64 ((KL i z.2 ((X.there.length : Int) - 1) X.back.length).getD q 0)]), (154, i64 7), (155, i64 0)]) (fun z => [(0, .var z.1.ls), (1, .var X.l)]) 2 (fun z => True) ?_ ?_
              · repeat' first
                  | (refine Step.mk ?_; conv => whnf)
                  | with_reducible trivial
                  | (refine Wr.i64 ?_ ?_; omega)
                  | (refine Two.mk (Step.out ?_) (Step.out ?_))
                  | (refine CallOK.io1 (g := 27) (Step.out ?_))
                  | (refine Met.by (g := 27) (next1_ct _ _ (by omega)) ?_; rintro q outs ⟨x, d, hx, rfl, rfl⟩)
                all_goals refine Again.by (d, x) trivial ?_
                all_goals
                  repeat' first
                    | (with_reducible refine Vc.mk ⟨rfl, fun q hq => KL_sel _ _ _ _ q hq⟩ (Step.out ?_))
                    | (refine Step.mk ?_; conv => whnf)
                    | (refine Vc.om ?_ ?_; first | omega | with_reducible rfl | with_reducible exact same_rfl)
                    | with_reducible trivial
              · intro ⟨d, x⟩ _
                dsimp only
                repeat' first
                  | (refine Step.mk ?_; conv => whnf)
                refine CodeOK.loopW hΓ hm ord6 [23] (by kernel_rfl) (α := Nat) (fun z => [(2, .str p), (3, i64 i), (9, .loc 0 0), (12, .loc 1 0), (104, .tab 6 4 fun j => Ch.l (L.getD j Ch.z)), (105, i64 4), (106, i64 j), (153, .tab 1 7 fun q => [i64 ((KL i x ((X.there.length : Int) - 1) X.back.length).getD q 0)]), (154, i64 7), (155, i64 z)]) (fun z => [(0, .var d.ls), (1, .var X.l)]) 2 (fun z => z ≤ 7) (fun z => 7 - z) ?_ ?_
                · refine Again.by 0 (Nat.zero_le _) ?_
                  repeat' first
                    | (refine Step.mk ?_; conv => whnf)
                    | (refine Vc.om ?_ ?_; first | omega | with_reducible rfl | with_reducible exact same_rfl)
                    | with_reducible trivial
                · intro z hz
                  repeat' first
                    | (refine Step.mk ?_; conv => whnf)
                    | (refine Vc.om ?_ ?_; first | omega | with_reducible rfl | with_reducible exact same_rfl)
                    | (refine Wr.i64 ?_ ?_; omega)
                    | (refine Br.d (fun h => ?_) (fun h => ?_))
                  · obtain ⟨x1, e1, q1⟩ : ∃ x1 e1, X.send ((KL i x ((X.there.length : Int) - 1) X.back.length).getD (z : Int).toNat 0) = (x1, e1) := ⟨_, _, rfl⟩
                    refine CodeOK.cutW hΓ hm ord6 [29] (by kernel_rfl) (α := Int × Ch × Int) (fun w => [(2, .str p), (3, i64 i), (9, .loc 0 0), (12, .loc 1 0), (18, i64 w.1), (19, .loc 2 0), (20, i64 w.2.2), (104, .tab 6 4 fun j => Ch.l (L.getD j Ch.z)), (105, i64 4), (106, i64 j), (153, .tab 1 7 fun q => [i64 ((KL i x ((X.there.length : Int) - 1) X.back.length).getD q 0)]), (154, i64 7), (155, i64 z)]) (fun w => [(0, .var d.ls), (1, .var X.l), (2, .var w.2.1.l)]) 3 (fun w => X.send w.1 = (w.2.1, w.2.2)) ?_ ?_
                    · repeat' first
                        | (refine Step.mk ?_; conv => whnf)
                        | (refine CallOK.ctF (g := 16) (Step.out ?_))
                        | (refine Met.by (g := 16) (o_toD (sendX_ct _ (by with_reducible assumption) _ _ _ (by with_reducible assumption))) ?_; rintro q outs ⟨rfl, rfl⟩)
                      all_goals refine Again.by ((KL i x ((X.there.length : Int) - 1) X.back.length).getD (z : Int).toNat 0, x1, e1) q1 ?_
                      all_goals
                        repeat' first
                          | (refine Step.mk ?_; conv => whnf)
                          | (refine Vc.om ?_ ?_; first | omega | with_reducible rfl | with_reducible exact same_rfl)
                          | with_reducible trivial
                    · clear q1 x1 e1
                      intro ⟨k, x1, e1⟩ q1
                      dsimp only at q1 ⊢
                      obtain ⟨x2, e2, q2⟩ : ∃ x e, X.lose k = (x, e) := ⟨_, _, rfl⟩
                      obtain ⟨x3, e3, q3⟩ : ∃ x e, X.repeat k = (x, e) := ⟨_, _, rfl⟩
                      obtain ⟨x4, e4, q4⟩ : ∃ x e, X.backM k = (x, e) := ⟨_, _, rfl⟩
                      obtain ⟨x5, e5, q5⟩ : ∃ x e, X.loseB k = (x, e) := ⟨_, _, rfl⟩
                      obtain ⟨x6, l6, e6, q6⟩ : ∃ x l e, X.deliver k = (x, l, e) := ⟨_, _, _, rfl⟩
                      have l1 := send_ln hX q1
                      have l2 := lose_ln hX q2
                      have l3 := repeat_ln hX q3
                      have l4 := backM_ln hX q4
                      have l5 := loseB_ln hX q5
                      obtain ⟨l7, l8⟩ := deliver_ln q6
                      repeat' first
                        | (refine Step.mk ?_; conv => whnf)
                        | (with_reducible refine Br.tt ?_)
                        | (refine Br.dT ?_ ?_; omega)
                        | (refine Br.swap ?_)
                        | (refine Br.bnot ?_)
                        | (refine CallOK.ctF (g := 21) (Step.out ?_))
                        | (refine CallOK.ctF (g := 28) (Step.out ?_))
                        | (refine CallOK.ctF (g := 29) (Step.out ?_))
                        | (refine CallOK.ctF (g := 30) (Step.out ?_))
                        | (refine Met.by (g := 21) (same_ct _ (by with_reducible assumption)) ?_; rintro q outs ⟨rfl, rfl⟩)
                        | (refine Met.by (g := 28) (o_toD (rsendX_ct _ (by with_reducible assumption) _ _ _ (by with_reducible assumption))) ?_; rintro q outs ⟨rfl, rfl⟩)
                        | (refine Met.by (g := 29) (o_toD (loseX_ct _ (by with_reducible assumption) _ _ _ (by with_reducible assumption))) ?_; rintro q outs ⟨rfl, rfl⟩)
                        | (refine Met.by (g := 30) (o_toD (rloseX_ct _ (by with_reducible assumption) _ _ _ (by with_reducible assumption))) ?_; rintro q outs ⟨rfl, rfl⟩)
                      refine CodeOK.cutW hΓ hm ord6 [35] (by kernel_rfl) (α := Unit) (fun w => [(2, .str p), (3, i64 i), (9, .loc 0 0), (12, .loc 1 0), (18, i64 k), (19, .loc 2 0), (20, i64 e3), (21, .loc 3 0), (23, .loc 4 0), (25, .loc 5 0), (104, .tab 6 4 fun j => Ch.l (L.getD j Ch.z)), (105, i64 4), (106, i64 j), (153, .tab 1 7 fun q => [i64 ((KL i x ((X.there.length : Int) - 1) X.back.length).getD q 0)]), (154, i64 7), (155, i64 z)]) (fun w => [(0, .var d.ls), (1, .var X.l), (2, .var x3.l), (3, .var x1.l), (4, .var x2.l), (5, .var x2.l)]) 6 (fun w => True) ?_ ?_
                      · repeat' first
                          | (refine Step.mk ?_; conv => whnf)
                          | (refine CallOK.ctF (g := 31) (Step.out ?_))
                          | (refine Met.by (g := 31) (o_toD (repeatX_ct _ (by with_reducible assumption) _ _ _ (by with_reducible assumption))) ?_; rintro q outs ⟨rfl, rfl⟩)
                        all_goals refine Again.by () trivial ?_
                        all_goals
                          repeat' first
                            | (refine Step.mk ?_; conv => whnf)
                            | (refine Vc.om ?_ ?_; first | omega | with_reducible rfl | with_reducible exact same_rfl)
                            | with_reducible trivial
                      · intro w _
                        repeat' first
                          | (refine Step.mk ?_; conv => whnf)
                          | (with_reducible refine Br.tt ?_)
                          | (refine Br.dT ?_ ?_; omega)
                          | (refine Br.swap ?_)
                          | (refine Br.bnot ?_)
                          | (refine CallOK.ctF (g := 15) (Step.out ?_))
                          | (refine CallOK.ctF (g := 21) (Step.out ?_))
                          | (refine CallOK.ctF (g := 32) (Step.out ?_))
                          | (refine CallOK.ctF (g := 33) (Step.out ?_))
                          | (refine Met.by (g := 15) (o_toD (backMX_ct _ (by with_reducible assumption) _ _ _ (by with_reducible assumption))) ?_; rintro q outs ⟨rfl, rfl⟩)
                          | (refine Met.by (g := 21) (same_ct _ (by with_reducible assumption)) ?_; rintro q outs ⟨rfl, rfl⟩)
                          | (refine Met.by (g := 32) (o_toD (rrepeatX_ct _ (by with_reducible assumption) _ _ _ (by with_reducible assumption))) ?_; rintro q outs ⟨rfl, rfl⟩)
                          | (refine Met.by (g := 33) (q_toD (rbackMX_ct _ (by with_reducible assumption) _ _ _ (by with_reducible assumption))) ?_; rintro q outs ⟨rfl, rfl⟩)
                        refine CodeOK.cutW hΓ hm ord6 [] (by kernel_rfl) (α := Unit) (fun w => [(2, .str p), (3, i64 i), (9, .loc 0 0), (12, .loc 1 0), (18, i64 k), (19, .loc 2 0), (20, i64 e5), (21, .loc 3 0), (23, .loc 4 0), (25, .loc 5 0), (104, .tab 6 4 fun j => Ch.l (L.getD j Ch.z)), (105, i64 4), (106, i64 j), (153, .tab 1 7 fun q => [i64 ((KL i x ((X.there.length : Int) - 1) X.back.length).getD q 0)]), (154, i64 7), (155, i64 z)]) (fun w => [(0, .var d.ls), (1, .var X.l), (2, .var x5.l), (3, .var x3.l), (4, .var x4.l), (5, .var x4.l)]) 6 (fun w => True) ?_ ?_
                        · repeat' first
                            | (refine Step.mk ?_; conv => whnf)
                            | (refine CallOK.ctF (g := 34) (Step.out ?_))
                            | (refine Met.by (g := 34) (o_toD (loseBX_ct _ (by with_reducible assumption) _ _ _ (by with_reducible assumption))) ?_; rintro q outs ⟨rfl, rfl⟩)
                          all_goals refine Again.by () trivial ?_
                          all_goals
                            repeat' first
                              | (refine Step.mk ?_; conv => whnf)
                              | (refine Vc.om ?_ ?_; first | omega | with_reducible rfl | with_reducible exact same_rfl)
                              | with_reducible trivial
                        · intro w _
                          repeat' first
                            | (refine Step.mk ?_; conv => whnf)
                            | (refine Wr.i64 ?_ ?_; omega)
                            | (with_reducible refine Br.tt ?_)
                            | (refine Br.dT ?_ ?_; omega)
                            | (refine Br.swap ?_)
                            | (refine Br.bnot ?_)
                            | (refine CallOK.ctF (g := 14) (Step.out ?_))
                            | (refine CallOK.ctF (g := 21) (Step.out ?_))
                            | (refine CallOK.ctF (g := 35) (Step.out ?_))
                            | (refine CallOK.ctF (g := 36) (Step.out ?_))
                            | (refine CallOK.ctF (g := 37) (Step.out ?_))
                            | (refine Met.by (g := 14) (deliverX_ct _ (by with_reducible assumption) _ _ _ _ (by with_reducible assumption)) ?_; rintro q outs ⟨rfl, rfl⟩)
                            | (refine Met.by (g := 21) (same_ct _ (by with_reducible assumption)) ?_; rintro q outs ⟨rfl, rfl⟩)
                            | (refine Met.by (g := 35) (o_toD (rloseBX_ct _ (by with_reducible assumption) _ _ _ (by with_reducible assumption))) ?_; rintro q outs ⟨rfl, rfl⟩)
                            | (refine Met.by (g := 36) (rdeliverX_ct _ (by with_reducible assumption) _ _ _ _ (by with_reducible assumption)) ?_; rintro q outs ⟨rfl, rfl⟩)
                            | (refine Met.by (g := 37) (equal1_ct _ (by omega)) ?_; rintro q outs ⟨rfl, rfl⟩)
                          refine Again.by (z + 1) ⟨by omega, by omega⟩ ?_
                          repeat' first
                            | (refine Step.mk ?_; conv => whnf)
                            | (refine Vc.om ?_ ?_; first | omega | with_reducible rfl | with_reducible exact same_rfl)
                            | with_reducible trivial
                  · refine Again.by (d, j + 1) ⟨by dsimp only; omega, by dsimp only; omega⟩ ?_
                    repeat' first
                      | (refine Step.mk ?_; conv => whnf)
                      | (refine Vc.om ?_ ?_; first | omega | with_reducible rfl | with_reducible exact same_rfl)
                      | with_reducible trivial
            · refine Again.by () trivial ?_
              repeat' first
                | (refine Step.mk ?_; conv => whnf)
                | with_reducible trivial
      · intro _ _
        repeat' first
          | (refine Step.mk ?_; conv => whnf)
          | (exact .inr rfl)
end Kx
