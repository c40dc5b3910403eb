/-
  ChangeMerge, ChangeLimit.
  No condition beyond those written in each theorem.
-/
import Derived.Test.YtgcandklomkhlaaKRm
import Derived.Test.YtgcandklomkhlaaKIm
open Go Sx Go.Proofs
set_option linter.unusedSimpArgs false
set_option linter.unusedVariables false
namespace Kx
theorem im_one (s : Str) : Im (.tab 1 1 fun i => selC [[.str s]] i) (strs [s]) := .tab rfl fun i hi => by
  obtain rfl : i = 0 := by omega
  exact ImL.refl _
theorem im_evs2 (k id v st into k' id' v' st' into' : Int) (s t : Str) : Im (.tab 6 2 fun i => selC [[i64 k, i64 id, i64 v, .tab 1 1 fun i => selC [[.str s]] i, i64 st, i64 into], [i64 k', i64 id', i64 v', .tab 1 1 fun i => selC [[.str t]] i, i64 st', i64 into']] i) (evs [⟨k, id, v, [s], st, into⟩, ⟨k', id', v', [t], st', into'⟩]) := .tab rfl fun i hi => by
  match i, hi with
  | 0, _ =>
    refine ImL.cons (Im.refl (i64 k)) (ImL.cons (Im.refl (i64 id)) (ImL.cons (Im.refl (i64 v)) (ImL.cons (Im.tab rfl fun i hi => ?_) (ImL.cons (Im.refl (i64 st)) (ImL.cons (Im.refl (i64 into)) ImL.nil)))))
    obtain rfl : i = 0 := by
      have : i < 1 := hi
      omega
    exact ImL.refl [.str s]
  | 1, _ =>
    refine ImL.cons (Im.refl (i64 k')) (ImL.cons (Im.refl (i64 id')) (ImL.cons (Im.refl (i64 v')) (ImL.cons (Im.tab rfl fun i hi => ?_) (ImL.cons (Im.refl (i64 st')) (ImL.cons (Im.refl (i64 into')) ImL.nil)))))
    obtain rfl : i = 0 := by
      have : i < 1 := hi
      omega
    exact ImL.refl [.str t]
theorem im_evs2n (k id v st into k' id' v' st' into' : Int) (s : Str) : Im (.tab 6 2 fun i => selC [[i64 k, i64 id, i64 v, .tab 1 1 fun i => selC [[.str s]] i, i64 st, i64 into], [i64 k', i64 id', i64 v', .nil, i64 st', i64 into']] i) (evs [⟨k, id, v, [s], st, into⟩, ⟨k', id', v', [], st', into'⟩]) := .tab rfl fun i hi => by
  match i, hi with
  | 0, _ =>
    refine ImL.cons (Im.refl (i64 k)) (ImL.cons (Im.refl (i64 id)) (ImL.cons (Im.refl (i64 v)) (ImL.cons (Im.tab rfl fun i hi => ?_) (ImL.cons (Im.refl (i64 st)) (ImL.cons (Im.refl (i64 into)) ImL.nil)))))
    obtain rfl : i = 0 := by
      have : i < 1 := hi
      omega
    exact ImL.refl [.str s]
  | 1, _ =>
    refine ImL.cons (Im.refl (i64 k')) (ImL.cons (Im.refl (i64 id')) (ImL.cons (Im.refl (i64 v')) (ImL.cons (Im.tab rfl fun i hi => ?_) (ImL.cons (Im.refl (i64 st')) (ImL.cons (Im.refl (i64 into')) ImL.nil)))))
    exact absurd (show i < 0 from hi) (by omega)
theorem im_rws (l : List Rw) : Im (rws l) (rws l) := Im.refl _
/-! ### Merging -/
def mA : List Rw := [⟨1, 1, [[97]], 0, 0, 0⟩, ⟨2, 1, [[98]], 0, 0, 0⟩]
def mB : List Rw := [⟨1, 1, [[97]], 5, 2, 2⟩, ⟨2, 1, [[98]], 0, 0, 0⟩]
def mC (x : Int) (v : Str) : List Rw := [⟨1, 2 + x, [v], 5, 2, 2⟩, ⟨2, 1, [[98]], 0, 0, 0⟩]
def mD (x : Int) (v : Str) : List Rw := [⟨1, 2 + x, [v], 6, 0, 0⟩, ⟨2, 1, [[98]], 0, 0, 0⟩]
theorem allL {l : List Rw} {es : List Ev} {A E : D} {m : List Rw} {k : Int} (h : all l es = (m, k)) (hl : RwsOK l) (he : EvsOK es) (hp : plL [A, E] = true) (hA : Im A (rws l)) (hE : Im E (evs es)) : Ct Try.prog 12 [A, E] fun q outs => q = .tup [rws m, i64 k] ∧ outs = [] := by
  have := all_ct l es hl he
  rw [h] at this
  exact Ct.read this hp ⟨hA, hE, trivial⟩
theorem ev_ok (l : List Ev) (h : l.all (fun e => decide (e.vals.length ≤ 1000)) = true) (hn : decide (l.length ≤ 1000) = true) : EvsOK l :=
  ⟨by have := of_decide_eq_true hn; omega, fun r hr => by have := List.all_eq_true.1 h r hr; have := of_decide_eq_true this; omega⟩
theorem corr (x y : Int) (v : Str) (hx : 0 ≤ x ∧ x < 50) (hy : 0 ≤ y ∧ y < 4) (hv : v.length ≤ 9) : all mB [⟨1, 1, 2 + x, [v], 0, 0⟩, ⟨2, 1, 1 + y, [], 0, 0⟩] = (mC x v, 0) := by
  have c1 : Ev.chk ⟨1, 1, 2 + x, [v], 0, 0⟩ = 0 := by
    simp [Ev.chk, idB, Ev.good, valsB]; omega
  have c2 : Ev.chk ⟨2, 1, 1 + y, [], 0, 0⟩ = 0 := by
    simp [Ev.chk, idB, Ev.good, statB]; omega
  have b1 : ins mB (Ev.row ⟨1, 1, 2 + x, [v], 0, 0⟩) = mC x v := by
    simp [mB, mC, ins, both, cont, stat, cmp2, cmpI, Ev.row, show (1 : Int) < 2 + x by omega]
  have b2 : ins (mC x v) (Ev.row ⟨2, 1, 1 + y, [], 0, 0⟩) = mC x v := by
    simp [mC, ins, both, cont, stat, cmp2, cmpI, Ev.row, show ¬(2 + x) < 0 by omega, show (0 : Int) < 2 + x by omega, show ¬(5 : Int) < 1 + y by omega, show 1 + y < (5 : Int) by omega]
  have v1 : valid mB = 0 := rfl
  have p1 : apply mB ⟨1, 1, 2 + x, [v], 0, 0⟩ = (mC x v, 0) := by
    rw [apply, if_neg (not_not_intro v1), if_neg (not_not_intro c1), b1, if_neg (by simp [mC])]
  have v2 : valid (mC x v) = 0 := by have := apply_valid (l := mB) (e := ⟨1, 1, 2 + x, [v], 0, 0⟩) (by rw [p1]); rw [p1] at this; exact this
  have p2 : apply (mC x v) ⟨2, 1, 1 + y, [], 0, 0⟩ = (mC x v, 0) := by
    rw [apply, if_neg (not_not_intro v2), if_neg (not_not_intro c2), b2, if_neg (by simp [mC])]
  rw [all, if_neg (not_not_intro v1), allGo, p1, if_neg (by simp), allGo, p2, if_neg (by simp), allGo]
theorem mC_valid (x : Int) (v : Str) (hx : 0 ≤ x ∧ x < 50) (hv : v.length ≤ 9) : valid (mC x v) = 0 := by
  have := allGo_valid [⟨1, 1, 2 + x, [v], 0, 0⟩, ⟨2, 1, 1 + 0, [], 0, 0⟩] mB 0 rfl
  have h := corr x 0 v hx (by omega) hv
  rw [all, if_neg (by decide)] at h
  rw [h] at this
  exact this
theorem backm (x : Int) (v : Str) (hx : 0 ≤ x ∧ x < 50) (hv : v.length ≤ 9) : apply (mC x v) ⟨2, 1, 6, [], 0, 0⟩ = (mD x v, 0) := by
  have b : ins (mC x v) (Ev.row ⟨2, 1, 6, [], 0, 0⟩) = mD x v := by
    simp [mC, mD, ins, both, cont, stat, cmp2, cmpI, Ev.row, show ¬(2 + x) < 0 by omega, show (0 : Int) < 2 + x by omega]
  rw [apply, if_neg (not_not_intro (mC_valid x v hx hv)), if_neg (not_not_intro (show Ev.chk ⟨2, 1, 6, [], 0, 0⟩ = 0 from rfl)), b, if_neg (by simp [mD])]
theorem mC_ok (x : Int) (v : Str) : RwsOK (mC x v) := ok1 rfl rfl
theorem merge_ct (l : List Int) : Ct Try.prog 6 [ints l] fun r outs => r = .bool true ∧ outs = [] := by
  have a1 : all [] [⟨1, 1, 1, [[97]], 0, 0⟩, ⟨1, 2, 1, [[98]], 0, 0⟩] = (mA, 0) := rfl
  have a2 : apply mA ⟨2, 1, 5, [], 2, 2⟩ = (mB, 0) := rfl
  refine .det (.of_W (fn := Try.f6) hΓ hm Try.func6 [] [] (by kernel_rfl) (Step.out ?_))
  repeat' first
    | (refine Step.mk ?_; conv => whnf)
    | (refine Vc.om ?_ ?_; first | omega | with_reducible rfl | with_reducible exact same_rfl | (simp only [bytes_2, bytes_3, bytes_4, bytes_5, bytes_9, bytes_12, bytes_21, bytes_22, bytes_25, bytes_27, bytes_29, bytes_32, bytes_33, bytes_34, bytes_38, bytes_40, bytes_44, bytes_45, bytes_52, bytes_53, bytes_54, bytes_58, bytes_59, bytes_60, bytes_93, bytes_97, bytes_100, true_and, and_true] <;> omega))
    | (refine NilB.mk fun b hb => Step.out ?_)
    | with_reducible trivial
    | exact noSh_bool _
    | exact noSh_lit _
    | exact noSh_int _ _
    | exact noSh_str _
    | with_reducible rfl
    | with_reducible exact same_rfl
    | (refine Wr.i64 ?_ ?_; omega)
    | (refine Wr.u8 ?_ ?_; omega)
    | (refine Wr.i32 ?_ ?_; omega)
    | (with_reducible refine Br.tt ?_)
    | (with_reducible refine Br.ff ?_)
    | (refine Br.dT ?_ ?_; omega)
    | (refine Br.dF ?_ ?_; omega)
    | (refine Met.by awake_ct ?_; rintro q outs ⟨rfl, rfl⟩)
    | (refine Met.by (allL a1 (ok1 rfl rfl) (ev_ok _ rfl rfl) rfl (im_nil _ _) (im_evs2 _ _ _ _ _ _ _ _ _ _ _ _)) ?_; rintro q outs ⟨rfl, rfl⟩)
    | (refine Met.by (applyL a2 (ok1 rfl rfl) (by decide) (rws_rws _) lit_none) ?_; rintro q outs ⟨rfl, rfl⟩)
    | (refine Br.d (fun h => ?_) (fun h => ?_))
    | (refine Br.swap ?_)
    | (refine Br.bnot ?_)
    | (refine Br.mk (fun h => Step.out ?_) (fun h => Step.out ?_))
    | (refine Two.mk (Step.out ?_) (Step.out ?_))
    | (refine Cp.mk fun q hq => Step.out ?_)
    | (refine Ovl.mk (by assumption) (Step.out ?_))
    | (refine CallOK.ctF (g := 12) (Step.out ?_))
    | (refine CallOK.io1 (g := 14) (Step.out ?_))
    | (refine CallOK.ctF (g := 17) (Step.out ?_))
    | (refine CallOK.ctF (g := 19) (Step.out ?_))
    | (refine CallOK.io1 (g := 20) (Step.out ?_))
    | (refine CallOK.of_ct (Step.out ?_))
    | (refine CallQ.of_ct (Step.out ?_))
    | (refine Met.by (g := 9) (few_ct _) ?_; rintro q outs ⟨rfl, rfl⟩)
    | (refine Met.by (g := 10) (new_ct _ (by assumption)) ?_; rintro q outs ⟨d, hd, rfl, rfl⟩)
    | (refine Met.by (g := 12) (all_ct _ _ (by assumption) (by assumption)) ?_; rintro q outs ⟨rfl, rfl⟩)
    | (refine Met.by (g := 14) (next_ct _ _) ?_; rintro q outs ⟨x, d, hx, rfl, rfl⟩)
    | (refine Met.by (g := 17) (current_ct _ (by assumption)) ?_; rintro q outs ⟨rfl, rfl⟩)
    | (refine Met.by (g := 19) (apply_ct _ _ (by assumption) (by omega)) ?_; rintro q outs ⟨rfl, rfl⟩)
    | (refine Met.by (g := 20) (value_ct _) ?_; rintro q outs ⟨x, d, hx, rfl, rfl⟩)
    | (refine Vc.mk ?_ (Step.out ?_))
  rename_i d0 x0 d1 hx0 v d2 hv
  have h1 := corr x0 x v (by omega) (by omega) hv
  have h2 := mC_valid x0 v (by omega) hv
  have h3 := backm x0 v (by omega) hv
  have h4 : valid (mD x0 v) = 0 := by have := apply_valid (l := mC x0 v) (e := ⟨2, 1, 6, [], 0, 0⟩) (by rw [h3]); rw [h3] at this; exact this
  have k1 : curs (mC x0 v) = [(2, 1, [[98]])] := by simp [curs, mC, cur1]
  have k2 : curs (mD x0 v) = [(1, 2 + x0, [v]), (2, 1, [[98]])] := by simp [curs, mD, cur1, show ¬2 + x0 = 0 by omega]
  have q1 := current_ct _ h2
  have q2 := current_ct _ h4
  rw [k1] at q1
  rw [k2] at q2
  repeat' first
    | (refine Step.mk ?_; conv => whnf)
    | (refine Vc.om ?_ ?_; first | omega | with_reducible rfl | with_reducible exact same_rfl | (simp only [bytes_2, bytes_3, bytes_4, bytes_5, bytes_9, bytes_12, bytes_21, bytes_22, bytes_25, bytes_27, bytes_29, bytes_32, bytes_33, bytes_34, bytes_38, bytes_40, bytes_44, bytes_45, bytes_52, bytes_53, bytes_54, bytes_58, bytes_59, bytes_60, bytes_93, bytes_97, bytes_100, true_and, and_true] <;> omega))
    | (refine NilB.mk fun b hb => Step.out ?_)
    | with_reducible trivial
    | exact noSh_bool _
    | exact noSh_lit _
    | exact noSh_int _ _
    | exact noSh_str _
    | with_reducible rfl
    | with_reducible exact same_rfl
    | (refine Wr.i64 ?_ ?_; omega)
    | (refine Wr.u8 ?_ ?_; omega)
    | (refine Wr.i32 ?_ ?_; omega)
    | (with_reducible refine Br.tt ?_)
    | (with_reducible refine Br.ff ?_)
    | (refine Br.dT ?_ ?_; omega)
    | (refine Br.dF ?_ ?_; omega)
    | (refine Met.by (allL h1 (ok1 rfl rfl) (ev_ok _ rfl rfl) rfl (im_rws _) (im_evs2n _ _ _ _ _ _ _ _ _ _ _)) ?_; rintro q outs ⟨rfl, rfl⟩)
    | (refine Met.by q1 ?_; rintro q outs ⟨rfl, rfl⟩)
    | (refine Met.by (applyL h3 (mC_ok x0 v) (by decide) (rws_rws _) lit_none) ?_; rintro q outs ⟨rfl, rfl⟩)
    | (refine Met.by q2 ?_; rintro q outs ⟨rfl, rfl⟩)
    | (refine Br.d (fun h => ?_) (fun h => ?_))
    | (refine Br.swap ?_)
    | (refine Br.bnot ?_)
    | (refine Br.mk (fun h => Step.out ?_) (fun h => Step.out ?_))
    | (refine Two.mk (Step.out ?_) (Step.out ?_))
    | (refine Cp.mk fun q hq => Step.out ?_)
    | (refine Ovl.mk (by assumption) (Step.out ?_))
    | (refine CallOK.ctF (g := 12) (Step.out ?_))
    | (refine CallOK.io1 (g := 14) (Step.out ?_))
    | (refine CallOK.ctF (g := 17) (Step.out ?_))
    | (refine CallOK.ctF (g := 19) (Step.out ?_))
    | (refine CallOK.io1 (g := 20) (Step.out ?_))
    | (refine CallOK.of_ct (Step.out ?_))
    | (refine CallQ.of_ct (Step.out ?_))
    | (refine Met.by (g := 9) (few_ct _) ?_; rintro q outs ⟨rfl, rfl⟩)
    | (refine Met.by (g := 10) (new_ct _ (by assumption)) ?_; rintro q outs ⟨d, hd, rfl, rfl⟩)
    | (refine Met.by (g := 12) (all_ct _ _ (by assumption) (by assumption)) ?_; rintro q outs ⟨rfl, rfl⟩)
    | (refine Met.by (g := 14) (next_ct _ _) ?_; rintro q outs ⟨x, d, hx, rfl, rfl⟩)
    | (refine Met.by (g := 17) (current_ct _ (by assumption)) ?_; rintro q outs ⟨rfl, rfl⟩)
    | (refine Met.by (g := 19) (apply_ct _ _ (by assumption) (by omega)) ?_; rintro q outs ⟨rfl, rfl⟩)
    | (refine Met.by (g := 20) (value_ct _) ?_; rintro q outs ⟨x, d, hx, rfl, rfl⟩)
    | (refine Vc.mk ?_ (Step.out ?_))
  · exact decide_eq_true (show 2 ≤ 2 + x0 by omega)
  all_goals exact absurd rfl h
end Kx
