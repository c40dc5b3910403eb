/-
  ChangeLatest.
  No condition beyond those written in each theorem.
-/
import Derived.Test.YtgcandklomkhlaaKRp
open Go Sx Go.Proofs
set_option linter.unusedSimpArgs false
set_option linter.unusedVariables false
namespace Kx
def curC (c : Cn) : Bool := !decide (c.1.1 = 0) && (decide (c.2.2.1 = 0) || decide (c.2.2.1 = 1))
def deadC (c : Cn) : Bool := decide (c.2.2.1 = 1)
def curL (l : List Rw) : List Rw := l.filter fun r => curC r.c
def deadL (l : List Rw) : List Rw := (curL l).filter fun r => deadC r.c
theorem curs_eq (l : List Rw) : curs l = (curL l).map fun r => (r.id, r.ver, r.vals) := rfl
theorem deads_eq (l : List Rw) : deads l = (deadL l).map Rw.id := rfl
/-- What follows from what the events say: whether the number is current, and where. -/
structure At (pA pD : Int → Nat) (G : List Rec) (Dd : List Int) (n : Int) (s : La) : Prop where
  no : (s.ver = 0 ∨ s.st = 2 ∨ s.st = 3) → pA (n + 1) = pA n ∧ pD (n + 1) = pD n
  yes : ¬(s.ver = 0 ∨ s.st = 2 ∨ s.st = 3) → pA n < G.length ∧ G.getD (pA n) (0, 0, []) = (n, s.ver, [s.val]) ∧ pA (n + 1) = pA n + 1
  live : ¬(s.ver = 0 ∨ s.st = 2 ∨ s.st = 3) → s.st ≠ 1 → pD (n + 1) = pD n
  dead : ¬(s.ver = 0 ∨ s.st = 2 ∨ s.st = 3) → s.st = 1 → pD n < Dd.length ∧ Dd.getD (pD n) 0 = n ∧ pD (n + 1) = pD n + 1
theorem get_fine : ∀ {R : List Rw} {n : Int} {c : Cn}, (∀ r ∈ R, r.fine) → get R n = some c → CnOK n c
  | x :: l, n, c, h, hg => by
    rw [get] at hg
    split at hg
    · rename_i e; cases hg; subst e; exact ((fine_iff x).1 (h x (by simp))).2
    · exact get_fine (fun r hr => h r (by simp [hr])) hg
theorem map_getD {α β : Type} (f : α → β) (l : List α) (i : Nat) (z : α) (w : β) (h : i < l.length) : (l.map f).getD i w = f (l.getD i z) := by
  rw [List.getD_eq_getElem?_getD, List.getElem?_map, List.getElem?_eq_getElem h, List.getD_eq_getElem?_getD, List.getElem?_eq_getElem h]; rfl
theorem found_at {L : List Rw} {n : Int} {c : Cn} (ha : AscR L) (h : get L n = some c) : posR L n < L.length ∧ L.getD (posR L n) Rw.z = Rw.of n c ∧ posR L (n + 1) = posR L n + 1 := by
  rw [get_pos n ha] at h
  split at h
  · rename_i hf
    rw [posR_succ n ha, if_pos hf]
    have hf' := hf
    simp only [foundR, Bool.and_eq_true, decide_eq_true_eq] at hf'
    refine ⟨hf'.1, ?_, rfl⟩
    rw [← Rw.of_c (L.getD (posR L n) Rw.z), hf'.2, Option.some.inj h]
  · cases h
theorem found_no {L : List Rw} {n : Int} (ha : AscR L) (h : get L n = none) : posR L (n + 1) = posR L n := by
  rw [get_pos n ha] at h
  split at h
  · cases h
  · rename_i hf
    rw [posR_succ n ha, if_neg hf]
theorem at_of {R : List Rw} {n : Int} {s : La} (hf : ∀ r ∈ R, r.fine) (ha : AscR R) (H : Rel s (get R n)) : At (posR (curL R)) (posR (deadL R)) (curs R) (deads R) n s := by
  have a1 : AscR (curL R) := asc_filter _ ha
  have a2 : AscR (deadL R) := asc_filter _ a1
  have g1 : get (curL R) n = optF curC (get R n) := get_filter curC n ha
  have g2 : get (deadL R) n = optF deadC (optF curC (get R n)) := by rw [← g1]; exact get_filter deadC n a1
  cases hg : get R n with
  | none =>
    rw [hg] at H g1 g2
    have H : s = .z := H
    subst H
    exact ⟨fun _ => ⟨found_no a1 g1, found_no a2 g2⟩, fun h => absurd (.inl rfl) h, fun h => absurd (.inl rfl) h, fun h => absurd (.inl rfl) h⟩
  | some c =>
    have ck := get_fine hf hg
    rw [hg] at H g1 g2
    obtain ⟨rfl, b1, b2, b3, b4⟩ := H
    have hst : s.st = 0 ∨ s.st = 1 ∨ s.st = 2 ∨ s.st = 3 := by
      by_cases h0 : s.sv = 0
      · exact .inl (b4 h0).1
      · have := ck.s1 h0
        unfold statB at this
        simp only at this
        split at this
        · omega
        · split at this
          · omega
          · cases this
    refine ⟨fun h => ?_, fun h => ?_, fun h h1 => ?_, fun h h1 => ?_⟩
    · have e : curC ((s.ver, if s.ver = 0 then [] else [s.val]), (s.sv, s.st, s.into)) = false := by
        simp only [curC, Bool.and_eq_false_iff, Bool.not_eq_false', decide_eq_true_eq, Bool.or_eq_false_iff, decide_eq_false_iff_not]; omega
      rw [optF, if_neg (by rw [e]; simp)] at g1
      rw [optF, if_neg (by rw [e]; simp), optF] at g2
      exact ⟨found_no a1 g1, found_no a2 g2⟩
    all_goals
      have e : curC ((s.ver, if s.ver = 0 then [] else [s.val]), (s.sv, s.st, s.into)) = true := by
        simp only [curC, Bool.and_eq_true, Bool.not_eq_true', decide_eq_false_iff_not, Bool.or_eq_true, decide_eq_true_eq]; omega
      rw [optF, if_pos e] at g1
      rw [optF, if_pos e, optF] at g2
      rw [if_neg (show ¬s.ver = 0 by omega)] at g1 g2
    · obtain ⟨f1, f2, f3⟩ := found_at a1 g1
      refine ⟨by rw [curs_eq, List.length_map]; exact f1, ?_, f3⟩
      rw [curs_eq, map_getD _ _ _ Rw.z _ f1, f2]; rfl
    · rw [if_neg (by simp only [deadC, decide_eq_true_eq]; omega)] at g2
      exact found_no a2 g2
    · rw [if_pos (by simp only [deadC, decide_eq_true_eq]; omega)] at g2
      obtain ⟨f1, f2, f3⟩ := found_at a2 g2
      refine ⟨by rw [deads_eq, List.length_map]; exact f1, ?_, f3⟩
      rw [deads_eq, map_getD _ _ _ Rw.z _ f1, f2]; rfl
structure Ps (y : List Ev) (pA pD : Int → Nat) (G : List Rec) (Dd : List Int) (Q : Nat → Int → La → Prop) : Prop where
  g : G.length ≤ 64
  d : Dd.length ≤ 64
  a1 : pA 1 = 0
  d1 : pD 1 = 0
  al : ∀ n, pA n ≤ G.length
  dl : ∀ n, pD n ≤ Dd.length
  q0 : ∀ n, Q 0 n .z
  q1 : ∀ n i s, i < y.length → Q i n s → ((y.getD i Ev.z).id = n → (y.getD i Ev.z).chk = 0 → (y.getD i Ev.z).kind = 1 → (y.getD i Ev.z).vals.length = 1) → Q (i + 1) n (s.step n (y.getD i Ev.z))
  at_ : ∀ n s, Q y.length n s → At pA pD G Dd n s
  out : ∀ h, h < G.length → pA 5 ≤ h → 5 ≤ (G.getD h (0, 0, [])).1
theorem ps_of (y : List Ev) (hy : y.length ≤ 10) : ∃ pA pD Q, Ps y pA pD (curs (all [] y).1) (deads (all [] y).1) Q := by
  generalize hR : (all [] y).1 = R
  have hR1 : R = rowsAt y y.length := by rw [← hR, all_nil (by omega), rowsAt, List.take_length]
  have hva : valid R = 0 := by rw [← hR]; exact all_valid y
  obtain ⟨v1, v2, v3⟩ := valid_zero.1 hva
  have hids : ∀ r ∈ curL R, 1 ≤ r.id := fun r hr => by
    have := (v2 r (List.mem_filter.1 hr).1).i
    simp only [idB, Bool.and_eq_true, decide_eq_true_eq] at this; omega
  have p0 : ∀ L : List Rw, (∀ r ∈ L, 1 ≤ r.id) → posR L 1 = 0 := fun L hL => by
    cases L with
    | nil => rfl
    | cons x L => rw [posR, if_neg (by have := hL x (by simp); omega)]
  have e1 : (curL R).length = (curs R).length := by rw [curs_eq, List.length_map]
  have e2 : (deadL R).length = (deads R).length := by rw [deads_eq, List.length_map]
  have a1 : AscR (curL R) := asc_filter _ v3
  refine ⟨posR (curL R), posR (deadL R), fun i n s => Rel s (get (rowsAt y i) n), ?_, ?_, p0 _ hids, p0 _ fun r hr => hids r (List.mem_filter.1 hr).1, fun n => by rw [← e1]; exact posR_le _ n, fun n => by rw [← e2]; exact posR_le _ n, fun n => rfl, fun n i s h hq hv => rel_step h hq hv, fun n s hq => at_of v2 v3 (by rw [hR1]; exact hq), fun h hh hp => ?_⟩
  · rw [← e1]; exact Nat.le_trans (List.length_filter_le _ _) v1
  · rw [← e2]; exact Nat.le_trans (List.length_filter_le _ _) (Nat.le_trans (List.length_filter_le _ _) v1)
  · rw [← e1] at hh
    rw [curs_eq, map_getD _ _ _ Rw.z _ hh]
    have := (posR_lt (n := 5) a1 hh)
    show 5 ≤ ((curL R).getD h Rw.z).id
    omega
theorem le_less (a b : Str) : (Op.bytesLess a b || decide (a = b)) = !Op.bytesLess b a := by
  rcases less_tri a b with h | h | h
  · rw [h, less_asym h]; rfl
  · subst h; rw [less_irr]; simp
  · rw [h, less_asym h]
    have : a ≠ b := fun e => by subst e; rw [less_irr] at h; cases h
    simp [this]
set_option maxHeartbeats 4000000 in
theorem latest_ct (l : List Int) : Ct Try.prog 4 [ints l] fun r outs => r = .bool true ∧ outs = [] := by
  refine .det (.of_W (fn := Try.f4) hΓ hm Try.func4 ord4 [] (by kernel_rfl) (Step.out ?_))
  repeat' first
    | (refine Step.mk ?_; conv => whnf)
    | (refine Vc.om ?_ ?_; first | omega | with_reducible rfl | with_reducible exact same_rfl | (simp only [bytes_2, bytes_3, bytes_4, bytes_5, bytes_9, bytes_12, bytes_21, bytes_22, bytes_25, bytes_27, bytes_29, bytes_32, bytes_33, bytes_34, bytes_38, bytes_40, bytes_44, bytes_45, bytes_52, bytes_53, bytes_54, bytes_58, bytes_59, bytes_60, bytes_93, bytes_97, bytes_100, true_and, and_true] <;> omega))
    | (refine NilB.mk fun b hb => Step.out ?_)
    | with_reducible trivial
    | exact noSh_bool _
    | exact noSh_lit _
    | exact noSh_int _ _
    | exact noSh_str _
    | with_reducible rfl
    | with_reducible exact same_rfl
    | (refine Wr.i64 ?_ ?_; omega)
    | (refine Wr.u8 ?_ ?_; omega)
    | (refine Wr.i32 ?_ ?_; omega)
    | (with_reducible refine Br.tt ?_)
    | (with_reducible refine Br.ff ?_)
    | (refine Br.dT ?_ ?_; omega)
    | (refine Br.dF ?_ ?_; omega)
    | (refine Met.by awake_ct ?_; rintro q outs ⟨rfl, rfl⟩)
    | (refine Met.by (events_ct _ 1 10 (by decide) (by decide)) ?_; rintro q outs ⟨y, d, ⟨hy1, hy2⟩, rfl, rfl⟩)
    | (refine Met.by (allN_ct y (by omega) hy2) ?_; rintro q outs ⟨rfl, rfl⟩)
    | (refine Met.by (current_ct _ (all_valid y)) ?_; rintro q outs ⟨rfl, rfl⟩)
    | (refine Br.d (fun h => ?_) (fun h => ?_))
    | (refine Br.swap ?_)
    | (refine Br.bnot ?_)
    | (refine Br.mk (fun h => Step.out ?_) (fun h => Step.out ?_))
    | (refine Two.mk (Step.out ?_) (Step.out ?_))
    | (refine Cp.mk fun q hq => Step.out ?_)
    | (refine Ovl.mk (by assumption) (Step.out ?_))
    | (refine CallOK.io1 (g := 11) (Step.out ?_))
    | (refine CallOK.ctF (g := 12) (Step.out ?_))
    | (refine CallOK.ctF (g := 17) (Step.out ?_))
    | (refine CallOK.of_ct (Step.out ?_))
    | (refine CallQ.of_ct (Step.out ?_))
    | (refine Met.by (g := 9) (few_ct _) ?_; rintro q outs ⟨rfl, rfl⟩)
    | (refine Met.by (g := 10) (new_ct _ (by assumption)) ?_; rintro q outs ⟨d, hd, rfl, rfl⟩)
    | (refine Met.by (g := 11) (events_ct _ _ _ (by omega) (by omega)) ?_; rintro q outs ⟨l, d, ⟨hl1, hl2⟩, rfl, rfl⟩)
    | (refine Met.by (g := 12) (all_ct _ _ (by assumption) (by assumption)) ?_; rintro q outs ⟨rfl, rfl⟩)
    | (refine Met.by (g := 17) (current_ct _ (by assumption)) ?_; rintro q outs ⟨rfl, rfl⟩)
    | (refine Met.by (g := 18) (check_ct _ (by omega)) ?_; rintro q outs ⟨rfl, rfl⟩)
    | (refine Vc.mk ?_ (Step.out ?_))
  obtain ⟨pA, pD, Q, H⟩ := ps_of y hy1
  generalize curs (all [] y).1 = G at *
  generalize deads (all [] y).1 = Dd at *
  have hg := H.g
  have hdl := H.d
  have al := H.al
  have dl := H.dl
  refine CodeOK.loopW hΓ hm ord4 [] (by kernel_rfl) (α := Nat) (fun n => [(4, evs y), (7, recs G), (8, ints Dd), (10, i64 (pA n : Nat)), (11, i64 (pD n : Nat)), (12, i64 n)]) (fun n => []) 0 (fun n => 1 ≤ n ∧ n ≤ 5) (fun n => 5 - n) ?_ ?_
  · refine Again.by 1 (by omega) ?_
    repeat' first
      | (refine Step.mk ?_; conv => whnf)
      | (refine Vc.om ?_ ?_; first | omega | with_reducible rfl | with_reducible exact same_rfl | (simp only [bytes_2, bytes_3, bytes_4, bytes_5, bytes_9, bytes_12, bytes_21, bytes_22, bytes_25, bytes_27, bytes_29, bytes_32, bytes_33, bytes_34, bytes_38, bytes_40, bytes_44, bytes_45, bytes_52, bytes_53, bytes_54, bytes_58, bytes_59, bytes_60, bytes_93, bytes_97, bytes_100, true_and, and_true] <;> omega))
      | (refine NilB.mk fun b hb => Step.out ?_)
      | with_reducible trivial
      | exact noSh_bool _
      | exact noSh_lit _
      | exact noSh_int _ _
      | exact noSh_str _
      | with_reducible rfl
      | with_reducible exact same_rfl
      | (refine Wr.i64 ?_ ?_; omega)
      | (refine Wr.u8 ?_ ?_; omega)
      | (refine Wr.i32 ?_ ?_; omega)
      | (with_reducible refine Br.tt ?_)
      | (with_reducible refine Br.ff ?_)
      | (refine Br.dT ?_ ?_; omega)
      | (refine Br.dF ?_ ?_; omega)
      | (exact congrArg Nat.cast H.a1.symm)
      | (exact congrArg Nat.cast H.d1.symm)
      | (refine Br.d (fun h => ?_) (fun h => ?_))
      | (refine Br.swap ?_)
      | (refine Br.bnot ?_)
      | (refine Br.mk (fun h => Step.out ?_) (fun h => Step.out ?_))
      | (refine Two.mk (Step.out ?_) (Step.out ?_))
      | (refine Cp.mk fun q hq => Step.out ?_)
      | (refine Ovl.mk (by assumption) (Step.out ?_))
      | (refine CallOK.io1 (g := 11) (Step.out ?_))
      | (refine CallOK.ctF (g := 12) (Step.out ?_))
      | (refine CallOK.ctF (g := 17) (Step.out ?_))
      | (refine CallOK.of_ct (Step.out ?_))
      | (refine CallQ.of_ct (Step.out ?_))
      | (refine Met.by (g := 9) (few_ct _) ?_; rintro q outs ⟨rfl, rfl⟩)
      | (refine Met.by (g := 10) (new_ct _ (by assumption)) ?_; rintro q outs ⟨d, hd, rfl, rfl⟩)
      | (refine Met.by (g := 11) (events_ct _ _ _ (by omega) (by omega)) ?_; rintro q outs ⟨l, d, ⟨hl1, hl2⟩, rfl, rfl⟩)
      | (refine Met.by (g := 12) (all_ct _ _ (by assumption) (by assumption)) ?_; rintro q outs ⟨rfl, rfl⟩)
      | (refine Met.by (g := 17) (current_ct _ (by assumption)) ?_; rintro q outs ⟨rfl, rfl⟩)
      | (refine Met.by (g := 18) (check_ct _ (by omega)) ?_; rintro q outs ⟨rfl, rfl⟩)
      | (refine Vc.mk ?_ (Step.out ?_))
  · intro n hn
    have al := al n
    have dl := dl n
    repeat' first
      | (refine Step.mk ?_; conv => whnf)
      | (refine Vc.om ?_ ?_; first | omega | with_reducible rfl | with_reducible exact same_rfl | (simp only [bytes_2, bytes_3, bytes_4, bytes_5, bytes_9, bytes_12, bytes_21, bytes_22, bytes_25, bytes_27, bytes_29, bytes_32, bytes_33, bytes_34, bytes_38, bytes_40, bytes_44, bytes_45, bytes_52, bytes_53, bytes_54, bytes_58, bytes_59, bytes_60, bytes_93, bytes_97, bytes_100, true_and, and_true] <;> omega))
      | (refine NilB.mk fun b hb => Step.out ?_)
      | with_reducible trivial
      | exact noSh_bool _
      | exact noSh_lit _
      | exact noSh_int _ _
      | exact noSh_str _
      | with_reducible rfl
      | with_reducible exact same_rfl
      | (refine Wr.i64 ?_ ?_; omega)
      | (refine Wr.u8 ?_ ?_; omega)
      | (refine Wr.i32 ?_ ?_; omega)
      | (with_reducible refine Br.tt ?_)
      | (with_reducible refine Br.ff ?_)
      | (refine Br.dT ?_ ?_; omega)
      | (refine Br.dF ?_ ?_; omega)
      | (refine Br.d (fun h => ?_) (fun h => ?_))
      | (refine Br.swap ?_)
      | (refine Br.bnot ?_)
      | (refine Br.mk (fun h => Step.out ?_) (fun h => Step.out ?_))
      | (refine Two.mk (Step.out ?_) (Step.out ?_))
      | (refine Cp.mk fun q hq => Step.out ?_)
      | (refine Ovl.mk (by assumption) (Step.out ?_))
      | (refine CallOK.io1 (g := 11) (Step.out ?_))
      | (refine CallOK.ctF (g := 12) (Step.out ?_))
      | (refine CallOK.ctF (g := 17) (Step.out ?_))
      | (refine CallOK.of_ct (Step.out ?_))
      | (refine CallQ.of_ct (Step.out ?_))
      | (refine Met.by (g := 9) (few_ct _) ?_; rintro q outs ⟨rfl, rfl⟩)
      | (refine Met.by (g := 10) (new_ct _ (by assumption)) ?_; rintro q outs ⟨d, hd, rfl, rfl⟩)
      | (refine Met.by (g := 11) (events_ct _ _ _ (by omega) (by omega)) ?_; rintro q outs ⟨l, d, ⟨hl1, hl2⟩, rfl, rfl⟩)
      | (refine Met.by (g := 12) (all_ct _ _ (by assumption) (by assumption)) ?_; rintro q outs ⟨rfl, rfl⟩)
      | (refine Met.by (g := 17) (current_ct _ (by assumption)) ?_; rintro q outs ⟨rfl, rfl⟩)
      | (refine Met.by (g := 18) (check_ct _ (by omega)) ?_; rintro q outs ⟨rfl, rfl⟩)
      | (refine Vc.mk ?_ (Step.out ?_))
    · refine CodeOK.loopW hΓ hm ord4 [25] (by kernel_rfl) (α := Nat × La) (fun z => [(4, evs y), (7, recs G), (8, ints Dd), (10, i64 (pA n : Nat)), (11, i64 (pD n : Nat)), (12, i64 n), (13, i64 z.2.ver), (14, .str z.2.val), (15, i64 z.2.sv), (16, i64 z.2.st), (17, i64 z.2.into), (51, evs y), (52, i64 y.length), (53, i64 z.1)]) (fun z => []) 0 (fun z => z.1 ≤ y.length ∧ Q z.1 n z.2) (fun z => y.length - z.1) ?_ ?_
      · refine Again.by (0, .z) ⟨Nat.zero_le _, H.q0 _⟩ ?_
        repeat' first
          | (refine Step.mk ?_; conv => whnf)
          | (refine Vc.om ?_ ?_; first | omega | with_reducible rfl | with_reducible exact same_rfl | (simp only [bytes_2, bytes_3, bytes_4, bytes_5, bytes_9, bytes_12, bytes_21, bytes_22, bytes_25, bytes_27, bytes_29, bytes_32, bytes_33, bytes_34, bytes_38, bytes_40, bytes_44, bytes_45, bytes_52, bytes_53, bytes_54, bytes_58, bytes_59, bytes_60, bytes_93, bytes_97, bytes_100, true_and, and_true] <;> omega))
          | (refine NilB.mk fun b hb => Step.out ?_)
          | with_reducible trivial
          | exact noSh_bool _
          | exact noSh_lit _
          | exact noSh_int _ _
          | exact noSh_str _
          | with_reducible rfl
          | with_reducible exact same_rfl
          | (refine Wr.i64 ?_ ?_; omega)
          | (refine Wr.u8 ?_ ?_; omega)
          | (refine Wr.i32 ?_ ?_; omega)
          | (with_reducible refine Br.tt ?_)
          | (with_reducible refine Br.ff ?_)
          | (refine Br.dT ?_ ?_; omega)
          | (refine Br.dF ?_ ?_; omega)
          | (refine Br.d (fun h => ?_) (fun h => ?_))
          | (refine Br.swap ?_)
          | (refine Br.bnot ?_)
          | (refine Br.mk (fun h => Step.out ?_) (fun h => Step.out ?_))
          | (refine Two.mk (Step.out ?_) (Step.out ?_))
          | (refine Cp.mk fun q hq => Step.out ?_)
          | (refine Ovl.mk (by assumption) (Step.out ?_))
          | (refine CallOK.io1 (g := 11) (Step.out ?_))
          | (refine CallOK.ctF (g := 12) (Step.out ?_))
          | (refine CallOK.ctF (g := 17) (Step.out ?_))
          | (refine CallOK.of_ct (Step.out ?_))
          | (refine CallQ.of_ct (Step.out ?_))
          | (refine Met.by (g := 9) (few_ct _) ?_; rintro q outs ⟨rfl, rfl⟩)
          | (refine Met.by (g := 10) (new_ct _ (by assumption)) ?_; rintro q outs ⟨d, hd, rfl, rfl⟩)
          | (refine Met.by (g := 11) (events_ct _ _ _ (by omega) (by omega)) ?_; rintro q outs ⟨l, d, ⟨hl1, hl2⟩, rfl, rfl⟩)
          | (refine Met.by (g := 12) (all_ct _ _ (by assumption) (by assumption)) ?_; rintro q outs ⟨rfl, rfl⟩)
          | (refine Met.by (g := 17) (current_ct _ (by assumption)) ?_; rintro q outs ⟨rfl, rfl⟩)
          | (refine Met.by (g := 18) (check_ct _ (by omega)) ?_; rintro q outs ⟨rfl, rfl⟩)
          | (refine Vc.mk ?_ (Step.out ?_))
      · intro ⟨i, s⟩ ⟨hi, hq⟩
        dsimp only at hi hq ⊢
        have hvl := fun (h : i < y.length) => hy2 _ (getD_in (z := Ev.z) (i := (i : Int).toNat) h)
        have hat := fun h : i = y.length => H.at_ n s (by rw [← h]; exact hq)
        have en : ((n + 1 : Nat) : Int) = (n : Int) + 1 := rfl
        repeat' first
          | (refine Step.mk ?_; conv => whnf)
          | (refine Vc.om ?_ ?_; first | omega | with_reducible rfl | with_reducible exact same_rfl | (simp only [bytes_2, bytes_3, bytes_4, bytes_5, bytes_9, bytes_12, bytes_21, bytes_22, bytes_25, bytes_27, bytes_29, bytes_32, bytes_33, bytes_34, bytes_38, bytes_40, bytes_44, bytes_45, bytes_52, bytes_53, bytes_54, bytes_58, bytes_59, bytes_60, bytes_93, bytes_97, bytes_100, true_and, and_true] <;> omega))
          | (refine NilB.mk fun b hb => Step.out ?_)
          | with_reducible trivial
          | exact noSh_bool _
          | exact noSh_lit _
          | exact noSh_int _ _
          | exact noSh_str _
          | with_reducible rfl
          | with_reducible exact same_rfl
          | (refine Wr.i64 ?_ ?_; omega)
          | (refine Wr.u8 ?_ ?_; omega)
          | (refine Wr.i32 ?_ ?_; omega)
          | (with_reducible refine Br.tt ?_)
          | (with_reducible refine Br.ff ?_)
          | (refine Br.dT ?_ ?_; omega)
          | (refine Br.dF ?_ ?_; omega)
          | (refine Met.by (check_ct (y.getD (i : Int).toNat Ev.z) (by have := hvl (by omega); omega)) ?_; rintro q outs ⟨rfl, rfl⟩)
          | (refine Br.d (fun h => ?_) (fun h => ?_))
          | (refine Br.swap ?_)
          | (refine Br.bnot ?_)
          | (refine Br.mk (fun h => Step.out ?_) (fun h => Step.out ?_))
          | (refine Two.mk (Step.out ?_) (Step.out ?_))
          | (refine Cp.mk fun q hq => Step.out ?_)
          | (refine Ovl.mk (by assumption) (Step.out ?_))
          | (refine CallOK.io1 (g := 11) (Step.out ?_))
          | (refine CallOK.ctF (g := 12) (Step.out ?_))
          | (refine CallOK.ctF (g := 17) (Step.out ?_))
          | (refine CallOK.of_ct (Step.out ?_))
          | (refine CallQ.of_ct (Step.out ?_))
          | (refine Met.by (g := 9) (few_ct _) ?_; rintro q outs ⟨rfl, rfl⟩)
          | (refine Met.by (g := 10) (new_ct _ (by assumption)) ?_; rintro q outs ⟨d, hd, rfl, rfl⟩)
          | (refine Met.by (g := 11) (events_ct _ _ _ (by omega) (by omega)) ?_; rintro q outs ⟨l, d, ⟨hl1, hl2⟩, rfl, rfl⟩)
          | (refine Met.by (g := 12) (all_ct _ _ (by assumption) (by assumption)) ?_; rintro q outs ⟨rfl, rfl⟩)
          | (refine Met.by (g := 17) (current_ct _ (by assumption)) ?_; rintro q outs ⟨rfl, rfl⟩)
          | (refine Met.by (g := 18) (check_ct _ (by omega)) ?_; rintro q outs ⟨rfl, rfl⟩)
          | (refine Vc.mk ?_ (Step.out ?_))
        all_goals try simp only [Int.toNat_natCast, le_less] at *
        all_goals try
          refine Again.by (i + 1, s.step n (y.getD i Ev.z)) ⟨⟨by dsimp only; omega, H.q1 n i s (by omega) hq (fun _ _ _ => by omega)⟩, by dsimp only; omega⟩ ?_
          repeat' first
            | (refine Step.mk ?_; conv => whnf)
            | (refine Vc.om ?_ ?_; first | omega | with_reducible rfl | with_reducible exact same_rfl | (simp only [bytes_2, bytes_3, bytes_4, bytes_5, bytes_9, bytes_12, bytes_21, bytes_22, bytes_25, bytes_27, bytes_29, bytes_32, bytes_33, bytes_34, bytes_38, bytes_40, bytes_44, bytes_45, bytes_52, bytes_53, bytes_54, bytes_58, bytes_59, bytes_60, bytes_93, bytes_97, bytes_100, true_and, and_true] <;> omega))
            | (refine NilB.mk fun b hb => Step.out ?_)
            | with_reducible trivial
            | exact noSh_bool _
            | exact noSh_lit _
            | exact noSh_int _ _
            | exact noSh_str _
            | with_reducible rfl
            | with_reducible exact same_rfl
            | (refine Wr.i64 ?_ ?_; omega)
            | (refine Wr.u8 ?_ ?_; omega)
            | (refine Wr.i32 ?_ ?_; omega)
            | (with_reducible refine Br.tt ?_)
            | (with_reducible refine Br.ff ?_)
            | (refine Br.dT ?_ ?_; omega)
            | (refine Br.dF ?_ ?_; omega)
            | (refine Br.d (fun h => ?_) (fun h => ?_))
            | (refine Br.swap ?_)
            | (refine Br.bnot ?_)
            | (refine Br.mk (fun h => Step.out ?_) (fun h => Step.out ?_))
            | (refine Two.mk (Step.out ?_) (Step.out ?_))
            | (refine Cp.mk fun q hq => Step.out ?_)
            | (refine Ovl.mk (by assumption) (Step.out ?_))
            | (refine CallOK.io1 (g := 11) (Step.out ?_))
            | (refine CallOK.ctF (g := 12) (Step.out ?_))
            | (refine CallOK.ctF (g := 17) (Step.out ?_))
            | (refine CallOK.of_ct (Step.out ?_))
            | (refine CallQ.of_ct (Step.out ?_))
            | (refine Met.by (g := 9) (few_ct _) ?_; rintro q outs ⟨rfl, rfl⟩)
            | (refine Met.by (g := 10) (new_ct _ (by assumption)) ?_; rintro q outs ⟨d, hd, rfl, rfl⟩)
            | (refine Met.by (g := 11) (events_ct _ _ _ (by omega) (by omega)) ?_; rintro q outs ⟨l, d, ⟨hl1, hl2⟩, rfl, rfl⟩)
            | (refine Met.by (g := 12) (all_ct _ _ (by assumption) (by assumption)) ?_; rintro q outs ⟨rfl, rfl⟩)
            | (refine Met.by (g := 17) (current_ct _ (by assumption)) ?_; rintro q outs ⟨rfl, rfl⟩)
            | (refine Met.by (g := 18) (check_ct _ (by omega)) ?_; rintro q outs ⟨rfl, rfl⟩)
            | (refine Vc.mk ?_ (Step.out ?_))
          all_goals first
            | (simp [-List.getD_eq_getElem?_getD, La.step, La.reg, La.sta, *]; done)
            | (simp_all [-List.getD_eq_getElem?_getD, La.step, La.reg, La.sta]; done)
            | exact absurd (chk_kind ‹(y.getD i Ev.z).chk = 0›) (by omega)
        all_goals have hat := hat (by omega)
        all_goals first
          | (have hc := hat.no (by omega)
             refine Again.by (n + 1) ⟨by omega, by omega⟩ ?_
             rw [en, hc.1, hc.2]
             ((try dsimp only); repeat' first | (refine Step.mk ?_; conv => whnf) | (refine Vc.om ?_ ?_; first | omega | with_reducible rfl | with_reducible exact same_rfl) | with_reducible trivial | with_reducible rfl)
             done)
          | skip
        all_goals obtain ⟨y1, y2, y3⟩ := hat.yes (by omega)
        all_goals try (exfalso; omega)
        all_goals first
          | (refine Again.by (n + 1) ⟨by omega, by omega⟩ ?_
             obtain ⟨z1, z2, z3⟩ := hat.dead (by omega) ‹_›
             rw [en, y3, z3]
             ((try dsimp only); repeat' first | (refine Step.mk ?_; conv => whnf) | (refine Vc.om ?_ ?_; first | omega | with_reducible rfl | with_reducible exact same_rfl) | with_reducible trivial | with_reducible rfl)
             done)
          | (refine Again.by (n + 1) ⟨by omega, by omega⟩ ?_
             have z := hat.live (by omega) ‹_›
             rw [en, y3, z]
             ((try dsimp only); repeat' first | (refine Step.mk ?_; conv => whnf) | (refine Vc.om ?_ ?_; first | omega | with_reducible rfl | with_reducible exact same_rfl) | with_reducible trivial | with_reducible rfl)
             done)
          | (rw [y2]; exact ⟨Int.le_refl 0, (by decide : (0 : Int) < 1)⟩)
          | (exfalso; rw [y2] at h; exact h rfl)
          | (exfalso
             obtain ⟨z1, z2, z3⟩ := hat.dead (by omega) ‹_›
             omega)
    · obtain rfl : n = 5 := by omega
      have ho := H.out
      refine CodeOK.loopW hΓ hm ord4 [] (by kernel_rfl) (α := Nat) (fun j => [(213, .tab 3 (G.length - pA 5) fun j => recF (G.getD (pA 5 + j) (0, 0, []))), (214, i64 ((G.length - pA 5 : Nat) : Int)), (215, i64 j)]) (fun j => []) 0 (fun j => j ≤ G.length - pA 5) (fun j => G.length - pA 5 - j) ?_ ?_
      · refine Again.by 0 (Nat.zero_le _) ?_
        repeat' first
          | (refine Step.mk ?_; conv => whnf)
          | (refine Vc.om ?_ ?_; first | omega | with_reducible rfl | with_reducible exact same_rfl | (simp only [bytes_2, bytes_3, bytes_4, bytes_5, bytes_9, bytes_12, bytes_21, bytes_22, bytes_25, bytes_27, bytes_29, bytes_32, bytes_33, bytes_34, bytes_38, bytes_40, bytes_44, bytes_45, bytes_52, bytes_53, bytes_54, bytes_58, bytes_59, bytes_60, bytes_93, bytes_97, bytes_100, true_and, and_true] <;> omega))
          | (refine NilB.mk fun b hb => Step.out ?_)
          | with_reducible trivial
          | exact noSh_bool _
          | exact noSh_lit _
          | exact noSh_int _ _
          | exact noSh_str _
          | with_reducible rfl
          | with_reducible exact same_rfl
          | (refine Wr.i64 ?_ ?_; omega)
          | (refine Wr.u8 ?_ ?_; omega)
          | (refine Wr.i32 ?_ ?_; omega)
          | (with_reducible refine Br.tt ?_)
          | (with_reducible refine Br.ff ?_)
          | (refine Br.dT ?_ ?_; omega)
          | (refine Br.dF ?_ ?_; omega)
          | (refine Br.d (fun h => ?_) (fun h => ?_))
          | (refine Br.swap ?_)
          | (refine Br.bnot ?_)
          | (refine Br.mk (fun h => Step.out ?_) (fun h => Step.out ?_))
          | (refine Two.mk (Step.out ?_) (Step.out ?_))
          | (refine Cp.mk fun q hq => Step.out ?_)
          | (refine Ovl.mk (by assumption) (Step.out ?_))
          | (refine CallOK.io1 (g := 11) (Step.out ?_))
          | (refine CallOK.ctF (g := 12) (Step.out ?_))
          | (refine CallOK.ctF (g := 17) (Step.out ?_))
          | (refine CallOK.of_ct (Step.out ?_))
          | (refine CallQ.of_ct (Step.out ?_))
          | (refine Met.by (g := 9) (few_ct _) ?_; rintro q outs ⟨rfl, rfl⟩)
          | (refine Met.by (g := 10) (new_ct _ (by assumption)) ?_; rintro q outs ⟨d, hd, rfl, rfl⟩)
          | (refine Met.by (g := 11) (events_ct _ _ _ (by omega) (by omega)) ?_; rintro q outs ⟨l, d, ⟨hl1, hl2⟩, rfl, rfl⟩)
          | (refine Met.by (g := 12) (all_ct _ _ (by assumption) (by assumption)) ?_; rintro q outs ⟨rfl, rfl⟩)
          | (refine Met.by (g := 17) (current_ct _ (by assumption)) ?_; rintro q outs ⟨rfl, rfl⟩)
          | (refine Met.by (g := 18) (check_ct _ (by omega)) ?_; rintro q outs ⟨rfl, rfl⟩)
          | (refine Vc.mk ?_ (Step.out ?_))
        · exact ⟨rfl, fun _ _ => rfl⟩
        · rfl
      · intro j hj
        repeat' first
          | (refine Step.mk ?_; conv => whnf)
          | (refine Vc.om ?_ ?_; first | omega | with_reducible rfl | with_reducible exact same_rfl | (simp only [bytes_2, bytes_3, bytes_4, bytes_5, bytes_9, bytes_12, bytes_21, bytes_22, bytes_25, bytes_27, bytes_29, bytes_32, bytes_33, bytes_34, bytes_38, bytes_40, bytes_44, bytes_45, bytes_52, bytes_53, bytes_54, bytes_58, bytes_59, bytes_60, bytes_93, bytes_97, bytes_100, true_and, and_true] <;> omega))
          | (refine NilB.mk fun b hb => Step.out ?_)
          | with_reducible trivial
          | exact noSh_bool _
          | exact noSh_lit _
          | exact noSh_int _ _
          | exact noSh_str _
          | with_reducible rfl
          | with_reducible exact same_rfl
          | (refine Wr.i64 ?_ ?_; omega)
          | (refine Wr.u8 ?_ ?_; omega)
          | (refine Wr.i32 ?_ ?_; omega)
          | (with_reducible refine Br.tt ?_)
          | (with_reducible refine Br.ff ?_)
          | (refine Br.dT ?_ ?_; omega)
          | (refine Br.dF ?_ ?_; omega)
          | (refine Br.d (fun h => ?_) (fun h => ?_))
          | (refine Br.swap ?_)
          | (refine Br.bnot ?_)
          | (refine Br.mk (fun h => Step.out ?_) (fun h => Step.out ?_))
          | (refine Two.mk (Step.out ?_) (Step.out ?_))
          | (refine Cp.mk fun q hq => Step.out ?_)
          | (refine Ovl.mk (by assumption) (Step.out ?_))
          | (refine CallOK.io1 (g := 11) (Step.out ?_))
          | (refine CallOK.ctF (g := 12) (Step.out ?_))
          | (refine CallOK.ctF (g := 17) (Step.out ?_))
          | (refine CallOK.of_ct (Step.out ?_))
          | (refine CallQ.of_ct (Step.out ?_))
          | (refine Met.by (g := 9) (few_ct _) ?_; rintro q outs ⟨rfl, rfl⟩)
          | (refine Met.by (g := 10) (new_ct _ (by assumption)) ?_; rintro q outs ⟨d, hd, rfl, rfl⟩)
          | (refine Met.by (g := 11) (events_ct _ _ _ (by omega) (by omega)) ?_; rintro q outs ⟨l, d, ⟨hl1, hl2⟩, rfl, rfl⟩)
          | (refine Met.by (g := 12) (all_ct _ _ (by assumption) (by assumption)) ?_; rintro q outs ⟨rfl, rfl⟩)
          | (refine Met.by (g := 17) (current_ct _ (by assumption)) ?_; rintro q outs ⟨rfl, rfl⟩)
          | (refine Met.by (g := 18) (check_ct _ (by omega)) ?_; rintro q outs ⟨rfl, rfl⟩)
          | (refine Vc.mk ?_ (Step.out ?_))
        · exfalso
          have := ho (pA 5 + (j : Int).toNat) (by simp only [Int.toNat_natCast]; omega) (by omega)
          omega
        · refine Again.by (j + 1) ⟨by omega, by omega⟩ ?_
          repeat' first
            | (refine Step.mk ?_; conv => whnf)
            | (refine Vc.om ?_ ?_; first | omega | with_reducible rfl | with_reducible exact same_rfl | (simp only [bytes_2, bytes_3, bytes_4, bytes_5, bytes_9, bytes_12, bytes_21, bytes_22, bytes_25, bytes_27, bytes_29, bytes_32, bytes_33, bytes_34, bytes_38, bytes_40, bytes_44, bytes_45, bytes_52, bytes_53, bytes_54, bytes_58, bytes_59, bytes_60, bytes_93, bytes_97, bytes_100, true_and, and_true] <;> omega))
            | (refine NilB.mk fun b hb => Step.out ?_)
            | with_reducible trivial
            | exact noSh_bool _
            | exact noSh_lit _
            | exact noSh_int _ _
            | exact noSh_str _
            | with_reducible rfl
            | with_reducible exact same_rfl
            | (refine Wr.i64 ?_ ?_; omega)
            | (refine Wr.u8 ?_ ?_; omega)
            | (refine Wr.i32 ?_ ?_; omega)
            | (with_reducible refine Br.tt ?_)
            | (with_reducible refine Br.ff ?_)
            | (refine Br.dT ?_ ?_; omega)
            | (refine Br.dF ?_ ?_; omega)
            | (refine Br.d (fun h => ?_) (fun h => ?_))
            | (refine Br.swap ?_)
            | (refine Br.bnot ?_)
            | (refine Br.mk (fun h => Step.out ?_) (fun h => Step.out ?_))
            | (refine Two.mk (Step.out ?_) (Step.out ?_))
            | (refine Cp.mk fun q hq => Step.out ?_)
            | (refine Ovl.mk (by assumption) (Step.out ?_))
            | (refine CallOK.io1 (g := 11) (Step.out ?_))
            | (refine CallOK.ctF (g := 12) (Step.out ?_))
            | (refine CallOK.ctF (g := 17) (Step.out ?_))
            | (refine CallOK.of_ct (Step.out ?_))
            | (refine CallQ.of_ct (Step.out ?_))
            | (refine Met.by (g := 9) (few_ct _) ?_; rintro q outs ⟨rfl, rfl⟩)
            | (refine Met.by (g := 10) (new_ct _ (by assumption)) ?_; rintro q outs ⟨d, hd, rfl, rfl⟩)
            | (refine Met.by (g := 11) (events_ct _ _ _ (by omega) (by omega)) ?_; rintro q outs ⟨l, d, ⟨hl1, hl2⟩, rfl, rfl⟩)
            | (refine Met.by (g := 12) (all_ct _ _ (by assumption) (by assumption)) ?_; rintro q outs ⟨rfl, rfl⟩)
            | (refine Met.by (g := 17) (current_ct _ (by assumption)) ?_; rintro q outs ⟨rfl, rfl⟩)
            | (refine Met.by (g := 18) (check_ct _ (by omega)) ?_; rintro q outs ⟨rfl, rfl⟩)
            | (refine Vc.mk ?_ (Step.out ?_))
end Kx
