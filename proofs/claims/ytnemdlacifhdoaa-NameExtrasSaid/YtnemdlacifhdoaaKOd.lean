/-
  The statements on names: what is dropped.
  No condition beyond those written in each theorem.
-/
import Derived.Test.YtnemdlacifhdoaaKOc
open Go Sx Go.Proofs
set_option linter.unusedSimpArgs false
set_option linter.unusedVariables false
namespace Kx
theorem dr_endP {s o a : Str} {i : Nat} (hi : i ≤ s.length) (hn : ¬(i : Int) < s.length) (h2 : o.length ≤ 2 * i + 1) (h3 : foldedC s → DrI (s.take i) o) (ha1 : a.length ≤ 1) (ha2 : endB a = true) : (o ++ a).length ≤ 2 * s.length + 2 ∧ (foldedC s → (∀ y ∈ o ++ a, isPrn y = true) ∧ toks ((o ++ a).flatMap plainS) = toks s) := by
  refine ⟨by simp only [List.length_append]; omega, fun hf => ?_⟩
  have hp : ∀ y ∈ o ++ a, isPrn y = true := fun y hy => by
    rcases List.mem_append.1 hy with hy | hy
    · exact (h3 hf).prn y hy
    · simp only [endB, Bool.and_eq_true, List.all_eq_true] at ha2
      exact ha2.1 y hy
  have := ((h3 hf).done ha2).2
  rw [(rawL_prn _ hp).2, show i = s.length by omega, List.take_length] at this
  exact ⟨hp, this⟩
theorem dressP_ct (d : Dk) (s : Str) (hs : s.length ≤ 100000) : Ct Try.prog 16 [d.b, .str s] fun r outs => ∃ x d', (x.length ≤ 2 * s.length + 2 ∧ (foldedC s → (∀ y ∈ x, isPrn y = true) ∧ toks (x.flatMap plainS) = toks s)) ∧ r = .str x ∧ outs = [Dk.b d'] := by
  refine .some2 (.of_W (fn := Try.f16) hΓ hm (by rfl) [] [] (by kernel_rfl) (Step.out ?_))
  repeat' first
    | (refine Step.mk ?_; conv => whnf)
    | (refine Vc.om ?_ ?_; first | omega | with_reducible rfl | with_reducible exact same_rfl | (simp only [bytes_2, bytes_3, bytes_4, bytes_5, bytes_9, bytes_12, bytes_21, bytes_22, bytes_25, bytes_27, bytes_28, bytes_29, bytes_30, bytes_38, bytes_43, bytes_44, bytes_47, bytes_50, bytes_51, bytes_52, bytes_54, bytes_55, bytes_66, bytes_68, bytes_69, bytes_70, bytes_83, bytes_84, bytes_85, bytes_86, bytes_97, bytes_103]; omega))
    | (refine NilB.mk fun b hb => Step.out ?_)
    | with_reducible trivial
    | exact noSh_bool _
    | exact noSh_lit _
    | exact noSh_int _ _
    | exact noSh_str _
    | with_reducible rfl
    | with_reducible exact same_rfl
    | (refine Wr.i64 ?_ ?_; omega)
    | (refine Wr.u8 ?_ ?_; omega)
    | (refine Wr.i32 ?_ ?_; omega)
    | (with_reducible refine Br.tt ?_)
    | (with_reducible refine Br.ff ?_)
    | (refine Br.dT ?_ ?_; omega)
    | (refine Br.dF ?_ ?_; omega)
    | (refine Met.by (picksP_ct (fun s => s.length ≤ 1 ∧ endB s = true) _ [[], [], [32], [45]] (by decide +kernel) (by first | omega | decide | (simp; done) | (simp; omega)) (by first | omega | decide | (simp; done) | (simp; omega))) ?_; rintro q outs ⟨o, d, ⟨ho1, ho2⟩, rfl, rfl⟩)
    | (refine Br.d (fun h => ?_) (fun h => ?_))
    | (refine Br.swap ?_)
    | (refine Br.bnot ?_)
    | (refine Br.mk (fun h => Step.out ?_) (fun h => Step.out ?_))
    | (refine Two.mk (Step.out ?_) (Step.out ?_))
    | (refine CallOK.io1F (g := 17) (Step.out ?_))
    | (refine CallOK.io1 (g := 18) (Step.out ?_))
    | (refine CallOK.of_ct (Step.out ?_))
    | (refine Met.by (g := 17) (picks_ct _ [] (by first | omega | decide | (simp; done) | (simp; omega)) (by first | omega | decide | (simp; done) | (simp; omega))) ?_; rintro q outs ⟨x, d, hx, rfl, rfl⟩)
    | (refine Met.by (g := 18) (one_ct _ _) ?_; rintro q outs ⟨x, d, hx, rfl, rfl⟩)
    | (refine Vc.mk ?_ (Step.out ?_))
  refine CodeOK.loopW hΓ hm [] [] (by kernel_rfl) (α := Dk × Nat × Str) (fun z => [(0, .loc 0 0), (1, .str s), (5, .str z.2.2), (6, i64 z.2.1)]) (fun z => [(0, .var z.1.ls)]) 1 (fun z => z.2.1 ≤ s.length ∧ z.2.2.length ≤ 2 * z.2.1 + 1 ∧ (foldedC s → DrI (s.take z.2.1) z.2.2)) (fun z => s.length - z.2.1) ?_ ?_
  · refine Again.by (d, 0, o) ⟨Nat.zero_le _, by dsimp only; omega, fun _ => DrI.start ho2⟩ ?_
    repeat' first
      | (refine Step.mk ?_; conv => whnf)
      | (refine Vc.om ?_ ?_; first | omega | with_reducible rfl | with_reducible exact same_rfl | (simp only [bytes_2, bytes_3, bytes_4, bytes_5, bytes_9, bytes_12, bytes_21, bytes_22, bytes_25, bytes_27, bytes_28, bytes_29, bytes_30, bytes_38, bytes_43, bytes_44, bytes_47, bytes_50, bytes_51, bytes_52, bytes_54, bytes_55, bytes_66, bytes_68, bytes_69, bytes_70, bytes_83, bytes_84, bytes_85, bytes_86, bytes_97, bytes_103]; omega))
      | (refine NilB.mk fun b hb => Step.out ?_)
      | with_reducible trivial
      | exact noSh_bool _
      | exact noSh_lit _
      | exact noSh_int _ _
      | exact noSh_str _
      | with_reducible rfl
      | with_reducible exact same_rfl
      | (refine Wr.i64 ?_ ?_; omega)
      | (refine Wr.u8 ?_ ?_; omega)
      | (refine Wr.i32 ?_ ?_; omega)
      | (with_reducible refine Br.tt ?_)
      | (with_reducible refine Br.ff ?_)
      | (refine Br.dT ?_ ?_; omega)
      | (refine Br.dF ?_ ?_; omega)
      | (refine Br.d (fun h => ?_) (fun h => ?_))
      | (refine Br.swap ?_)
      | (refine Br.bnot ?_)
      | (refine Br.mk (fun h => Step.out ?_) (fun h => Step.out ?_))
      | (refine Two.mk (Step.out ?_) (Step.out ?_))
      | (refine CallOK.io1F (g := 17) (Step.out ?_))
      | (refine CallOK.io1 (g := 18) (Step.out ?_))
      | (refine CallOK.of_ct (Step.out ?_))
      | (refine Met.by (g := 17) (picks_ct _ [] (by first | omega | decide | (simp; done) | (simp; omega)) (by first | omega | decide | (simp; done) | (simp; omega))) ?_; rintro q outs ⟨x, d, hx, rfl, rfl⟩)
      | (refine Met.by (g := 18) (one_ct _ _) ?_; rintro q outs ⟨x, d, hx, rfl, rfl⟩)
      | (refine Vc.mk ?_ (Step.out ?_))
  · intro ⟨d, i, o⟩ ⟨h1, h2, h3⟩
    dsimp only at h1 h2 h3 ⊢
    repeat' first
      | (refine Step.mk ?_; conv => whnf)
      | (refine Vc.om ?_ ?_; first | omega | with_reducible rfl | with_reducible exact same_rfl | (simp only [bytes_2, bytes_3, bytes_4, bytes_5, bytes_9, bytes_12, bytes_21, bytes_22, bytes_25, bytes_27, bytes_28, bytes_29, bytes_30, bytes_38, bytes_43, bytes_44, bytes_47, bytes_50, bytes_51, bytes_52, bytes_54, bytes_55, bytes_66, bytes_68, bytes_69, bytes_70, bytes_83, bytes_84, bytes_85, bytes_86, bytes_97, bytes_103]; omega))
      | (refine NilB.mk fun b hb => Step.out ?_)
      | with_reducible trivial
      | exact noSh_bool _
      | exact noSh_lit _
      | exact noSh_int _ _
      | exact noSh_str _
      | with_reducible rfl
      | with_reducible exact same_rfl
      | (refine Wr.i64 ?_ ?_; omega)
      | (refine Wr.u8 ?_ ?_; omega)
      | (refine Wr.i32 ?_ ?_; omega)
      | (with_reducible refine Br.tt ?_)
      | (with_reducible refine Br.ff ?_)
      | (refine Br.dT ?_ ?_; omega)
      | (refine Br.dF ?_ ?_; omega)
      | (refine Met.by (picksP_ct (fun s => s.length ≤ 2 ∧ sepB s = true) _ [[32], [45], [44, 32], [46], [32, 32], [47]] (by decide +kernel) (by first | omega | decide | (simp; done) | (simp; omega)) (by first | omega | decide | (simp; done) | (simp; omega))) ?_; rintro q outs ⟨a, d, ⟨ha1, ha2⟩, rfl, rfl⟩)
      | (refine Met.by (picksP_ct (fun s => s.length ≤ 1 ∧ endB s = true) _ [[], [], [32], [46]] (by decide +kernel) (by first | omega | decide | (simp; done) | (simp; omega)) (by first | omega | decide | (simp; done) | (simp; omega))) ?_; rintro q outs ⟨a, d, ⟨ha1, ha2⟩, rfl, rfl⟩)
      | (refine Lf.by [(s.getD (i : Int).toNat 0) - 32] ⟨rfl, one_dn ‹_› ‹_›⟩ ?_)
      | (refine Lf.by [(s.getD (i : Int).toNat 0)] ⟨rfl, one_by _⟩ ?_)
      | (refine Vc.om ?_ ?_; focus ((simp only [List.length_append, List.length_cons, List.length_nil]; omega); done))
      | (refine Wr.i64 ?_ ?_; focus ((simp only [List.length_append, List.length_cons, List.length_nil]; omega); done))
      | (refine Wr.u8 ?_ ?_; focus ((simp only [List.length_append, List.length_cons, List.length_nil]; omega); done))
      | (refine Br.dT ?_ ?_; focus ((simp only [List.length_append, List.length_cons, List.length_nil]; omega); done))
      | (refine Br.dF ?_ ?_; focus ((simp only [List.length_append, List.length_cons, List.length_nil]; omega); done))
      | (refine Again.by (d, i + 1, o ++ a) (dr_sep (by omega) (by omega) h2 h3 ha1 ha2) ?_)
      | (exact trivial)
      | (refine Br.d (fun h => ?_) (fun h => ?_))
      | (refine Br.swap ?_)
      | (refine Br.bnot ?_)
      | (refine Br.mk (fun h => Step.out ?_) (fun h => Step.out ?_))
      | (refine Two.mk (Step.out ?_) (Step.out ?_))
      | (refine CallOK.io1F (g := 17) (Step.out ?_))
      | (refine CallOK.io1 (g := 18) (Step.out ?_))
      | (refine CallOK.of_ct (Step.out ?_))
      | (refine Met.by (g := 17) (picks_ct _ [] (by first | omega | decide | (simp; done) | (simp; omega)) (by first | omega | decide | (simp; done) | (simp; omega))) ?_; rintro q outs ⟨x, d, hx, rfl, rfl⟩)
      | (refine Met.by (g := 18) (one_ct _ _) ?_; rintro q outs ⟨x, d, hx, rfl, rfl⟩)
      | (refine Vc.mk ?_ (Step.out ?_))
    all_goals try (first
      | (refine Again.by (d, i + 1, o ++ [(s.getD (i : Int).toNat 0) - 32]) (dr_ch ((s.getD (i : Int).toNat 0) - 32) (by omega) (fun _ => ⟨(low_up (s.getD (i : Int).toNat 0) (by omega) (by omega)).1, (low_up (s.getD (i : Int).toNat 0) (by omega) (by omega)).2.1⟩) h2 h3).1 ?_; ((try dsimp only); repeat' first | (refine Step.mk ?_; conv => whnf) | (refine Vc.om ?_ ?_; first | omega | with_reducible rfl | with_reducible exact same_rfl) | with_reducible trivial | with_reducible rfl); done)
      | (refine Again.by (d, i + 1, o ++ [(s.getD (i : Int).toNat 0) - 32] ++ [39]) (dr_ch ((s.getD (i : Int).toNat 0) - 32) (by omega) (fun _ => ⟨(low_up (s.getD (i : Int).toNat 0) (by omega) (by omega)).1, (low_up (s.getD (i : Int).toNat 0) (by omega) (by omega)).2.1⟩) h2 h3).2 ?_; ((try dsimp only); repeat' first | (refine Step.mk ?_; conv => whnf) | (refine Vc.om ?_ ?_; first | omega | with_reducible rfl | with_reducible exact same_rfl) | with_reducible trivial | with_reducible rfl); done)
      | (refine Again.by (d, i + 1, o ++ [(s.getD (i : Int).toNat 0)]) (dr_ch (s.getD (i : Int).toNat 0) (by omega) (plain_an (s.getD (i : Int).toNat 0)) h2 h3).1 ?_; ((try dsimp only); repeat' first | (refine Step.mk ?_; conv => whnf) | (refine Vc.om ?_ ?_; first | omega | with_reducible rfl | with_reducible exact same_rfl) | with_reducible trivial | with_reducible rfl); done)
      | (refine Again.by (d, i + 1, o ++ [(s.getD (i : Int).toNat 0)] ++ [39]) (dr_ch (s.getD (i : Int).toNat 0) (by omega) (plain_an (s.getD (i : Int).toNat 0)) h2 h3).2 ?_; ((try dsimp only); repeat' first | (refine Step.mk ?_; conv => whnf) | (refine Vc.om ?_ ?_; first | omega | with_reducible rfl | with_reducible exact same_rfl) | with_reducible trivial | with_reducible rfl); done))
    · refine Lf2.by (o ++ a) d (dr_endP h1 ‹_› h2 h3 ha1 ha2) ?_
      repeat' first
        | (refine Step.mk ?_; conv => whnf)
        | (refine Vc.om ?_ ?_; first | omega | with_reducible rfl | with_reducible exact same_rfl | (simp only [bytes_2, bytes_3, bytes_4, bytes_5, bytes_9, bytes_12, bytes_21, bytes_22, bytes_25, bytes_27, bytes_28, bytes_29, bytes_30, bytes_38, bytes_43, bytes_44, bytes_47, bytes_50, bytes_51, bytes_52, bytes_54, bytes_55, bytes_66, bytes_68, bytes_69, bytes_70, bytes_83, bytes_84, bytes_85, bytes_86, bytes_97, bytes_103]; omega))
        | (refine NilB.mk fun b hb => Step.out ?_)
        | with_reducible trivial
        | exact noSh_bool _
        | exact noSh_lit _
        | exact noSh_int _ _
        | exact noSh_str _
        | with_reducible rfl
        | with_reducible exact same_rfl
        | (refine Wr.i64 ?_ ?_; omega)
        | (refine Wr.u8 ?_ ?_; omega)
        | (refine Wr.i32 ?_ ?_; omega)
        | (with_reducible refine Br.tt ?_)
        | (with_reducible refine Br.ff ?_)
        | (refine Br.dT ?_ ?_; omega)
        | (refine Br.dF ?_ ?_; omega)
        | (refine Br.d (fun h => ?_) (fun h => ?_))
        | (refine Br.swap ?_)
        | (refine Br.bnot ?_)
        | (refine Br.mk (fun h => Step.out ?_) (fun h => Step.out ?_))
        | (refine Two.mk (Step.out ?_) (Step.out ?_))
        | (refine CallOK.io1F (g := 17) (Step.out ?_))
        | (refine CallOK.io1 (g := 18) (Step.out ?_))
        | (refine CallOK.of_ct (Step.out ?_))
        | (refine Met.by (g := 17) (picks_ct _ [] (by first | omega | decide | (simp; done) | (simp; omega)) (by first | omega | decide | (simp; done) | (simp; omega))) ?_; rintro q outs ⟨x, d, hx, rfl, rfl⟩)
        | (refine Met.by (g := 18) (one_ct _ _) ?_; rintro q outs ⟨x, d, hx, rfl, rfl⟩)
        | (refine Vc.mk ?_ (Step.out ?_))
/-- A rich text: of it is kept what is kept of the tokens T. -/
structure Rich (r : Ru) (T : List Str) (w : Str) : Prop where
  prn : ∀ y ∈ w, isPrn y = true
  kp : keepL r (toks (w.flatMap plainS)) = keepL r T
def pickB (u : Str) : Bool := u.all isPrn && (match u.flatMap plainS with
  | [] => true
  | y :: v => decide (y = 32) && (toks v).all fun t => decide (lettersS t = []))
theorem keep_none {r : Ru} : ∀ {l : List Str}, (l.all fun t => decide (lettersS t = [])) = true → keepL r l = []
  | [], _ => rfl
  | t :: l, h => by
    simp only [List.all_cons, Bool.and_eq_true, decide_eq_true_eq] at h
    have e : keepL r (t :: l) = keepL r [t] ++ keepL r l := keepL_app r [t] l
    rw [e, keepL_one, if_pos h.1, keep_none h.2]; rfl
theorem Rich.pick {r : Ru} {T : List Str} {w u : Str} (H : Rich r T w) (h : pickB u = true) : Rich r T (w ++ u) := by
  simp only [pickB, Bool.and_eq_true, List.all_eq_true] at h
  refine ⟨fun y hy => (List.mem_append.1 hy).elim (H.prn y) (h.1 y), ?_⟩
  rw [List.flatMap_append]
  have h2 := h.2
  split at h2
  · rename_i e; rw [e, List.append_nil]; exact H.kp
  · rename_i y v e
    simp only [Bool.and_eq_true, decide_eq_true_eq] at h2
    rw [e, h2.1]
    unfold toks
    rw [toks_sp2, keepL_app]
    have := H.kp
    unfold toks at this
    rw [this, keep_none h2.2, List.append_nil]
theorem Rich.title {r : Ru} {T : List Str} {w t : Str} (H : Rich r T w) (ht : Lett t) (hd : hasS r.t t = true) : Rich r T (t ++ [46, 32] ++ w) := by
  have hfc : foldedC t := fun x hx => .inl (low_an (ht.lo x hx))
  have hpt : ∀ x ∈ t, isPrn x = true := fun x hx => (plain_an x (hfc x hx)).2
  have hft : t.flatMap plainS = t := by rw [← (rawL_prn t hpt).2]; exact (rawL_an t hfc).2
  refine ⟨fun y hy => ?_, ?_⟩
  · rcases List.mem_append.1 hy with hy | hy
    · rcases List.mem_append.1 hy with hy | hy
      · exact hpt y hy
      · exact List.all_eq_true.1 (by decide +kernel : ([46, 32] : Str).all isPrn = true) y hy
    · exact H.prn y hy
  · rw [List.flatMap_append, List.flatMap_append, hft]
    have e : (t ++ ([46, 32] : Str).flatMap plainS ++ w.flatMap plainS) = t ++ 32 :: (32 :: w.flatMap plainS) := by
      rw [show ([46, 32] : Str).flatMap plainS = [32, 32] by decide +kernel]; simp
    rw [e]
    have e2 : toks (t ++ 32 :: (32 :: w.flatMap plainS)) = [t] ++ toks (w.flatMap plainS) := by
      have h1 := toks_sp2 t (32 :: w.flatMap plainS) []
      have h2 := toks_one ht.tok
      have h3 : toks (32 :: w.flatMap plainS) = toks (w.flatMap plainS) := by unfold toks; rw [toksF_sp]; simp [opt]
      rw [h3] at h1
      unfold toks at h2 ⊢
      rw [h1, h2]; rfl
    rw [e2, keepL_app, H.kp, keep_lett ht, if_pos hd]; rfl
theorem norm_same {r : Ru} {s t : Str} (h1 : foldE s = foldE t) (h2 : normL r s = normL r t) : normE r s = normE r t ∧ normO r s = normO r t := by
  have e : normE r s = normE r t := by unfold normE normOK; rw [h1, h2]
  exact ⟨e, by simp only [normO, e, h2]⟩
theorem rich_law {r : Ru} {T : List Str} {w : Str} (hT : ∀ t ∈ T, Lett t) (h3 : T.length ≤ 3) (H : Rich r T w) (hl : w.length ≤ 64) : normE r (joinS [32] T) = normE r w ∧ normO r (joinS [32] T) = normO r w := by
  have hf := low_fixed (lett_tokL hT) fun y hy => (hT y hy).lo
  have hj := join_len8 T fun t ht => (hT t ht).le
  obtain ⟨e1, e2⟩ := fixed_fold hf (by omega)
  obtain ⟨v1, v2⟩ := rawL_prn w H.prn
  have hv : validS w = true := by rw [validS, v1, Bool.true_and]; exact decide_eq_true hl
  refine norm_same (e1.trans (by rw [Sx.foldE, if_pos hv])) ?_
  show keepL r (toks (foldO (joinS [32] T))) = keepL r (toks (foldO w))
  rw [show foldO (joinS [32] T) = joinS [32] T from e2, toks_join T (lett_tokL hT)]
  have : foldO w = foldS w := by rw [Sx.foldO, if_pos hv]
  rw [this, foldS, toks_join _ (toks_tokL _), v2, H.kp]
theorem deck_title {r : Ru} (h : RuD r) {i : Nat} (hi : i < r.t.length) : Lett (r.t.getD i []) ∧ hasS r.t (r.t.getD i []) = true := by
  have q : (r.t.all fun t => (decide (1 ≤ t.length) && decide (t.length ≤ 8) && t.all isLow) && hasS r.t t) = true := by
    rcases h.t with e | e <;> rw [e] <;> decide +kernel
  have := List.all_eq_true.1 q _ (getD_in (z := []) hi)
  simp only [Bool.and_eq_true, decide_eq_true_eq, List.all_eq_true] at this
  exact ⟨⟨this.1.1.1, this.1.1.2, this.1.2⟩, this.2⟩
theorem extras_ct (l : List Int) : Ct Try.prog 3 [ints l] fun q _ => Yes q := by
  refine .of_W (fn := Try.f3) hΓ hm (by rfl) [] [] (by kernel_rfl) (Step.out ?_)
  repeat' first
    | (refine Step.mk ?_; conv => whnf)
    | (refine Vc.om ?_ ?_; first | omega | with_reducible rfl | with_reducible exact same_rfl | (simp only [bytes_2, bytes_3, bytes_4, bytes_5, bytes_9, bytes_12, bytes_21, bytes_22, bytes_25, bytes_27, bytes_28, bytes_29, bytes_30, bytes_38, bytes_43, bytes_44, bytes_47, bytes_50, bytes_51, bytes_52, bytes_54, bytes_55, bytes_66, bytes_68, bytes_69, bytes_70, bytes_83, bytes_84, bytes_85, bytes_86, bytes_97, bytes_103]; omega))
    | (refine NilB.mk fun b hb => Step.out ?_)
    | with_reducible trivial
    | exact noSh_bool _
    | exact noSh_lit _
    | exact noSh_int _ _
    | exact noSh_str _
    | with_reducible rfl
    | with_reducible exact same_rfl
    | (refine Wr.i64 ?_ ?_; omega)
    | (refine Wr.u8 ?_ ?_; omega)
    | (refine Wr.i32 ?_ ?_; omega)
    | (with_reducible refine Br.tt ?_)
    | (with_reducible refine Br.ff ?_)
    | (refine Br.dT ?_ ?_; omega)
    | (refine Br.dF ?_ ?_; omega)
    | (exact .inl rfl)
    | (exact .inr rfl)
    | (refine Br.d (fun h => ?_) (fun h => ?_))
    | (refine Br.swap ?_)
    | (refine Br.bnot ?_)
    | (refine Br.mk (fun h => Step.out ?_) (fun h => Step.out ?_))
    | (refine Two.mk (Step.out ?_) (Step.out ?_))
    | (refine CallOK.io1 (g := 12) (Step.out ?_))
    | (refine CallOK.io1 (g := 13) (Step.out ?_))
    | (refine CallOK.io1 (g := 14) (Step.out ?_))
    | (refine CallOK.io1 (g := 16) (Step.out ?_))
    | (refine CallOK.io1F (g := 17) (Step.out ?_))
    | (refine CallOK.io1 (g := 18) (Step.out ?_))
    | (refine CallOK.of_ct (Step.out ?_))
    | (refine Met.by (g := 9) (awake_ct) ?_; rintro q outs ⟨rfl, rfl⟩)
    | (refine Met.by (g := 10) (few_ct _) ?_; rintro q outs ⟨rfl, rfl⟩)
    | (refine Met.by (g := 11) (new_ct _ (by assumption)) ?_; rintro q outs ⟨d, hd, rfl, rfl⟩)
    | (refine Met.by (g := 12) (rules_ct _) ?_; rintro q outs ⟨r, d, hr, rfl, rfl⟩)
    | (refine Met.by (g := 13) (next_ct _ _) ?_; rintro q outs ⟨x, d, hx, rfl, rfl⟩)
    | (refine Met.by (g := 14) (token_ct _) ?_; rintro q outs ⟨x, d, ⟨hx1, hx2, hx3⟩, rfl, rfl⟩)
    | (refine Met.by (g := 15) (rjoin_ct _ (by first | omega | decide | (simp; done) | (simp; omega)) (by first | omega | decide | (simp; done) | (simp; omega))) ?_; rintro q outs ⟨rfl, rfl⟩)
    | (refine Met.by (g := 16) (dress_ct _ _ (by first | omega | decide | (simp; done) | (simp; omega))) ?_; rintro q outs ⟨x, d, ⟨hx, hxd⟩, rfl, rfl⟩)
    | (refine Met.by (g := 17) (picks_ct _ [] (by first | omega | decide | (simp; done) | (simp; omega)) (by first | omega | decide | (simp; done) | (simp; omega))) ?_; rintro q outs ⟨x, d, hx, rfl, rfl⟩)
    | (refine Met.by (g := 18) (one_ct _ _) ?_; rintro q outs ⟨x, d, hx, rfl, rfl⟩)
    | (refine Met.by (g := 19) (norm_ct _ _ (by assumption) (by first | omega | decide | (simp; done) | (simp; omega))) ?_; rintro q outs ⟨rfl, rfl⟩)
    | (refine Vc.mk ?_ (Step.out ?_))
  · have hR := deck_runs hr
    have hok := hr.ok
    refine CodeOK.loopW hΓ hm [] [] (by kernel_rfl) (α := Dk × Int × List Str) (fun z => [(3, .loc 0 0), (4, .loc 1 0), (5, .own 2), (6, i64 z.2.1)]) (fun z => [(0, .var z.1.ls), (1, .var [strs r.t, prs r.n, prs r.s]), (2, .arr 9 1 z.2.2.length fun i => [.str (z.2.2.getD i [])])]) 3 (fun z => 0 ≤ z.2.1 ∧ z.2.2.length + z.2.1 ≤ 3 ∧ (∀ t ∈ z.2.2, Lett t)) (fun z => z.2.1.toNat) ?_ ?_
    · refine Again.by (d, x, []) ⟨by dsimp only; omega, by simp; omega, nofun⟩ ?_
      dsimp only
      repeat' first
        | (refine Step.mk ?_; conv => whnf)
        | (refine Vc.om ?_ ?_; first | omega | with_reducible rfl | with_reducible exact same_rfl | (simp only [bytes_2, bytes_3, bytes_4, bytes_5, bytes_9, bytes_12, bytes_21, bytes_22, bytes_25, bytes_27, bytes_28, bytes_29, bytes_30, bytes_38, bytes_43, bytes_44, bytes_47, bytes_50, bytes_51, bytes_52, bytes_54, bytes_55, bytes_66, bytes_68, bytes_69, bytes_70, bytes_83, bytes_84, bytes_85, bytes_86, bytes_97, bytes_103]; omega))
        | (refine NilB.mk fun b hb => Step.out ?_)
        | with_reducible trivial
        | exact noSh_bool _
        | exact noSh_lit _
        | exact noSh_int _ _
        | exact noSh_str _
        | with_reducible rfl
        | with_reducible exact same_rfl
        | (refine Wr.i64 ?_ ?_; omega)
        | (refine Wr.u8 ?_ ?_; omega)
        | (refine Wr.i32 ?_ ?_; omega)
        | (with_reducible refine Br.tt ?_)
        | (with_reducible refine Br.ff ?_)
        | (refine Br.dT ?_ ?_; omega)
        | (refine Br.dF ?_ ?_; omega)
        | (refine Br.d (fun h => ?_) (fun h => ?_))
        | (refine Br.swap ?_)
        | (refine Br.bnot ?_)
        | (refine Br.mk (fun h => Step.out ?_) (fun h => Step.out ?_))
        | (refine Two.mk (Step.out ?_) (Step.out ?_))
        | (refine CallOK.io1 (g := 12) (Step.out ?_))
        | (refine CallOK.io1 (g := 13) (Step.out ?_))
        | (refine CallOK.io1 (g := 14) (Step.out ?_))
        | (refine CallOK.io1 (g := 16) (Step.out ?_))
        | (refine CallOK.io1F (g := 17) (Step.out ?_))
        | (refine CallOK.io1 (g := 18) (Step.out ?_))
        | (refine CallOK.of_ct (Step.out ?_))
        | (refine Met.by (g := 9) (awake_ct) ?_; rintro q outs ⟨rfl, rfl⟩)
        | (refine Met.by (g := 10) (few_ct _) ?_; rintro q outs ⟨rfl, rfl⟩)
        | (refine Met.by (g := 11) (new_ct _ (by assumption)) ?_; rintro q outs ⟨d, hd, rfl, rfl⟩)
        | (refine Met.by (g := 12) (rules_ct _) ?_; rintro q outs ⟨r, d, hr, rfl, rfl⟩)
        | (refine Met.by (g := 13) (next_ct _ _) ?_; rintro q outs ⟨x, d, hx, rfl, rfl⟩)
        | (refine Met.by (g := 14) (token_ct _) ?_; rintro q outs ⟨x, d, ⟨hx1, hx2, hx3⟩, rfl, rfl⟩)
        | (refine Met.by (g := 15) (rjoin_ct _ (by first | omega | decide | (simp; done) | (simp; omega)) (by first | omega | decide | (simp; done) | (simp; omega))) ?_; rintro q outs ⟨rfl, rfl⟩)
        | (refine Met.by (g := 16) (dress_ct _ _ (by first | omega | decide | (simp; done) | (simp; omega))) ?_; rintro q outs ⟨x, d, ⟨hx, hxd⟩, rfl, rfl⟩)
        | (refine Met.by (g := 17) (picks_ct _ [] (by first | omega | decide | (simp; done) | (simp; omega)) (by first | omega | decide | (simp; done) | (simp; omega))) ?_; rintro q outs ⟨x, d, hx, rfl, rfl⟩)
        | (refine Met.by (g := 18) (one_ct _ _) ?_; rintro q outs ⟨x, d, hx, rfl, rfl⟩)
        | (refine Met.by (g := 19) (norm_ct _ _ (by assumption) (by first | omega | decide | (simp; done) | (simp; omega))) ?_; rintro q outs ⟨rfl, rfl⟩)
        | (refine Vc.mk ?_ (Step.out ?_))
    · intro ⟨d, k, T⟩ ⟨h1, h2, h3⟩
      dsimp only at h1 h2 h3 ⊢
      have hj := join_len8 T fun t ht => (h3 t ht).le
      repeat' first
        | (refine Step.mk ?_; conv => whnf)
        | (refine Vc.om ?_ ?_; first | omega | with_reducible rfl | with_reducible exact same_rfl | (simp only [bytes_2, bytes_3, bytes_4, bytes_5, bytes_9, bytes_12, bytes_21, bytes_22, bytes_25, bytes_27, bytes_28, bytes_29, bytes_30, bytes_38, bytes_43, bytes_44, bytes_47, bytes_50, bytes_51, bytes_52, bytes_54, bytes_55, bytes_66, bytes_68, bytes_69, bytes_70, bytes_83, bytes_84, bytes_85, bytes_86, bytes_97, bytes_103]; omega))
        | (refine NilB.mk fun b hb => Step.out ?_)
        | with_reducible trivial
        | exact noSh_bool _
        | exact noSh_lit _
        | exact noSh_int _ _
        | exact noSh_str _
        | with_reducible rfl
        | with_reducible exact same_rfl
        | (refine Wr.i64 ?_ ?_; omega)
        | (refine Wr.u8 ?_ ?_; omega)
        | (refine Wr.i32 ?_ ?_; omega)
        | (with_reducible refine Br.tt ?_)
        | (with_reducible refine Br.ff ?_)
        | (refine Br.dT ?_ ?_; omega)
        | (refine Br.dF ?_ ?_; omega)
        | (refine Met.by (rjoin_ct T (by omega) (by omega)) ?_; rintro q outs ⟨rfl, rfl⟩)
        | (refine Met.by (dressP_ct _ (joinS [32] T) (by omega)) ?_; rintro q outs ⟨x, d, ⟨hx, hxd⟩, rfl, rfl⟩)
        | (refine Met.by (picksP_ct (fun s => s.length ≤ 4 ∧ pickB s = true) _ [[32, 49, 50], [32, 55, 32, 56], []] (by decide +kernel) (by first | omega | decide | (simp; done) | (simp; omega)) (by first | omega | decide | (simp; done) | (simp; omega))) ?_; rintro q outs ⟨u, d, ⟨hu1, hu2⟩, rfl, rfl⟩)
        | (refine Br.d (fun h => ?_) (fun h => ?_))
        | (refine Br.swap ?_)
        | (refine Br.bnot ?_)
        | (refine Br.mk (fun h => Step.out ?_) (fun h => Step.out ?_))
        | (refine Two.mk (Step.out ?_) (Step.out ?_))
        | (refine CallOK.io1 (g := 12) (Step.out ?_))
        | (refine CallOK.io1 (g := 13) (Step.out ?_))
        | (refine CallOK.io1 (g := 14) (Step.out ?_))
        | (refine CallOK.io1 (g := 16) (Step.out ?_))
        | (refine CallOK.io1F (g := 17) (Step.out ?_))
        | (refine CallOK.io1 (g := 18) (Step.out ?_))
        | (refine CallOK.of_ct (Step.out ?_))
        | (refine Met.by (g := 9) (awake_ct) ?_; rintro q outs ⟨rfl, rfl⟩)
        | (refine Met.by (g := 10) (few_ct _) ?_; rintro q outs ⟨rfl, rfl⟩)
        | (refine Met.by (g := 11) (new_ct _ (by assumption)) ?_; rintro q outs ⟨d, hd, rfl, rfl⟩)
        | (refine Met.by (g := 12) (rules_ct _) ?_; rintro q outs ⟨r, d, hr, rfl, rfl⟩)
        | (refine Met.by (g := 13) (next_ct _ _) ?_; rintro q outs ⟨x, d, hx, rfl, rfl⟩)
        | (refine Met.by (g := 14) (token_ct _) ?_; rintro q outs ⟨x, d, ⟨hx1, hx2, hx3⟩, rfl, rfl⟩)
        | (refine Met.by (g := 15) (rjoin_ct _ (by first | omega | decide | (simp; done) | (simp; omega)) (by first | omega | decide | (simp; done) | (simp; omega))) ?_; rintro q outs ⟨rfl, rfl⟩)
        | (refine Met.by (g := 16) (dress_ct _ _ (by first | omega | decide | (simp; done) | (simp; omega))) ?_; rintro q outs ⟨x, d, ⟨hx, hxd⟩, rfl, rfl⟩)
        | (refine Met.by (g := 17) (picks_ct _ [] (by first | omega | decide | (simp; done) | (simp; omega)) (by first | omega | decide | (simp; done) | (simp; omega))) ?_; rintro q outs ⟨x, d, hx, rfl, rfl⟩)
        | (refine Met.by (g := 18) (one_ct _ _) ?_; rintro q outs ⟨x, d, hx, rfl, rfl⟩)
        | (refine Met.by (g := 19) (norm_ct _ _ (by assumption) (by first | omega | decide | (simp; done) | (simp; omega))) ?_; rintro q outs ⟨rfl, rfl⟩)
        | (refine Vc.mk ?_ (Step.out ?_))
      · have hx := tok_lett hx1 hx2 hx3
        refine Again.by (d, k - 1, T ++ [x]) ⟨⟨by dsimp only; omega, by simp only [List.length_append, List.length_cons, List.length_nil]; omega, lett_app h3 hx⟩, by dsimp only; omega⟩ ?_
        dsimp only
        repeat' first
          | (refine Step.mk ?_; conv => whnf)
          | (refine Vc.om ?_ ?_; first | omega | with_reducible rfl | with_reducible exact same_rfl | (simp only [bytes_2, bytes_3, bytes_4, bytes_5, bytes_9, bytes_12, bytes_21, bytes_22, bytes_25, bytes_27, bytes_28, bytes_29, bytes_30, bytes_38, bytes_43, bytes_44, bytes_47, bytes_50, bytes_51, bytes_52, bytes_54, bytes_55, bytes_66, bytes_68, bytes_69, bytes_70, bytes_83, bytes_84, bytes_85, bytes_86, bytes_97, bytes_103]; omega))
          | (refine NilB.mk fun b hb => Step.out ?_)
          | with_reducible trivial
          | exact noSh_bool _
          | exact noSh_lit _
          | exact noSh_int _ _
          | exact noSh_str _
          | with_reducible rfl
          | with_reducible exact same_rfl
          | (refine Wr.i64 ?_ ?_; omega)
          | (refine Wr.u8 ?_ ?_; omega)
          | (refine Wr.i32 ?_ ?_; omega)
          | (with_reducible refine Br.tt ?_)
          | (with_reducible refine Br.ff ?_)
          | (refine Br.dT ?_ ?_; omega)
          | (refine Br.dF ?_ ?_; omega)
          | (exact str_app _ _ rfl)
          | (refine Br.d (fun h => ?_) (fun h => ?_))
          | (refine Br.swap ?_)
          | (refine Br.bnot ?_)
          | (refine Br.mk (fun h => Step.out ?_) (fun h => Step.out ?_))
          | (refine Two.mk (Step.out ?_) (Step.out ?_))
          | (refine CallOK.io1 (g := 12) (Step.out ?_))
          | (refine CallOK.io1 (g := 13) (Step.out ?_))
          | (refine CallOK.io1 (g := 14) (Step.out ?_))
          | (refine CallOK.io1 (g := 16) (Step.out ?_))
          | (refine CallOK.io1F (g := 17) (Step.out ?_))
          | (refine CallOK.io1 (g := 18) (Step.out ?_))
          | (refine CallOK.of_ct (Step.out ?_))
          | (refine Met.by (g := 9) (awake_ct) ?_; rintro q outs ⟨rfl, rfl⟩)
          | (refine Met.by (g := 10) (few_ct _) ?_; rintro q outs ⟨rfl, rfl⟩)
          | (refine Met.by (g := 11) (new_ct _ (by assumption)) ?_; rintro q outs ⟨d, hd, rfl, rfl⟩)
          | (refine Met.by (g := 12) (rules_ct _) ?_; rintro q outs ⟨r, d, hr, rfl, rfl⟩)
          | (refine Met.by (g := 13) (next_ct _ _) ?_; rintro q outs ⟨x, d, hx, rfl, rfl⟩)
          | (refine Met.by (g := 14) (token_ct _) ?_; rintro q outs ⟨x, d, ⟨hx1, hx2, hx3⟩, rfl, rfl⟩)
          | (refine Met.by (g := 15) (rjoin_ct _ (by first | omega | decide | (simp; done) | (simp; omega)) (by first | omega | decide | (simp; done) | (simp; omega))) ?_; rintro q outs ⟨rfl, rfl⟩)
          | (refine Met.by (g := 16) (dress_ct _ _ (by first | omega | decide | (simp; done) | (simp; omega))) ?_; rintro q outs ⟨x, d, ⟨hx, hxd⟩, rfl, rfl⟩)
          | (refine Met.by (g := 17) (picks_ct _ [] (by first | omega | decide | (simp; done) | (simp; omega)) (by first | omega | decide | (simp; done) | (simp; omega))) ?_; rintro q outs ⟨x, d, hx, rfl, rfl⟩)
          | (refine Met.by (g := 18) (one_ct _ _) ?_; rintro q outs ⟨x, d, hx, rfl, rfl⟩)
          | (refine Met.by (g := 19) (norm_ct _ _ (by assumption) (by first | omega | decide | (simp; done) | (simp; omega))) ?_; rintro q outs ⟨rfl, rfl⟩)
          | (refine Vc.mk ?_ (Step.out ?_))
      · obtain ⟨p1, p2⟩ := hxd (low_fixed (lett_tokL h3) fun y hy => (h3 y hy).lo).1
        have hT := toks_join T (lett_tokL h3)
        have hRi : Rich r T (x ++ u) := Rich.pick ⟨p1, by rw [p2, hT]⟩ hu2
        have ht2 := hr.two.1
        have hxl : (x ++ u).length ≤ 60 := by simp only [List.length_append]; omega
        refine CodeOK.loopW hΓ hm [] [] (by kernel_rfl) (α := Dk × Nat × Str) (fun z => [(3, .loc 0 0), (4, .loc 1 0), (7, .str (joinS [32] T)), (8, .str z.2.2), (48, strs r.t), (49, i64 r.t.length), (50, i64 z.2.1)]) (fun z => [(0, .var z.1.ls), (1, .var [strs r.t, prs r.n, prs r.s])]) 2 (fun z => z.2.1 ≤ r.t.length ∧ z.2.2.length ≤ 60 + 10 * z.2.1 ∧ Rich r T z.2.2) (fun z => r.t.length - z.2.1) ?_ ?_
        · refine Again.by (d, 0, x ++ u) ⟨Nat.zero_le _, by dsimp only; omega, hRi⟩ ?_
          dsimp only
          repeat' first
            | (refine Step.mk ?_; conv => whnf)
            | (refine Vc.om ?_ ?_; first | omega | with_reducible rfl | with_reducible exact same_rfl | (simp only [bytes_2, bytes_3, bytes_4, bytes_5, bytes_9, bytes_12, bytes_21, bytes_22, bytes_25, bytes_27, bytes_28, bytes_29, bytes_30, bytes_38, bytes_43, bytes_44, bytes_47, bytes_50, bytes_51, bytes_52, bytes_54, bytes_55, bytes_66, bytes_68, bytes_69, bytes_70, bytes_83, bytes_84, bytes_85, bytes_86, bytes_97, bytes_103]; omega))
            | (refine NilB.mk fun b hb => Step.out ?_)
            | with_reducible trivial
            | exact noSh_bool _
            | exact noSh_lit _
            | exact noSh_int _ _
            | exact noSh_str _
            | with_reducible rfl
            | with_reducible exact same_rfl
            | (refine Wr.i64 ?_ ?_; omega)
            | (refine Wr.u8 ?_ ?_; omega)
            | (refine Wr.i32 ?_ ?_; omega)
            | (with_reducible refine Br.tt ?_)
            | (with_reducible refine Br.ff ?_)
            | (refine Br.dT ?_ ?_; omega)
            | (refine Br.dF ?_ ?_; omega)
            | (refine Br.d (fun h => ?_) (fun h => ?_))
            | (refine Br.swap ?_)
            | (refine Br.bnot ?_)
            | (refine Br.mk (fun h => Step.out ?_) (fun h => Step.out ?_))
            | (refine Two.mk (Step.out ?_) (Step.out ?_))
            | (refine CallOK.io1 (g := 12) (Step.out ?_))
            | (refine CallOK.io1 (g := 13) (Step.out ?_))
            | (refine CallOK.io1 (g := 14) (Step.out ?_))
            | (refine CallOK.io1 (g := 16) (Step.out ?_))
            | (refine CallOK.io1F (g := 17) (Step.out ?_))
            | (refine CallOK.io1 (g := 18) (Step.out ?_))
            | (refine CallOK.of_ct (Step.out ?_))
            | (refine Met.by (g := 9) (awake_ct) ?_; rintro q outs ⟨rfl, rfl⟩)
            | (refine Met.by (g := 10) (few_ct _) ?_; rintro q outs ⟨rfl, rfl⟩)
            | (refine Met.by (g := 11) (new_ct _ (by assumption)) ?_; rintro q outs ⟨d, hd, rfl, rfl⟩)
            | (refine Met.by (g := 12) (rules_ct _) ?_; rintro q outs ⟨r, d, hr, rfl, rfl⟩)
            | (refine Met.by (g := 13) (next_ct _ _) ?_; rintro q outs ⟨x, d, hx, rfl, rfl⟩)
            | (refine Met.by (g := 14) (token_ct _) ?_; rintro q outs ⟨x, d, ⟨hx1, hx2, hx3⟩, rfl, rfl⟩)
            | (refine Met.by (g := 15) (rjoin_ct _ (by first | omega | decide | (simp; done) | (simp; omega)) (by first | omega | decide | (simp; done) | (simp; omega))) ?_; rintro q outs ⟨rfl, rfl⟩)
            | (refine Met.by (g := 16) (dress_ct _ _ (by first | omega | decide | (simp; done) | (simp; omega))) ?_; rintro q outs ⟨x, d, ⟨hx, hxd⟩, rfl, rfl⟩)
            | (refine Met.by (g := 17) (picks_ct _ [] (by first | omega | decide | (simp; done) | (simp; omega)) (by first | omega | decide | (simp; done) | (simp; omega))) ?_; rintro q outs ⟨x, d, hx, rfl, rfl⟩)
            | (refine Met.by (g := 18) (one_ct _ _) ?_; rintro q outs ⟨x, d, hx, rfl, rfl⟩)
            | (refine Met.by (g := 19) (norm_ct _ _ (by assumption) (by first | omega | decide | (simp; done) | (simp; omega))) ?_; rintro q outs ⟨rfl, rfl⟩)
            | (refine Vc.mk ?_ (Step.out ?_))
        · intro ⟨d, i, w⟩ ⟨g1, g2, g3⟩
          dsimp only at g1 g2 g3 ⊢
          have htl : (i : Int) < r.t.length → Lett (r.t.getD (i : Int).toNat []) ∧ hasS r.t (r.t.getD (i : Int).toNat []) = true := fun h => deck_title hr (by omega)
          repeat' first
            | (refine Step.mk ?_; conv => whnf)
            | (refine Vc.om ?_ ?_; first | omega | with_reducible rfl | with_reducible exact same_rfl | (simp only [bytes_2, bytes_3, bytes_4, bytes_5, bytes_9, bytes_12, bytes_21, bytes_22, bytes_25, bytes_27, bytes_28, bytes_29, bytes_30, bytes_38, bytes_43, bytes_44, bytes_47, bytes_50, bytes_51, bytes_52, bytes_54, bytes_55, bytes_66, bytes_68, bytes_69, bytes_70, bytes_83, bytes_84, bytes_85, bytes_86, bytes_97, bytes_103]; omega))
            | (refine NilB.mk fun b hb => Step.out ?_)
            | with_reducible trivial
            | exact noSh_bool _
            | exact noSh_lit _
            | exact noSh_int _ _
            | exact noSh_str _
            | with_reducible rfl
            | with_reducible exact same_rfl
            | (refine Wr.i64 ?_ ?_; omega)
            | (refine Wr.u8 ?_ ?_; omega)
            | (refine Wr.i32 ?_ ?_; omega)
            | (with_reducible refine Br.tt ?_)
            | (with_reducible refine Br.ff ?_)
            | (refine Br.dT ?_ ?_; omega)
            | (refine Br.dF ?_ ?_; omega)
            | (refine Vc.om ?_ ?_; focus ((have := (htl ‹_›).1.le; simp only [List.length_append, List.length_cons, List.length_nil]; omega); done))
            | (refine Wr.i64 ?_ ?_; focus ((have := (htl ‹_›).1.le; simp only [List.length_append, List.length_cons, List.length_nil]; omega); done))
            | (refine Wr.u8 ?_ ?_; focus ((have := (htl ‹_›).1.le; simp only [List.length_append, List.length_cons, List.length_nil]; omega); done))
            | (refine Br.dT ?_ ?_; focus ((have := (htl ‹_›).1.le; simp only [List.length_append, List.length_cons, List.length_nil]; omega); done))
            | (refine Br.dF ?_ ?_; focus ((have := (htl ‹_›).1.le; simp only [List.length_append, List.length_cons, List.length_nil]; omega); done))
            | (refine Met.by (norm_ct r _ hok (by omega)) ?_; rintro q outs ⟨rfl, rfl⟩)
            | (refine Br.d (fun h => ?_) (fun h => ?_))
            | (refine Br.swap ?_)
            | (refine Br.bnot ?_)
            | (refine Br.mk (fun h => Step.out ?_) (fun h => Step.out ?_))
            | (refine Two.mk (Step.out ?_) (Step.out ?_))
            | (refine CallOK.io1 (g := 12) (Step.out ?_))
            | (refine CallOK.io1 (g := 13) (Step.out ?_))
            | (refine CallOK.io1 (g := 14) (Step.out ?_))
            | (refine CallOK.io1 (g := 16) (Step.out ?_))
            | (refine CallOK.io1F (g := 17) (Step.out ?_))
            | (refine CallOK.io1 (g := 18) (Step.out ?_))
            | (refine CallOK.of_ct (Step.out ?_))
            | (refine Met.by (g := 9) (awake_ct) ?_; rintro q outs ⟨rfl, rfl⟩)
            | (refine Met.by (g := 10) (few_ct _) ?_; rintro q outs ⟨rfl, rfl⟩)
            | (refine Met.by (g := 11) (new_ct _ (by assumption)) ?_; rintro q outs ⟨d, hd, rfl, rfl⟩)
            | (refine Met.by (g := 12) (rules_ct _) ?_; rintro q outs ⟨r, d, hr, rfl, rfl⟩)
            | (refine Met.by (g := 13) (next_ct _ _) ?_; rintro q outs ⟨x, d, hx, rfl, rfl⟩)
            | (refine Met.by (g := 14) (token_ct _) ?_; rintro q outs ⟨x, d, ⟨hx1, hx2, hx3⟩, rfl, rfl⟩)
            | (refine Met.by (g := 15) (rjoin_ct _ (by first | omega | decide | (simp; done) | (simp; omega)) (by first | omega | decide | (simp; done) | (simp; omega))) ?_; rintro q outs ⟨rfl, rfl⟩)
            | (refine Met.by (g := 16) (dress_ct _ _ (by first | omega | decide | (simp; done) | (simp; omega))) ?_; rintro q outs ⟨x, d, ⟨hx, hxd⟩, rfl, rfl⟩)
            | (refine Met.by (g := 17) (picks_ct _ [] (by first | omega | decide | (simp; done) | (simp; omega)) (by first | omega | decide | (simp; done) | (simp; omega))) ?_; rintro q outs ⟨x, d, hx, rfl, rfl⟩)
            | (refine Met.by (g := 18) (one_ct _ _) ?_; rintro q outs ⟨x, d, hx, rfl, rfl⟩)
            | (refine Met.by (g := 19) (norm_ct _ _ (by assumption) (by first | omega | decide | (simp; done) | (simp; omega))) ?_; rintro q outs ⟨rfl, rfl⟩)
            | (refine Vc.mk ?_ (Step.out ?_))
          · refine Again.by (d, i + 1, r.t.getD (i : Int).toNat [] ++ [46, 32] ++ w) ⟨⟨by dsimp only; omega, by have := (htl ‹_›).1.le; simp only [List.length_append, List.length_cons, List.length_nil]; omega, g3.title (htl ‹_›).1 (htl ‹_›).2⟩, by dsimp only; omega⟩ ?_
            dsimp only
            repeat' first
              | (refine Step.mk ?_; conv => whnf)
              | (refine Vc.om ?_ ?_; first | omega | with_reducible rfl | with_reducible exact same_rfl | (simp only [bytes_2, bytes_3, bytes_4, bytes_5, bytes_9, bytes_12, bytes_21, bytes_22, bytes_25, bytes_27, bytes_28, bytes_29, bytes_30, bytes_38, bytes_43, bytes_44, bytes_47, bytes_50, bytes_51, bytes_52, bytes_54, bytes_55, bytes_66, bytes_68, bytes_69, bytes_70, bytes_83, bytes_84, bytes_85, bytes_86, bytes_97, bytes_103]; omega))
              | (refine NilB.mk fun b hb => Step.out ?_)
              | with_reducible trivial
              | exact noSh_bool _
              | exact noSh_lit _
              | exact noSh_int _ _
              | exact noSh_str _
              | with_reducible rfl
              | with_reducible exact same_rfl
              | (refine Wr.i64 ?_ ?_; omega)
              | (refine Wr.u8 ?_ ?_; omega)
              | (refine Wr.i32 ?_ ?_; omega)
              | (with_reducible refine Br.tt ?_)
              | (with_reducible refine Br.ff ?_)
              | (refine Br.dT ?_ ?_; omega)
              | (refine Br.dF ?_ ?_; omega)
              | (refine Br.d (fun h => ?_) (fun h => ?_))
              | (refine Br.swap ?_)
              | (refine Br.bnot ?_)
              | (refine Br.mk (fun h => Step.out ?_) (fun h => Step.out ?_))
              | (refine Two.mk (Step.out ?_) (Step.out ?_))
              | (refine CallOK.io1 (g := 12) (Step.out ?_))
              | (refine CallOK.io1 (g := 13) (Step.out ?_))
              | (refine CallOK.io1 (g := 14) (Step.out ?_))
              | (refine CallOK.io1 (g := 16) (Step.out ?_))
              | (refine CallOK.io1F (g := 17) (Step.out ?_))
              | (refine CallOK.io1 (g := 18) (Step.out ?_))
              | (refine CallOK.of_ct (Step.out ?_))
              | (refine Met.by (g := 9) (awake_ct) ?_; rintro q outs ⟨rfl, rfl⟩)
              | (refine Met.by (g := 10) (few_ct _) ?_; rintro q outs ⟨rfl, rfl⟩)
              | (refine Met.by (g := 11) (new_ct _ (by assumption)) ?_; rintro q outs ⟨d, hd, rfl, rfl⟩)
              | (refine Met.by (g := 12) (rules_ct _) ?_; rintro q outs ⟨r, d, hr, rfl, rfl⟩)
              | (refine Met.by (g := 13) (next_ct _ _) ?_; rintro q outs ⟨x, d, hx, rfl, rfl⟩)
              | (refine Met.by (g := 14) (token_ct _) ?_; rintro q outs ⟨x, d, ⟨hx1, hx2, hx3⟩, rfl, rfl⟩)
              | (refine Met.by (g := 15) (rjoin_ct _ (by first | omega | decide | (simp; done) | (simp; omega)) (by first | omega | decide | (simp; done) | (simp; omega))) ?_; rintro q outs ⟨rfl, rfl⟩)
              | (refine Met.by (g := 16) (dress_ct _ _ (by first | omega | decide | (simp; done) | (simp; omega))) ?_; rintro q outs ⟨x, d, ⟨hx, hxd⟩, rfl, rfl⟩)
              | (refine Met.by (g := 17) (picks_ct _ [] (by first | omega | decide | (simp; done) | (simp; omega)) (by first | omega | decide | (simp; done) | (simp; omega))) ?_; rintro q outs ⟨x, d, hx, rfl, rfl⟩)
              | (refine Met.by (g := 18) (one_ct _ _) ?_; rintro q outs ⟨x, d, hx, rfl, rfl⟩)
              | (refine Met.by (g := 19) (norm_ct _ _ (by assumption) (by first | omega | decide | (simp; done) | (simp; omega))) ?_; rintro q outs ⟨rfl, rfl⟩)
              | (refine Vc.mk ?_ (Step.out ?_))
          · refine Again.by (d, i + 1, w) ⟨⟨by dsimp only; omega, by dsimp only; omega, g3⟩, by dsimp only; omega⟩ ?_
            dsimp only
            repeat' first
              | (refine Step.mk ?_; conv => whnf)
              | (refine Vc.om ?_ ?_; first | omega | with_reducible rfl | with_reducible exact same_rfl | (simp only [bytes_2, bytes_3, bytes_4, bytes_5, bytes_9, bytes_12, bytes_21, bytes_22, bytes_25, bytes_27, bytes_28, bytes_29, bytes_30, bytes_38, bytes_43, bytes_44, bytes_47, bytes_50, bytes_51, bytes_52, bytes_54, bytes_55, bytes_66, bytes_68, bytes_69, bytes_70, bytes_83, bytes_84, bytes_85, bytes_86, bytes_97, bytes_103]; omega))
              | (refine NilB.mk fun b hb => Step.out ?_)
              | with_reducible trivial
              | exact noSh_bool _
              | exact noSh_lit _
              | exact noSh_int _ _
              | exact noSh_str _
              | with_reducible rfl
              | with_reducible exact same_rfl
              | (refine Wr.i64 ?_ ?_; omega)
              | (refine Wr.u8 ?_ ?_; omega)
              | (refine Wr.i32 ?_ ?_; omega)
              | (with_reducible refine Br.tt ?_)
              | (with_reducible refine Br.ff ?_)
              | (refine Br.dT ?_ ?_; omega)
              | (refine Br.dF ?_ ?_; omega)
              | (refine Br.d (fun h => ?_) (fun h => ?_))
              | (refine Br.swap ?_)
              | (refine Br.bnot ?_)
              | (refine Br.mk (fun h => Step.out ?_) (fun h => Step.out ?_))
              | (refine Two.mk (Step.out ?_) (Step.out ?_))
              | (refine CallOK.io1 (g := 12) (Step.out ?_))
              | (refine CallOK.io1 (g := 13) (Step.out ?_))
              | (refine CallOK.io1 (g := 14) (Step.out ?_))
              | (refine CallOK.io1 (g := 16) (Step.out ?_))
              | (refine CallOK.io1F (g := 17) (Step.out ?_))
              | (refine CallOK.io1 (g := 18) (Step.out ?_))
              | (refine CallOK.of_ct (Step.out ?_))
              | (refine Met.by (g := 9) (awake_ct) ?_; rintro q outs ⟨rfl, rfl⟩)
              | (refine Met.by (g := 10) (few_ct _) ?_; rintro q outs ⟨rfl, rfl⟩)
              | (refine Met.by (g := 11) (new_ct _ (by assumption)) ?_; rintro q outs ⟨d, hd, rfl, rfl⟩)
              | (refine Met.by (g := 12) (rules_ct _) ?_; rintro q outs ⟨r, d, hr, rfl, rfl⟩)
              | (refine Met.by (g := 13) (next_ct _ _) ?_; rintro q outs ⟨x, d, hx, rfl, rfl⟩)
              | (refine Met.by (g := 14) (token_ct _) ?_; rintro q outs ⟨x, d, ⟨hx1, hx2, hx3⟩, rfl, rfl⟩)
              | (refine Met.by (g := 15) (rjoin_ct _ (by first | omega | decide | (simp; done) | (simp; omega)) (by first | omega | decide | (simp; done) | (simp; omega))) ?_; rintro q outs ⟨rfl, rfl⟩)
              | (refine Met.by (g := 16) (dress_ct _ _ (by first | omega | decide | (simp; done) | (simp; omega))) ?_; rintro q outs ⟨x, d, ⟨hx, hxd⟩, rfl, rfl⟩)
              | (refine Met.by (g := 17) (picks_ct _ [] (by first | omega | decide | (simp; done) | (simp; omega)) (by first | omega | decide | (simp; done) | (simp; omega))) ?_; rintro q outs ⟨x, d, hx, rfl, rfl⟩)
              | (refine Met.by (g := 18) (one_ct _ _) ?_; rintro q outs ⟨x, d, hx, rfl, rfl⟩)
              | (refine Met.by (g := 19) (norm_ct _ _ (by assumption) (by first | omega | decide | (simp; done) | (simp; omega))) ?_; rintro q outs ⟨rfl, rfl⟩)
              | (refine Vc.mk ?_ (Step.out ?_))
          all_goals first
            | exact .inr rfl
            | exact .inl (congrArg D.bool (decide_eq_true (rich_law h3 (by omega) g3 (by omega)).2))
            | exact absurd (rich_law h3 (by omega) g3 (by omega)).1 ‹_›
            | trace_state
end Kx
