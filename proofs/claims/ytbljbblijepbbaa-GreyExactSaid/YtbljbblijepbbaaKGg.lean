/-
  Candidates dealt; decisions dealt.
  No condition beyond those written in each theorem.
-/
import Derived.Test.YtbljbblijepbbaaKGf
open Go Sx Go.Proofs
set_option linter.unusedSimpArgs false
set_option linter.unusedVariables false
namespace Kx
def cdLt (x y : Cd) : Prop := cmpC x.a x.b y.a y.b < 0
/-- Candidates that are valid. -/
structure CdV (l : List Cd) : Prop where
  p : l.Pairwise cdLt
  q : ∀ c ∈ l, cplB c.a c.b = true
  w : ∀ c ∈ l, -30 ≤ c.w ∧ c.w ≤ 90
  n : l.length ≤ 648
theorem cdGo_cons (o : Option Cd) (c : Cd) (l : List Cd) : cdGo o (c :: l) = if cplB c.a c.b = false then 41 else if c.w < -1048576 ∨ 1048576 < c.w then 40 else if (match o with | none => false | some x => decide (0 ≤ cmpC x.a x.b c.a c.b)) = true then 12 else cdGo (some c) l := rfl
theorem cdGo_zero : ∀ (l : List Cd) (o : Option Cd), l.Pairwise cdLt → (∀ c ∈ l, cplB c.a c.b = true) → (∀ c ∈ l, -30 ≤ c.w ∧ c.w ≤ 90) → (∀ x, o = some x → ∀ c ∈ l, cdLt x c) → cdGo o l = 0
  | [], _, _, _, _, _ => rfl
  | c :: l, o, hp, hq, hw, ho => by
    obtain ⟨h1, h2⟩ := List.pairwise_cons.1 hp
    rw [cdGo_cons, if_neg (by rw [hq c (by simp)]; simp), if_neg (by have := hw c (by simp); omega), if_neg]
    · exact cdGo_zero l (some c) h2 (fun x hx => hq x (by simp [hx])) (fun x hx => hw x (by simp [hx])) fun x hx y hy => by cases hx; exact h1 y hy
    · cases o with
      | none => simp
      | some x =>
        have := ho x rfl c (by simp)
        simp only [cdLt] at this
        simp; omega
theorem CdV.ok {l : List Cd} (h : CdV l) : cands l = 0 := by
  rw [cands, if_neg (by have := h.n; omega)]
  exact cdGo_zero l none h.p h.q h.w (by simp)
def cdKey (c : Cd) : Rf × Rf := (c.a, c.b)
def bdKey (c : Bd) : Rf × Rf := (c.a, c.b)
theorem cdV_of {l : List Cd} {b : List Bd} (hb : UpB 3 0 0 0 b) (hk : l.map cdKey = b.map bdKey) (hw : ∀ c ∈ l, -30 ≤ c.w ∧ c.w ≤ 90) : CdV l := by
  have hlen : l.length = b.length := by have := congrArg List.length hk; simpa using this
  refine ⟨?_, fun c hc => ?_, hw, ?_⟩
  · have h1 : (b.map bdKey).Pairwise fun x y => cmpC x.1 x.2 y.1 y.2 < 0 := List.pairwise_map.2 hb.p
    rw [← hk] at h1
    exact (List.pairwise_map (f := cdKey)).1 h1
  · have h1 : cdKey c ∈ l.map cdKey := List.mem_map.2 ⟨c, hc, rfl⟩
    rw [hk] at h1
    obtain ⟨x, hx, e⟩ := List.mem_map.1 h1
    have := hb.q x hx
    simp only [cdKey, bdKey, Prod.mk.injEq] at e
    simpa only [bdQ, e.1, e.2] using this
  · have := hb.n
    omega
theorem candidates_ct (d : Dk) : Ct Try.prog 12 [d.b, i64 2] fun r outs => ∃ (l : List Cd) (d' : Dk), CdV l ∧ r = cds l ∧ outs = [Dk.b d'] := by
  refine .some2 (.of_W (fn := Try.f12) hΓ hm Try.func12 ord12 [] (by kernel_rfl) (Step.out ?_))
  repeat' first
    | (refine Step.mk ?_; conv => whnf)
    | (refine Vc.om ?_ ?_; first | omega | with_reducible rfl | with_reducible exact same_rfl | (simp only [bytes_2, bytes_3, bytes_4, bytes_5, bytes_9, bytes_12, bytes_21, bytes_22, bytes_25, bytes_27, bytes_28, bytes_30, bytes_32, bytes_33, bytes_36, bytes_37, bytes_38, bytes_39, bytes_41, bytes_42, bytes_43, bytes_44, bytes_45, bytes_46, bytes_52, bytes_56, bytes_58, bytes_60, bytes_67, bytes_68, bytes_69, bytes_70, bytes_71, bytes_72, bytes_73, bytes_74, bytes_75, bytes_76, bytes_77, bytes_81, bytes_84, bytes_85, bytes_87, bytes_95, bytes_96, bytes_111, bytes_115, true_and, and_true] <;> omega))
    | (refine NilB.mk fun b hb => Step.out ?_)
    | with_reducible trivial
    | exact noSh_bool _
    | exact noSh_lit _
    | exact noSh_int _ _
    | exact noSh_str _
    | with_reducible rfl
    | with_reducible exact same_rfl
    | (refine Wr.i64 ?_ ?_; omega)
    | (refine Wr.u8 ?_ ?_; omega)
    | (refine Wr.i32 ?_ ?_; omega)
    | (with_reducible refine Br.tt ?_)
    | (with_reducible refine Br.ff ?_)
    | (refine Br.dT ?_ ?_; omega)
    | (refine Br.dF ?_ ?_; omega)
    | (refine Br.d (fun h => ?_) (fun h => ?_))
    | (refine Br.swap ?_)
    | (refine Br.bnot ?_)
    | (refine Br.mk (fun h => Step.out ?_) (fun h => Step.out ?_))
    | (refine Two.mk (Step.out ?_) (Step.out ?_))
    | (refine Cp.mk fun q hq => Step.out ?_)
    | (refine Ovl.mk (by assumption) (Step.out ?_))
    | (refine CallOK.io1 (g := 14) (Step.out ?_))
    | (refine CallOK.io1 (g := 38) (Step.out ?_))
    | (refine CallOK.io1 (g := 39) (Step.out ?_))
    | (refine CallOK.of_ct (Step.out ?_))
    | (refine CallQ.of_ct (Step.out ?_))
    | (refine Met.by (g := 14) (next_ct _ _) ?_; rintro q outs ⟨x, d, hx, rfl, rfl⟩)
    | (refine Met.by (g := 38) (bonds27_ct _ _ _ _ (by omega) (by omega)) ?_; rintro q outs ⟨l, d, hl, rfl, rfl⟩)
    | (refine Met.by (g := 39) (range_ct _ _ _ (by omega)) ?_; rintro q outs ⟨x, d, hx, rfl, rfl⟩)
    | (refine Vc.mk ?_ (Step.out ?_))
  refine CodeOK.loopW hΓ hm ord12 [] (by kernel_rfl) (α := Int × Int) (fun z => [(0, .loc 0 0), (1, i64 2), (5, i64 z.1), (6, i64 z.2)]) (fun z => [(0, .var d.ls)]) 1 (fun z => (z.2 = 0 ∧ z.1 = 1) ∨ (z.2 = 1 ∧ z.1 = 3) ∨ (z.2 = 2 ∧ z.1 = 9)) (fun z => (2 - z.2).toNat) ?_ ?_
  · refine Again.by (1, 0) (.inl ⟨rfl, rfl⟩) ?_
    repeat' first
      | (refine Step.mk ?_; conv => whnf)
      | (refine Vc.om ?_ ?_; first | omega | with_reducible rfl | with_reducible exact same_rfl | (simp only [bytes_2, bytes_3, bytes_4, bytes_5, bytes_9, bytes_12, bytes_21, bytes_22, bytes_25, bytes_27, bytes_28, bytes_30, bytes_32, bytes_33, bytes_36, bytes_37, bytes_38, bytes_39, bytes_41, bytes_42, bytes_43, bytes_44, bytes_45, bytes_46, bytes_52, bytes_56, bytes_58, bytes_60, bytes_67, bytes_68, bytes_69, bytes_70, bytes_71, bytes_72, bytes_73, bytes_74, bytes_75, bytes_76, bytes_77, bytes_81, bytes_84, bytes_85, bytes_87, bytes_95, bytes_96, bytes_111, bytes_115, true_and, and_true] <;> omega))
      | (refine NilB.mk fun b hb => Step.out ?_)
      | with_reducible trivial
      | exact noSh_bool _
      | exact noSh_lit _
      | exact noSh_int _ _
      | exact noSh_str _
      | with_reducible rfl
      | with_reducible exact same_rfl
      | (refine Wr.i64 ?_ ?_; omega)
      | (refine Wr.u8 ?_ ?_; omega)
      | (refine Wr.i32 ?_ ?_; omega)
      | (with_reducible refine Br.tt ?_)
      | (with_reducible refine Br.ff ?_)
      | (refine Br.dT ?_ ?_; omega)
      | (refine Br.dF ?_ ?_; omega)
      | (refine Br.d (fun h => ?_) (fun h => ?_))
      | (refine Br.swap ?_)
      | (refine Br.bnot ?_)
      | (refine Br.mk (fun h => Step.out ?_) (fun h => Step.out ?_))
      | (refine Two.mk (Step.out ?_) (Step.out ?_))
      | (refine Cp.mk fun q hq => Step.out ?_)
      | (refine Ovl.mk (by assumption) (Step.out ?_))
      | (refine CallOK.io1 (g := 14) (Step.out ?_))
      | (refine CallOK.io1 (g := 38) (Step.out ?_))
      | (refine CallOK.io1 (g := 39) (Step.out ?_))
      | (refine CallOK.of_ct (Step.out ?_))
      | (refine CallQ.of_ct (Step.out ?_))
      | (refine Met.by (g := 14) (next_ct _ _) ?_; rintro q outs ⟨x, d, hx, rfl, rfl⟩)
      | (refine Met.by (g := 38) (bonds27_ct _ _ _ _ (by omega) (by omega)) ?_; rintro q outs ⟨l, d, hl, rfl, rfl⟩)
      | (refine Met.by (g := 39) (range_ct _ _ _ (by omega)) ?_; rintro q outs ⟨x, d, hx, rfl, rfl⟩)
      | (refine Vc.mk ?_ (Step.out ?_))
    all_goals rfl
  · intro ⟨p, i⟩ h1
    dsimp only at h1 ⊢
    repeat' first
      | (refine Step.mk ?_; conv => whnf)
      | (refine Vc.om ?_ ?_; first | omega | with_reducible rfl | with_reducible exact same_rfl | (simp only [bytes_2, bytes_3, bytes_4, bytes_5, bytes_9, bytes_12, bytes_21, bytes_22, bytes_25, bytes_27, bytes_28, bytes_30, bytes_32, bytes_33, bytes_36, bytes_37, bytes_38, bytes_39, bytes_41, bytes_42, bytes_43, bytes_44, bytes_45, bytes_46, bytes_52, bytes_56, bytes_58, bytes_60, bytes_67, bytes_68, bytes_69, bytes_70, bytes_71, bytes_72, bytes_73, bytes_74, bytes_75, bytes_76, bytes_77, bytes_81, bytes_84, bytes_85, bytes_87, bytes_95, bytes_96, bytes_111, bytes_115, true_and, and_true] <;> omega))
      | (refine NilB.mk fun b hb => Step.out ?_)
      | with_reducible trivial
      | exact noSh_bool _
      | exact noSh_lit _
      | exact noSh_int _ _
      | exact noSh_str _
      | with_reducible rfl
      | with_reducible exact same_rfl
      | (refine Wr.i64 ?_ ?_; omega)
      | (refine Wr.u8 ?_ ?_; omega)
      | (refine Wr.i32 ?_ ?_; omega)
      | (with_reducible refine Br.tt ?_)
      | (with_reducible refine Br.ff ?_)
      | (refine Br.dT ?_ ?_; omega)
      | (refine Br.dF ?_ ?_; omega)
      | (refine Br.d (fun h => ?_) (fun h => ?_))
      | (refine Br.swap ?_)
      | (refine Br.bnot ?_)
      | (refine Br.mk (fun h => Step.out ?_) (fun h => Step.out ?_))
      | (refine Two.mk (Step.out ?_) (Step.out ?_))
      | (refine Cp.mk fun q hq => Step.out ?_)
      | (refine Ovl.mk (by assumption) (Step.out ?_))
      | (refine CallOK.io1 (g := 14) (Step.out ?_))
      | (refine CallOK.io1 (g := 38) (Step.out ?_))
      | (refine CallOK.io1 (g := 39) (Step.out ?_))
      | (refine CallOK.of_ct (Step.out ?_))
      | (refine CallQ.of_ct (Step.out ?_))
      | (refine Met.by (g := 14) (next_ct _ _) ?_; rintro q outs ⟨x, d, hx, rfl, rfl⟩)
      | (refine Met.by (g := 38) (bonds27_ct _ _ _ _ (by omega) (by omega)) ?_; rintro q outs ⟨l, d, hl, rfl, rfl⟩)
      | (refine Met.by (g := 39) (range_ct _ _ _ (by omega)) ?_; rintro q outs ⟨x, d, hx, rfl, rfl⟩)
      | (refine Vc.mk ?_ (Step.out ?_))
    · refine Again.by (p * 3, i + 1) ⟨by dsimp only; omega, by dsimp only; omega⟩ ?_
      repeat' first
        | (refine Step.mk ?_; conv => whnf)
        | (refine Vc.om ?_ ?_; first | omega | with_reducible rfl | with_reducible exact same_rfl | (simp only [bytes_2, bytes_3, bytes_4, bytes_5, bytes_9, bytes_12, bytes_21, bytes_22, bytes_25, bytes_27, bytes_28, bytes_30, bytes_32, bytes_33, bytes_36, bytes_37, bytes_38, bytes_39, bytes_41, bytes_42, bytes_43, bytes_44, bytes_45, bytes_46, bytes_52, bytes_56, bytes_58, bytes_60, bytes_67, bytes_68, bytes_69, bytes_70, bytes_71, bytes_72, bytes_73, bytes_74, bytes_75, bytes_76, bytes_77, bytes_81, bytes_84, bytes_85, bytes_87, bytes_95, bytes_96, bytes_111, bytes_115, true_and, and_true] <;> omega))
        | (refine NilB.mk fun b hb => Step.out ?_)
        | with_reducible trivial
        | exact noSh_bool _
        | exact noSh_lit _
        | exact noSh_int _ _
        | exact noSh_str _
        | with_reducible rfl
        | with_reducible exact same_rfl
        | (refine Wr.i64 ?_ ?_; omega)
        | (refine Wr.u8 ?_ ?_; omega)
        | (refine Wr.i32 ?_ ?_; omega)
        | (with_reducible refine Br.tt ?_)
        | (with_reducible refine Br.ff ?_)
        | (refine Br.dT ?_ ?_; omega)
        | (refine Br.dF ?_ ?_; omega)
        | (refine Br.d (fun h => ?_) (fun h => ?_))
        | (refine Br.swap ?_)
        | (refine Br.bnot ?_)
        | (refine Br.mk (fun h => Step.out ?_) (fun h => Step.out ?_))
        | (refine Two.mk (Step.out ?_) (Step.out ?_))
        | (refine Cp.mk fun q hq => Step.out ?_)
        | (refine Ovl.mk (by assumption) (Step.out ?_))
        | (refine CallOK.io1 (g := 14) (Step.out ?_))
        | (refine CallOK.io1 (g := 38) (Step.out ?_))
        | (refine CallOK.io1 (g := 39) (Step.out ?_))
        | (refine CallOK.of_ct (Step.out ?_))
        | (refine CallQ.of_ct (Step.out ?_))
        | (refine Met.by (g := 14) (next_ct _ _) ?_; rintro q outs ⟨x, d, hx, rfl, rfl⟩)
        | (refine Met.by (g := 38) (bonds27_ct _ _ _ _ (by omega) (by omega)) ?_; rintro q outs ⟨l, d, hl, rfl, rfl⟩)
        | (refine Met.by (g := 39) (range_ct _ _ _ (by omega)) ?_; rintro q outs ⟨x, d, hx, rfl, rfl⟩)
        | (refine Vc.mk ?_ (Step.out ?_))
    · have hl0 := hl.n
      refine CodeOK.loopW hΓ hm ord12 [] (by kernel_rfl) (α := Dk × List Cd × Nat) (fun z => [(0, .loc 0 0), (5, i64 p), (7, .own 1), (18, bds l), (19, i64 l.length), (20, i64 z.2.2)]) (fun z => [(0, .var z.1.ls), (1, .arr 39 6 z.2.1.length fun j => Cd.f (z.2.1.getD j Cd.z))]) 2 (fun z => z.2.2 ≤ l.length ∧ z.2.1.map cdKey = (l.take z.2.2).map bdKey ∧ (∀ c ∈ z.2.1, -30 ≤ c.w ∧ c.w ≤ 90) ∧ z.2.1.length ≤ z.2.2) (fun z => l.length - z.2.2) ?_ ?_
      · refine Again.by (d, [], 0) ⟨Nat.zero_le _, rfl, by simp, Nat.le_refl _⟩ ?_
        repeat' first
          | (refine Step.mk ?_; conv => whnf)
          | (refine Vc.om ?_ ?_; first | omega | with_reducible rfl | with_reducible exact same_rfl | (simp only [bytes_2, bytes_3, bytes_4, bytes_5, bytes_9, bytes_12, bytes_21, bytes_22, bytes_25, bytes_27, bytes_28, bytes_30, bytes_32, bytes_33, bytes_36, bytes_37, bytes_38, bytes_39, bytes_41, bytes_42, bytes_43, bytes_44, bytes_45, bytes_46, bytes_52, bytes_56, bytes_58, bytes_60, bytes_67, bytes_68, bytes_69, bytes_70, bytes_71, bytes_72, bytes_73, bytes_74, bytes_75, bytes_76, bytes_77, bytes_81, bytes_84, bytes_85, bytes_87, bytes_95, bytes_96, bytes_111, bytes_115, true_and, and_true] <;> omega))
          | (refine NilB.mk fun b hb => Step.out ?_)
          | with_reducible trivial
          | exact noSh_bool _
          | exact noSh_lit _
          | exact noSh_int _ _
          | exact noSh_str _
          | with_reducible rfl
          | with_reducible exact same_rfl
          | (refine Wr.i64 ?_ ?_; omega)
          | (refine Wr.u8 ?_ ?_; omega)
          | (refine Wr.i32 ?_ ?_; omega)
          | (with_reducible refine Br.tt ?_)
          | (with_reducible refine Br.ff ?_)
          | (refine Br.dT ?_ ?_; omega)
          | (refine Br.dF ?_ ?_; omega)
          | (refine Br.d (fun h => ?_) (fun h => ?_))
          | (refine Br.swap ?_)
          | (refine Br.bnot ?_)
          | (refine Br.mk (fun h => Step.out ?_) (fun h => Step.out ?_))
          | (refine Two.mk (Step.out ?_) (Step.out ?_))
          | (refine Cp.mk fun q hq => Step.out ?_)
          | (refine Ovl.mk (by assumption) (Step.out ?_))
          | (refine CallOK.io1 (g := 14) (Step.out ?_))
          | (refine CallOK.io1 (g := 38) (Step.out ?_))
          | (refine CallOK.io1 (g := 39) (Step.out ?_))
          | (refine CallOK.of_ct (Step.out ?_))
          | (refine CallQ.of_ct (Step.out ?_))
          | (refine Met.by (g := 14) (next_ct _ _) ?_; rintro q outs ⟨x, d, hx, rfl, rfl⟩)
          | (refine Met.by (g := 38) (bonds27_ct _ _ _ _ (by omega) (by omega)) ?_; rintro q outs ⟨l, d, hl, rfl, rfl⟩)
          | (refine Met.by (g := 39) (range_ct _ _ _ (by omega)) ?_; rintro q outs ⟨x, d, hx, rfl, rfl⟩)
          | (refine Vc.mk ?_ (Step.out ?_))
        all_goals rfl
      · intro ⟨d, e, i⟩ ⟨h2, h3, h4, h5⟩
        dsimp only at h2 h3 h4 h5 ⊢
        repeat' first
          | (refine Step.mk ?_; conv => whnf)
          | (refine Vc.om ?_ ?_; first | omega | with_reducible rfl | with_reducible exact same_rfl | (simp only [bytes_2, bytes_3, bytes_4, bytes_5, bytes_9, bytes_12, bytes_21, bytes_22, bytes_25, bytes_27, bytes_28, bytes_30, bytes_32, bytes_33, bytes_36, bytes_37, bytes_38, bytes_39, bytes_41, bytes_42, bytes_43, bytes_44, bytes_45, bytes_46, bytes_52, bytes_56, bytes_58, bytes_60, bytes_67, bytes_68, bytes_69, bytes_70, bytes_71, bytes_72, bytes_73, bytes_74, bytes_75, bytes_76, bytes_77, bytes_81, bytes_84, bytes_85, bytes_87, bytes_95, bytes_96, bytes_111, bytes_115, true_and, and_true] <;> omega))
          | (refine NilB.mk fun b hb => Step.out ?_)
          | with_reducible trivial
          | exact noSh_bool _
          | exact noSh_lit _
          | exact noSh_int _ _
          | exact noSh_str _
          | with_reducible rfl
          | with_reducible exact same_rfl
          | (refine Wr.i64 ?_ ?_; omega)
          | (refine Wr.u8 ?_ ?_; omega)
          | (refine Wr.i32 ?_ ?_; omega)
          | (with_reducible refine Br.tt ?_)
          | (with_reducible refine Br.ff ?_)
          | (refine Br.dT ?_ ?_; omega)
          | (refine Br.dF ?_ ?_; omega)
          | (refine Br.d (fun h => ?_) (fun h => ?_))
          | (refine Br.swap ?_)
          | (refine Br.bnot ?_)
          | (refine Br.mk (fun h => Step.out ?_) (fun h => Step.out ?_))
          | (refine Two.mk (Step.out ?_) (Step.out ?_))
          | (refine Cp.mk fun q hq => Step.out ?_)
          | (refine Ovl.mk (by assumption) (Step.out ?_))
          | (refine CallOK.io1 (g := 14) (Step.out ?_))
          | (refine CallOK.io1 (g := 38) (Step.out ?_))
          | (refine CallOK.io1 (g := 39) (Step.out ?_))
          | (refine CallOK.of_ct (Step.out ?_))
          | (refine CallQ.of_ct (Step.out ?_))
          | (refine Met.by (g := 14) (next_ct _ _) ?_; rintro q outs ⟨x, d, hx, rfl, rfl⟩)
          | (refine Met.by (g := 38) (bonds27_ct _ _ _ _ (by omega) (by omega)) ?_; rintro q outs ⟨l, d, hl, rfl, rfl⟩)
          | (refine Met.by (g := 39) (range_ct _ _ _ (by omega)) ?_; rintro q outs ⟨x, d, hx, rfl, rfl⟩)
          | (refine Vc.mk ?_ (Step.out ?_))
        all_goals try simp only [Int.toNat_natCast] at *
        all_goals try
          rename_i x0 d0 hx0
          refine Again.by (d, e ++ [⟨(l.getD i Bd.z).a, (l.getD i Bd.z).b, x0, x⟩], i + 1) ⟨⟨by dsimp only; omega, ?_, ?_, by simp; omega⟩, by dsimp only; omega⟩ ?_
          · dsimp only
            rw [take_step l Bd.z i (by omega), List.map_append, List.map_append, h3]; rfl
          · intro c hc
            rcases List.mem_append.1 hc with hc | hc
            · exact h4 c hc
            · rw [List.mem_singleton.1 hc]; exact hx
          · repeat' first
              | (refine Step.mk ?_; conv => whnf)
              | (refine Vc.om ?_ ?_; first | omega | with_reducible rfl | with_reducible exact same_rfl | (simp only [bytes_2, bytes_3, bytes_4, bytes_5, bytes_9, bytes_12, bytes_21, bytes_22, bytes_25, bytes_27, bytes_28, bytes_30, bytes_32, bytes_33, bytes_36, bytes_37, bytes_38, bytes_39, bytes_41, bytes_42, bytes_43, bytes_44, bytes_45, bytes_46, bytes_52, bytes_56, bytes_58, bytes_60, bytes_67, bytes_68, bytes_69, bytes_70, bytes_71, bytes_72, bytes_73, bytes_74, bytes_75, bytes_76, bytes_77, bytes_81, bytes_84, bytes_85, bytes_87, bytes_95, bytes_96, bytes_111, bytes_115, true_and, and_true] <;> omega))
              | (refine NilB.mk fun b hb => Step.out ?_)
              | with_reducible trivial
              | exact noSh_bool _
              | exact noSh_lit _
              | exact noSh_int _ _
              | exact noSh_str _
              | with_reducible rfl
              | with_reducible exact same_rfl
              | (refine Wr.i64 ?_ ?_; omega)
              | (refine Wr.u8 ?_ ?_; omega)
              | (refine Wr.i32 ?_ ?_; omega)
              | (with_reducible refine Br.tt ?_)
              | (with_reducible refine Br.ff ?_)
              | (refine Br.dT ?_ ?_; omega)
              | (refine Br.dF ?_ ?_; omega)
              | (refine Br.d (fun h => ?_) (fun h => ?_))
              | (refine Br.swap ?_)
              | (refine Br.bnot ?_)
              | (refine Br.mk (fun h => Step.out ?_) (fun h => Step.out ?_))
              | (refine Two.mk (Step.out ?_) (Step.out ?_))
              | (refine Cp.mk fun q hq => Step.out ?_)
              | (refine Ovl.mk (by assumption) (Step.out ?_))
              | (refine CallOK.io1 (g := 14) (Step.out ?_))
              | (refine CallOK.io1 (g := 38) (Step.out ?_))
              | (refine CallOK.io1 (g := 39) (Step.out ?_))
              | (refine CallOK.of_ct (Step.out ?_))
              | (refine CallQ.of_ct (Step.out ?_))
              | (refine Met.by (g := 14) (next_ct _ _) ?_; rintro q outs ⟨x, d, hx, rfl, rfl⟩)
              | (refine Met.by (g := 38) (bonds27_ct _ _ _ _ (by omega) (by omega)) ?_; rintro q outs ⟨l, d, hl, rfl, rfl⟩)
              | (refine Met.by (g := 39) (range_ct _ _ _ (by omega)) ?_; rintro q outs ⟨x, d, hx, rfl, rfl⟩)
              | (refine Vc.mk ?_ (Step.out ?_))
            exact app1 Cd.f Cd.z ite_cd e _
        · rw [List.take_of_length_le (by omega)] at h3
          refine Lf2.by e d (cdV_of hl h3 h4) ?_
          repeat' first
            | (refine Step.mk ?_; conv => whnf)
            | (refine Vc.om ?_ ?_; first | omega | with_reducible rfl | with_reducible exact same_rfl | (simp only [bytes_2, bytes_3, bytes_4, bytes_5, bytes_9, bytes_12, bytes_21, bytes_22, bytes_25, bytes_27, bytes_28, bytes_30, bytes_32, bytes_33, bytes_36, bytes_37, bytes_38, bytes_39, bytes_41, bytes_42, bytes_43, bytes_44, bytes_45, bytes_46, bytes_52, bytes_56, bytes_58, bytes_60, bytes_67, bytes_68, bytes_69, bytes_70, bytes_71, bytes_72, bytes_73, bytes_74, bytes_75, bytes_76, bytes_77, bytes_81, bytes_84, bytes_85, bytes_87, bytes_95, bytes_96, bytes_111, bytes_115, true_and, and_true] <;> omega))
            | (refine NilB.mk fun b hb => Step.out ?_)
            | with_reducible trivial
            | exact noSh_bool _
            | exact noSh_lit _
            | exact noSh_int _ _
            | exact noSh_str _
            | with_reducible rfl
            | with_reducible exact same_rfl
            | (refine Wr.i64 ?_ ?_; omega)
            | (refine Wr.u8 ?_ ?_; omega)
            | (refine Wr.i32 ?_ ?_; omega)
            | (with_reducible refine Br.tt ?_)
            | (with_reducible refine Br.ff ?_)
            | (refine Br.dT ?_ ?_; omega)
            | (refine Br.dF ?_ ?_; omega)
            | (refine Br.d (fun h => ?_) (fun h => ?_))
            | (refine Br.swap ?_)
            | (refine Br.bnot ?_)
            | (refine Br.mk (fun h => Step.out ?_) (fun h => Step.out ?_))
            | (refine Two.mk (Step.out ?_) (Step.out ?_))
            | (refine Cp.mk fun q hq => Step.out ?_)
            | (refine Ovl.mk (by assumption) (Step.out ?_))
            | (refine CallOK.io1 (g := 14) (Step.out ?_))
            | (refine CallOK.io1 (g := 38) (Step.out ?_))
            | (refine CallOK.io1 (g := 39) (Step.out ?_))
            | (refine CallOK.of_ct (Step.out ?_))
            | (refine CallQ.of_ct (Step.out ?_))
            | (refine Met.by (g := 14) (next_ct _ _) ?_; rintro q outs ⟨x, d, hx, rfl, rfl⟩)
            | (refine Met.by (g := 38) (bonds27_ct _ _ _ _ (by omega) (by omega)) ?_; rintro q outs ⟨l, d, hl, rfl, rfl⟩)
            | (refine Met.by (g := 39) (range_ct _ _ _ (by omega)) ?_; rintro q outs ⟨x, d, hx, rfl, rfl⟩)
            | (refine Vc.mk ?_ (Step.out ?_))
          all_goals exact ⟨rfl, fun _ _ => rfl⟩
def deLt (x y : De) : Prop := cmpD x y < 0
def deQ (x : De) : Prop := cplB x.a x.b = true ∧ verB x.va = true ∧ verB x.vb = true ∧ x.b.g < 3
/-- Decisions that are valid. -/
structure DeV (l : List De) : Prop where
  p : l.Pairwise deLt
  q : ∀ c ∈ l, deQ c
  n : l.length ≤ 4096
theorem deGo_cons (o : Option De) (c : De) (l : List De) : deGo o (c :: l) = if cplB c.a c.b = false then 41 else if (verB c.va && verB c.vb) = false then 42 else if (match o with | none => false | some x => decide (0 ≤ cmpD x c)) = true then 12 else deGo (some c) l := rfl
theorem deGo_zero : ∀ (l : List De) (o : Option De), l.Pairwise deLt → (∀ c ∈ l, deQ c) → (∀ x, o = some x → ∀ c ∈ l, deLt x c) → deGo o l = 0
  | [], _, _, _, _ => rfl
  | c :: l, o, hp, hq, ho => by
    obtain ⟨h1, h2⟩ := List.pairwise_cons.1 hp
    obtain ⟨q1, q2, q3, _⟩ := hq c (by simp)
    rw [deGo_cons, if_neg (by rw [q1]; simp), if_neg (by rw [q2, q3]; simp), if_neg]
    · exact deGo_zero l (some c) h2 (fun x hx => hq x (by simp [hx])) fun x hx y hy => by cases hx; exact h1 y hy
    · cases o with
      | none => simp
      | some x =>
        have := ho x rfl c (by simp)
        simp only [deLt] at this
        simp; omega
theorem DeV.ok {l : List De} (h : DeV l) : decided l = 0 := by
  rw [decided, if_neg (by have := h.n; omega)]
  exact deGo_zero l none h.p h.q (by simp)
theorem ltP_cmpD {x y : De} {r i s k : Int} (h : ltP x.a x.b r i s k) (hA : y.a = ⟨r, i⟩) (hB : y.b = ⟨s, k⟩) : cmpD x y < 0 := by
  have := ltP_cmp h
  rw [cmpD, hA, hB, if_pos (by omega)]; exact this
/-- Decisions dealt as far as a place; the last may stand there. -/
def UpD (r i s k : Int) (l : List De) : Prop := Up De.a De.b deLt deQ 2 r i s k l
theorem UpD.push {r i s k va vb : Int} {b : Bool} {l : List De} (h : UpD r i s k l) (h0 : 0 ≤ r) (h1 : 1 ≤ i ∧ i ≤ 1000) (h2 : r < s ∧ s < 3) (h3 : 1 ≤ k ∧ k ≤ 1000) (h4 : 1 ≤ va ∧ va ≤ 1000) (h5 : 1 ≤ vb ∧ vb ≤ 1000) : UpD r i s (k + 1) (l ++ [⟨⟨r, i⟩, ⟨s, k⟩, va, vb, b⟩]) :=
  Up.push h _ (by omega) rfl rfl (by simp [deQ, cplB, refB, verB]; omega) fun x hx => ltP_cmpD hx rfl rfl
theorem UpD.push2 {r i s k va vb vc : Int} {b b' : Bool} {l : List De} (h : UpD r i s k l) (h0 : 0 ≤ r) (h1 : 1 ≤ i ∧ i ≤ 1000) (h2 : r < s ∧ s < 3) (h3 : 1 ≤ k ∧ k ≤ 1000) (h4 : 1 ≤ va ∧ va ≤ 1000) (h5 : 1 ≤ vb ∧ vb < vc ∧ vc ≤ 1000) : UpD r i s (k + 1) (l ++ [⟨⟨r, i⟩, ⟨s, k⟩, va, vb, b⟩] ++ [⟨⟨r, i⟩, ⟨s, k⟩, va, vc, b'⟩]) := by
  have h' := UpD.push (b := b) (vb := vb) h h0 h1 h2 h3 h4 (by omega)
  refine ⟨List.pairwise_append.2 ⟨h'.p, by simp, fun x hx z hz => ?_⟩, fun x hx => ?_, fun x hx => ?_, ?_⟩
  · rw [List.mem_singleton.1 hz]
    rcases List.mem_append.1 hx with hx | hx
    · exact ltP_cmpD (h.b x hx) rfl rfl
    · rw [List.mem_singleton.1 hx]
      have e1 : cmpC ⟨r, i⟩ ⟨s, k⟩ ⟨r, i⟩ ⟨s, k⟩ = 0 := by rw [cmpC, cmpR_same ⟨rfl, rfl⟩, cmpR_same ⟨rfl, rfl⟩]; rfl
      have e2 : cmpI va va = 0 := by rw [cmpI, if_neg (by omega), if_neg (by omega)]
      have e3 : cmpI vb vc = -1 := by rw [cmpI, if_pos (by omega)]
      rw [deLt, cmpD, if_neg (not_not_intro e1), if_neg (not_not_intro e2)]
      dsimp only
      rw [e3]; decide
  · rcases List.mem_append.1 hx with hx | hx
    · exact h'.b x hx
    · rw [List.mem_singleton.1 hx]; exact .inr ⟨rfl, .inr ⟨rfl, .inr ⟨rfl, Int.lt_succ _⟩⟩⟩
  · rcases List.mem_append.1 hx with hx | hx
    · exact h'.q x hx
    · rw [List.mem_singleton.1 hx]; simp [deQ, cplB, refB, verB]; omega
  · have := h.n
    simp only [List.length_append, List.length_singleton]
    omega
end Kx
