/-
  The law Decides.
  No condition beyond those written in each theorem.
-/
import Derived.Test.YtbljbblijepbbaaKGi
open Go Sx Go.Proofs
set_option linter.unusedSimpArgs false
set_option linter.unusedVariables false
namespace Kx
theorem chk_ok {t : Th} (h : 1 ≤ t.hi ∧ t.hi ≤ 100 ∧ t.lo ≤ t.hi ∧ t.hi - 200 ≤ t.lo) : chkT t = 0 := by rw [chkT, if_neg (by omega)]
theorem fault_ok {t : Th} {l : List Cd} {s : List De} (ht : 1 ≤ t.hi ∧ t.hi ≤ 100 ∧ t.lo ≤ t.hi ∧ t.hi - 200 ≤ t.lo) (hl : CdV l) (hs : decided s = 0) : fault t l s = 0 := by
  rw [fault, chk_ok ht, if_neg (by simp), hl.ok, if_neg (by simp), hs]
def links (t : Th) (l : List Cd) : Nat := (l.filter fun c => decide (t.hi ≤ c.w)).length
theorem bnd_len (t : Th) (s : List De) : ∀ l : List Cd, (bnd t s l).length ≤ l.length
  | [] => Nat.le_refl _
  | c :: l => by
    rw [bnd]; split
    · have := bnd_len t s l; simp only [List.length_cons]; omega
    · have := bnd_len t s l; simp only [List.length_cons]; omega
theorem counts_nil (t : Th) (c : Cd) : counts t [] c = decide (t.hi ≤ c.w) := by
  simp only [counts, tell, Option.getD_none, Option.isSome_none, Bool.not_false, Bool.or_true, Bool.and_true, Bool.and_false, Bool.or_false, cls]
  (repeat' split) <;> simp_all
theorem bnd_nil (t : Th) : ∀ l : List Cd, (bnd t [] l).length = links t l
  | [] => rfl
  | c :: l => by
    have ih := bnd_nil t l
    rw [bnd, counts_nil, links, List.filter_cons]
    split
    · rw [List.length_cons, List.length_cons, ih]; rfl
    · rw [ih]; rfl
theorem links_step (t : Th) (l : List Cd) (i : Nat) (h : i < l.length) : links t (l.take (i + 1)) = if t.hi ≤ (l.getD i Cd.z).w then links t (l.take i) + 1 else links t (l.take i) := by
  rw [links, filter_step _ l Cd.z i h, List.length_append]
  by_cases hc : t.hi ≤ (l.getD i Cd.z).w
  · rw [if_pos (decide_eq_true hc), if_pos hc]; rfl
  · rw [if_neg (by simpa using hc), if_neg hc]; rfl
theorem bnd_hi (t : Th) (s : List De) : ∀ l : List Cd, ∀ y ∈ bnd t s l, t.hi ≤ y.w
  | [], y, h => by simp [bnd] at h
  | c :: l, y, h => by
    rw [bnd] at h; split at h
    · rcases List.mem_cons.1 h with rfl | h
      · simp only [bndOf]; omega
      · exact bnd_hi t s l y h
    · exact bnd_hi t s l y h
theorem mem_bnd (t : Th) (s : List De) : ∀ (l : List Cd) (y : Bd), y ∈ bnd t s l ↔ ∃ c ∈ l, counts t s c = true ∧ bndOf t c = y
  | [], y => by simp [bnd]
  | c :: l, y => by
    rw [bnd]; split
    · rename_i h
      rw [List.mem_cons, mem_bnd t s l y]
      constructor
      · rintro (rfl | ⟨x, hx, h1, h2⟩)
        · exact ⟨c, by simp, h, rfl⟩
        · exact ⟨x, by simp [hx], h1, h2⟩
      · rintro ⟨x, hx, h1, h2⟩
        rcases List.mem_cons.1 hx with rfl | hx
        · exact .inl h2.symm
        · exact .inr ⟨x, hx, h1, h2⟩
    · rename_i h
      rw [mem_bnd t s l y]
      constructor
      · rintro ⟨x, hx, h1, h2⟩
        exact ⟨x, by simp [hx], h1, h2⟩
      · rintro ⟨x, hx, h1, h2⟩
        rcases List.mem_cons.1 hx with rfl | hx
        · exact absurd h1 h
        · exact ⟨x, hx, h1, h2⟩
/-- A couple among bonds. -/
def isIn (b : List Bd) (x y : Rf) : Bool := b.any fun z => decide (z.a = x) && decide (z.b = y)
theorem cmpC_self (a b : Rf) : cmpC a b a b = 0 := by rw [cmpC, cmpR_same ⟨rfl, rfl⟩, cmpR_same ⟨rfl, rfl⟩]; rfl
theorem cdV_inj {l : List Cd} (h : l.Pairwise cdLt) : ∀ x ∈ l, ∀ y ∈ l, x.a = y.a → x.b = y.b → x = y := by
  induction l with
  | nil => intro x hx; simp at hx
  | cons c l ih =>
    obtain ⟨h1, h2⟩ := List.pairwise_cons.1 h
    intro x hx y hy ha hb
    have key : ∀ z ∈ l, c.a = z.a → c.b = z.b → False := fun z hz ea eb => by
      have := h1 z hz
      rw [cdLt, ← ea, ← eb, cmpC_self] at this
      omega
    rcases List.mem_cons.1 hx with ex | hx' <;> rcases List.mem_cons.1 hy with ey | hy'
    · rw [ex, ey]
    · subst ex; exact (key y hy' ha hb).elim
    · subst ey; exact (key x hx' ha.symm hb.symm).elim
    · exact ih h2 x hx' y hy' ha hb
theorem isIn_bnd {t : Th} {s : List De} {l : List Cd} (h : l.Pairwise cdLt) {x : Cd} (hx : x ∈ l) : isIn (bnd t s l) x.a x.b = counts t s x := by
  cases hc : counts t s x with
  | true =>
    rw [isIn, List.any_eq_true]
    exact ⟨bndOf t x, (mem_bnd t s l _).2 ⟨x, hx, hc, rfl⟩, by simp [bndOf]⟩
  | false =>
    rw [isIn, List.any_eq_false]
    intro y hy hb
    obtain ⟨c, hcl, h1, rfl⟩ := (mem_bnd t s l _).1 hy
    simp only [bndOf, Bool.and_eq_true, decide_eq_true_eq] at hb
    rw [cdV_inj h c hcl x hx (of_decide_eq_true hb.1) (of_decide_eq_true hb.2), hc] at h1
    cases h1
def dec1 (x : Cd) (b : Bool) : De := ⟨x.a, x.b, 1, 1, b⟩
theorem dec1_ok {x : Cd} {b : Bool} (h : cplB x.a x.b = true) : decided [dec1 x b] = 0 := by
  rw [decided, if_neg (by simp), deGo_cons, if_neg (by rw [dec1, h]; simp), if_neg (by simp [dec1, verB]), if_neg (by simp)]; rfl
theorem counts_one {t : Th} (ht : t.lo ≤ t.hi) (x : Cd) (b : Bool) : counts t [dec1 x b] x = (b && decide (t.lo ≤ x.w)) := by
  have : tell [dec1 x b] (cdK x) = some b := by rw [tell, if_pos (by rfl)]; rfl
  rw [counts, this]
  simp only [cls]
  cases b <;> (repeat' split) <;> simp_all <;> omega
theorem isIn_step (b : List Bd) (x y : Rf) (i : Nat) (h : i < b.length) : isIn (b.take (i + 1)) x y = (isIn (b.take i) x y || (decide ((b.getD i Bd.z).a = x) && decide ((b.getD i Bd.z).b = y))) := by
  rw [isIn, take_step b Bd.z i h, List.any_append]; simp [isIn]
theorem rf_eq (a b : Rf) : a = b ↔ a.g = b.g ∧ a.i = b.i := by
  obtain ⟨_, _⟩ := a; obtain ⟨_, _⟩ := b; simp
theorem getD_map2 (j : Nat) (h : j < 2) : selC [[D.lit false], [D.lit true]] j = [.bool (if j = 0 then false else true)] := rfl
set_option maxHeartbeats 4000000 in
theorem decides_ct (y0 : List Int) : Ct Try.prog 3 [ints y0] fun r outs => r = .bool true ∧ outs = [] := by
  refine .det (.of_W (fn := Try.f3) hΓ hm Try.func3 [] [] (by kernel_rfl) (Step.out ?_))
  repeat' first
    | (refine Step.mk ?_; conv => whnf)
    | (refine Vc.om ?_ ?_; first | omega | with_reducible rfl | with_reducible exact same_rfl | (simp only [bytes_2, bytes_3, bytes_4, bytes_5, bytes_9, bytes_12, bytes_21, bytes_22, bytes_25, bytes_27, bytes_28, bytes_30, bytes_32, bytes_33, bytes_36, bytes_37, bytes_38, bytes_39, bytes_41, bytes_42, bytes_43, bytes_44, bytes_45, bytes_46, bytes_52, bytes_56, bytes_58, bytes_60, bytes_67, bytes_68, bytes_69, bytes_70, bytes_71, bytes_72, bytes_73, bytes_74, bytes_75, bytes_76, bytes_77, bytes_81, bytes_84, bytes_85, bytes_87, bytes_95, bytes_96, bytes_111, bytes_115, true_and, and_true] <;> omega))
    | (refine NilB.mk fun b hb => Step.out ?_)
    | with_reducible trivial
    | exact noSh_bool _
    | exact noSh_lit _
    | exact noSh_int _ _
    | exact noSh_str _
    | with_reducible rfl
    | with_reducible exact same_rfl
    | (refine Wr.i64 ?_ ?_; omega)
    | (refine Wr.u8 ?_ ?_; omega)
    | (refine Wr.i32 ?_ ?_; omega)
    | (with_reducible refine Br.tt ?_)
    | (with_reducible refine Br.ff ?_)
    | (refine Br.dT ?_ ?_; omega)
    | (refine Br.dF ?_ ?_; omega)
    | (refine Met.by (bonds0_ct t l) ?_; rintro q outs ⟨rfl, rfl⟩)
    | (refine Br.d (fun h => ?_) (fun h => ?_))
    | (refine Br.swap ?_)
    | (refine Br.bnot ?_)
    | (refine Br.mk (fun h => Step.out ?_) (fun h => Step.out ?_))
    | (refine Two.mk (Step.out ?_) (Step.out ?_))
    | (refine Cp.mk fun q hq => Step.out ?_)
    | (refine Ovl.mk (by assumption) (Step.out ?_))
    | (refine CallOK.io1 (g := 11) (Step.out ?_))
    | (refine CallOK.io1 (g := 12) (Step.out ?_))
    | (refine CallOK.ctF (g := 13) (Step.out ?_))
    | (refine CallOK.io1 (g := 14) (Step.out ?_))
    | (refine CallOK.of_ct (Step.out ?_))
    | (refine CallQ.of_ct (Step.out ?_))
    | (refine Met.by (g := 8) (awake_ct) ?_; rintro q outs ⟨rfl, rfl⟩)
    | (refine Met.by (g := 9) (few_ct _) ?_; rintro q outs ⟨rfl, rfl⟩)
    | (refine Met.by (g := 10) (new_ct _ (by assumption)) ?_; rintro q outs ⟨d, hd, rfl, rfl⟩)
    | (refine Met.by (g := 11) (thresholds_ct _) ?_; rintro q outs ⟨t, d, ht, rfl, rfl⟩)
    | (refine Met.by (g := 12) (candidates_ct _) ?_; rintro q outs ⟨l, d, hl, rfl, rfl⟩)
    | (refine Met.by (g := 13) (bonds_ct _ _ _) ?_; rintro q outs ⟨rfl, rfl⟩)
    | (refine Met.by (g := 14) (next_ct _ _) ?_; rintro q outs ⟨x, d, hx, rfl, rfl⟩)
    | (refine Vc.mk ?_ (Step.out ?_))
  · have hl0 := hl.n
    have hbl : (bondsL t l []).length = links t l := by rw [bondsL, if_pos h, bnd_nil]
    have hlk : links t l ≤ l.length := List.length_filter_le _ _
    refine CodeOK.loopW hΓ hm [] [] (by kernel_rfl) (α := Nat) (fun i => [(3, .loc 0 0), (4, .loc 1 0), (5, cds l), (6, bds (bondsL t l [])), (8, i64 (links t (l.take i))), (41, cds l), (42, i64 l.length), (43, i64 i)]) (fun i => [(0, .var d.ls), (1, .var [i64 t.lo, i64 t.hi])]) 2 (fun i => i ≤ l.length) (fun i => l.length - i) ?_ ?_
    · refine Again.by 0 (Nat.zero_le _) ?_
      repeat' first
        | (refine Step.mk ?_; conv => whnf)
        | (refine Vc.om ?_ ?_; first | omega | with_reducible rfl | with_reducible exact same_rfl | (simp only [bytes_2, bytes_3, bytes_4, bytes_5, bytes_9, bytes_12, bytes_21, bytes_22, bytes_25, bytes_27, bytes_28, bytes_30, bytes_32, bytes_33, bytes_36, bytes_37, bytes_38, bytes_39, bytes_41, bytes_42, bytes_43, bytes_44, bytes_45, bytes_46, bytes_52, bytes_56, bytes_58, bytes_60, bytes_67, bytes_68, bytes_69, bytes_70, bytes_71, bytes_72, bytes_73, bytes_74, bytes_75, bytes_76, bytes_77, bytes_81, bytes_84, bytes_85, bytes_87, bytes_95, bytes_96, bytes_111, bytes_115, true_and, and_true] <;> omega))
        | (refine NilB.mk fun b hb => Step.out ?_)
        | with_reducible trivial
        | exact noSh_bool _
        | exact noSh_lit _
        | exact noSh_int _ _
        | exact noSh_str _
        | with_reducible rfl
        | with_reducible exact same_rfl
        | (refine Wr.i64 ?_ ?_; omega)
        | (refine Wr.u8 ?_ ?_; omega)
        | (refine Wr.i32 ?_ ?_; omega)
        | (with_reducible refine Br.tt ?_)
        | (with_reducible refine Br.ff ?_)
        | (refine Br.dT ?_ ?_; omega)
        | (refine Br.dF ?_ ?_; omega)
        | (refine Br.d (fun h => ?_) (fun h => ?_))
        | (refine Br.swap ?_)
        | (refine Br.bnot ?_)
        | (refine Br.mk (fun h => Step.out ?_) (fun h => Step.out ?_))
        | (refine Two.mk (Step.out ?_) (Step.out ?_))
        | (refine Cp.mk fun q hq => Step.out ?_)
        | (refine Ovl.mk (by assumption) (Step.out ?_))
        | (refine CallOK.io1 (g := 11) (Step.out ?_))
        | (refine CallOK.io1 (g := 12) (Step.out ?_))
        | (refine CallOK.ctF (g := 13) (Step.out ?_))
        | (refine CallOK.io1 (g := 14) (Step.out ?_))
        | (refine CallOK.of_ct (Step.out ?_))
        | (refine CallQ.of_ct (Step.out ?_))
        | (refine Met.by (g := 8) (awake_ct) ?_; rintro q outs ⟨rfl, rfl⟩)
        | (refine Met.by (g := 9) (few_ct _) ?_; rintro q outs ⟨rfl, rfl⟩)
        | (refine Met.by (g := 10) (new_ct _ (by assumption)) ?_; rintro q outs ⟨d, hd, rfl, rfl⟩)
        | (refine Met.by (g := 11) (thresholds_ct _) ?_; rintro q outs ⟨t, d, ht, rfl, rfl⟩)
        | (refine Met.by (g := 12) (candidates_ct _) ?_; rintro q outs ⟨l, d, hl, rfl, rfl⟩)
        | (refine Met.by (g := 13) (bonds_ct _ _ _) ?_; rintro q outs ⟨rfl, rfl⟩)
        | (refine Met.by (g := 14) (next_ct _ _) ?_; rintro q outs ⟨x, d, hx, rfl, rfl⟩)
        | (refine Vc.mk ?_ (Step.out ?_))
      all_goals rfl
    · intro i hi
      have hli : links t (l.take i) ≤ i := Nat.le_trans (List.length_filter_le _ _) (by rw [List.length_take]; omega)
      repeat' first
        | (refine Step.mk ?_; conv => whnf)
        | (refine Vc.om ?_ ?_; first | omega | with_reducible rfl | with_reducible exact same_rfl | (simp only [bytes_2, bytes_3, bytes_4, bytes_5, bytes_9, bytes_12, bytes_21, bytes_22, bytes_25, bytes_27, bytes_28, bytes_30, bytes_32, bytes_33, bytes_36, bytes_37, bytes_38, bytes_39, bytes_41, bytes_42, bytes_43, bytes_44, bytes_45, bytes_46, bytes_52, bytes_56, bytes_58, bytes_60, bytes_67, bytes_68, bytes_69, bytes_70, bytes_71, bytes_72, bytes_73, bytes_74, bytes_75, bytes_76, bytes_77, bytes_81, bytes_84, bytes_85, bytes_87, bytes_95, bytes_96, bytes_111, bytes_115, true_and, and_true] <;> omega))
        | (refine NilB.mk fun b hb => Step.out ?_)
        | with_reducible trivial
        | exact noSh_bool _
        | exact noSh_lit _
        | exact noSh_int _ _
        | exact noSh_str _
        | with_reducible rfl
        | with_reducible exact same_rfl
        | (refine Wr.i64 ?_ ?_; omega)
        | (refine Wr.u8 ?_ ?_; omega)
        | (refine Wr.i32 ?_ ?_; omega)
        | (with_reducible refine Br.tt ?_)
        | (with_reducible refine Br.ff ?_)
        | (refine Br.dT ?_ ?_; omega)
        | (refine Br.dF ?_ ?_; omega)
        | (refine Br.d (fun h => ?_) (fun h => ?_))
        | (refine Br.swap ?_)
        | (refine Br.bnot ?_)
        | (refine Br.mk (fun h => Step.out ?_) (fun h => Step.out ?_))
        | (refine Two.mk (Step.out ?_) (Step.out ?_))
        | (refine Cp.mk fun q hq => Step.out ?_)
        | (refine Ovl.mk (by assumption) (Step.out ?_))
        | (refine CallOK.io1 (g := 11) (Step.out ?_))
        | (refine CallOK.io1 (g := 12) (Step.out ?_))
        | (refine CallOK.ctF (g := 13) (Step.out ?_))
        | (refine CallOK.io1 (g := 14) (Step.out ?_))
        | (refine CallOK.of_ct (Step.out ?_))
        | (refine CallQ.of_ct (Step.out ?_))
        | (refine Met.by (g := 8) (awake_ct) ?_; rintro q outs ⟨rfl, rfl⟩)
        | (refine Met.by (g := 9) (few_ct _) ?_; rintro q outs ⟨rfl, rfl⟩)
        | (refine Met.by (g := 10) (new_ct _ (by assumption)) ?_; rintro q outs ⟨d, hd, rfl, rfl⟩)
        | (refine Met.by (g := 11) (thresholds_ct _) ?_; rintro q outs ⟨t, d, ht, rfl, rfl⟩)
        | (refine Met.by (g := 12) (candidates_ct _) ?_; rintro q outs ⟨l, d, hl, rfl, rfl⟩)
        | (refine Met.by (g := 13) (bonds_ct _ _ _) ?_; rintro q outs ⟨rfl, rfl⟩)
        | (refine Met.by (g := 14) (next_ct _ _) ?_; rintro q outs ⟨x, d, hx, rfl, rfl⟩)
        | (refine Vc.mk ?_ (Step.out ?_))
      all_goals try simp only [Int.toNat_natCast] at *
      · refine Again.by (i + 1) ⟨by omega, by omega⟩ ?_
        rw [links_step t l i (by omega), if_pos ‹_›]
        repeat' first
          | (refine Step.mk ?_; conv => whnf)
          | (refine Vc.om ?_ ?_; first | omega | with_reducible rfl | with_reducible exact same_rfl | (simp only [bytes_2, bytes_3, bytes_4, bytes_5, bytes_9, bytes_12, bytes_21, bytes_22, bytes_25, bytes_27, bytes_28, bytes_30, bytes_32, bytes_33, bytes_36, bytes_37, bytes_38, bytes_39, bytes_41, bytes_42, bytes_43, bytes_44, bytes_45, bytes_46, bytes_52, bytes_56, bytes_58, bytes_60, bytes_67, bytes_68, bytes_69, bytes_70, bytes_71, bytes_72, bytes_73, bytes_74, bytes_75, bytes_76, bytes_77, bytes_81, bytes_84, bytes_85, bytes_87, bytes_95, bytes_96, bytes_111, bytes_115, true_and, and_true] <;> omega))
          | (refine NilB.mk fun b hb => Step.out ?_)
          | with_reducible trivial
          | exact noSh_bool _
          | exact noSh_lit _
          | exact noSh_int _ _
          | exact noSh_str _
          | with_reducible rfl
          | with_reducible exact same_rfl
          | (refine Wr.i64 ?_ ?_; omega)
          | (refine Wr.u8 ?_ ?_; omega)
          | (refine Wr.i32 ?_ ?_; omega)
          | (with_reducible refine Br.tt ?_)
          | (with_reducible refine Br.ff ?_)
          | (refine Br.dT ?_ ?_; omega)
          | (refine Br.dF ?_ ?_; omega)
          | (refine Br.d (fun h => ?_) (fun h => ?_))
          | (refine Br.swap ?_)
          | (refine Br.bnot ?_)
          | (refine Br.mk (fun h => Step.out ?_) (fun h => Step.out ?_))
          | (refine Two.mk (Step.out ?_) (Step.out ?_))
          | (refine Cp.mk fun q hq => Step.out ?_)
          | (refine Ovl.mk (by assumption) (Step.out ?_))
          | (refine CallOK.io1 (g := 11) (Step.out ?_))
          | (refine CallOK.io1 (g := 12) (Step.out ?_))
          | (refine CallOK.ctF (g := 13) (Step.out ?_))
          | (refine CallOK.io1 (g := 14) (Step.out ?_))
          | (refine CallOK.of_ct (Step.out ?_))
          | (refine CallQ.of_ct (Step.out ?_))
          | (refine Met.by (g := 8) (awake_ct) ?_; rintro q outs ⟨rfl, rfl⟩)
          | (refine Met.by (g := 9) (few_ct _) ?_; rintro q outs ⟨rfl, rfl⟩)
          | (refine Met.by (g := 10) (new_ct _ (by assumption)) ?_; rintro q outs ⟨d, hd, rfl, rfl⟩)
          | (refine Met.by (g := 11) (thresholds_ct _) ?_; rintro q outs ⟨t, d, ht, rfl, rfl⟩)
          | (refine Met.by (g := 12) (candidates_ct _) ?_; rintro q outs ⟨l, d, hl, rfl, rfl⟩)
          | (refine Met.by (g := 13) (bonds_ct _ _ _) ?_; rintro q outs ⟨rfl, rfl⟩)
          | (refine Met.by (g := 14) (next_ct _ _) ?_; rintro q outs ⟨x, d, hx, rfl, rfl⟩)
          | (refine Vc.mk ?_ (Step.out ?_))
      · refine Again.by (i + 1) ⟨by omega, by omega⟩ ?_
        rw [links_step t l i (by omega), if_neg ‹_›]
        repeat' first
          | (refine Step.mk ?_; conv => whnf)
          | (refine Vc.om ?_ ?_; first | omega | with_reducible rfl | with_reducible exact same_rfl | (simp only [bytes_2, bytes_3, bytes_4, bytes_5, bytes_9, bytes_12, bytes_21, bytes_22, bytes_25, bytes_27, bytes_28, bytes_30, bytes_32, bytes_33, bytes_36, bytes_37, bytes_38, bytes_39, bytes_41, bytes_42, bytes_43, bytes_44, bytes_45, bytes_46, bytes_52, bytes_56, bytes_58, bytes_60, bytes_67, bytes_68, bytes_69, bytes_70, bytes_71, bytes_72, bytes_73, bytes_74, bytes_75, bytes_76, bytes_77, bytes_81, bytes_84, bytes_85, bytes_87, bytes_95, bytes_96, bytes_111, bytes_115, true_and, and_true] <;> omega))
          | (refine NilB.mk fun b hb => Step.out ?_)
          | with_reducible trivial
          | exact noSh_bool _
          | exact noSh_lit _
          | exact noSh_int _ _
          | exact noSh_str _
          | with_reducible rfl
          | with_reducible exact same_rfl
          | (refine Wr.i64 ?_ ?_; omega)
          | (refine Wr.u8 ?_ ?_; omega)
          | (refine Wr.i32 ?_ ?_; omega)
          | (with_reducible refine Br.tt ?_)
          | (with_reducible refine Br.ff ?_)
          | (refine Br.dT ?_ ?_; omega)
          | (refine Br.dF ?_ ?_; omega)
          | (refine Br.d (fun h => ?_) (fun h => ?_))
          | (refine Br.swap ?_)
          | (refine Br.bnot ?_)
          | (refine Br.mk (fun h => Step.out ?_) (fun h => Step.out ?_))
          | (refine Two.mk (Step.out ?_) (Step.out ?_))
          | (refine Cp.mk fun q hq => Step.out ?_)
          | (refine Ovl.mk (by assumption) (Step.out ?_))
          | (refine CallOK.io1 (g := 11) (Step.out ?_))
          | (refine CallOK.io1 (g := 12) (Step.out ?_))
          | (refine CallOK.ctF (g := 13) (Step.out ?_))
          | (refine CallOK.io1 (g := 14) (Step.out ?_))
          | (refine CallOK.of_ct (Step.out ?_))
          | (refine CallQ.of_ct (Step.out ?_))
          | (refine Met.by (g := 8) (awake_ct) ?_; rintro q outs ⟨rfl, rfl⟩)
          | (refine Met.by (g := 9) (few_ct _) ?_; rintro q outs ⟨rfl, rfl⟩)
          | (refine Met.by (g := 10) (new_ct _ (by assumption)) ?_; rintro q outs ⟨d, hd, rfl, rfl⟩)
          | (refine Met.by (g := 11) (thresholds_ct _) ?_; rintro q outs ⟨t, d, ht, rfl, rfl⟩)
          | (refine Met.by (g := 12) (candidates_ct _) ?_; rintro q outs ⟨l, d, hl, rfl, rfl⟩)
          | (refine Met.by (g := 13) (bonds_ct _ _ _) ?_; rintro q outs ⟨rfl, rfl⟩)
          | (refine Met.by (g := 14) (next_ct _ _) ?_; rintro q outs ⟨x, d, hx, rfl, rfl⟩)
          | (refine Vc.mk ?_ (Step.out ?_))
      · have hle : links t (l.take i) = links t l := by rw [List.take_of_length_le (by omega)]
        exact decide_eq_true (by omega)
      · have hX : l.getD x.toNat Cd.z ∈ l := getD_in (by omega)
        generalize hXe : l.getD x.toNat Cd.z = X at *
        refine CodeOK.loopW hΓ hm [] [] (by kernel_rfl) (α := Nat) (fun j => [(4, .loc 0 0), (5, cds l), (11, .loc 1 0), (75, .tab 1 2 fun j => [.bool (if j = 0 then false else true)]), (76, i64 2), (77, i64 j)]) (fun j => [(0, .var [i64 t.lo, i64 t.hi]), (1, .var (Cd.f X))]) 2 (fun j => j ≤ 2) (fun j => 2 - j) ?_ ?_
        · refine Again.by 0 (Nat.zero_le _) ?_
          repeat' first
            | (refine Step.mk ?_; conv => whnf)
            | (refine Vc.om ?_ ?_; first | omega | with_reducible rfl | with_reducible exact same_rfl | (simp only [bytes_2, bytes_3, bytes_4, bytes_5, bytes_9, bytes_12, bytes_21, bytes_22, bytes_25, bytes_27, bytes_28, bytes_30, bytes_32, bytes_33, bytes_36, bytes_37, bytes_38, bytes_39, bytes_41, bytes_42, bytes_43, bytes_44, bytes_45, bytes_46, bytes_52, bytes_56, bytes_58, bytes_60, bytes_67, bytes_68, bytes_69, bytes_70, bytes_71, bytes_72, bytes_73, bytes_74, bytes_75, bytes_76, bytes_77, bytes_81, bytes_84, bytes_85, bytes_87, bytes_95, bytes_96, bytes_111, bytes_115, true_and, and_true] <;> omega))
            | (refine NilB.mk fun b hb => Step.out ?_)
            | with_reducible trivial
            | exact noSh_bool _
            | exact noSh_lit _
            | exact noSh_int _ _
            | exact noSh_str _
            | with_reducible rfl
            | with_reducible exact same_rfl
            | (refine Wr.i64 ?_ ?_; omega)
            | (refine Wr.u8 ?_ ?_; omega)
            | (refine Wr.i32 ?_ ?_; omega)
            | (with_reducible refine Br.tt ?_)
            | (with_reducible refine Br.ff ?_)
            | (refine Br.dT ?_ ?_; omega)
            | (refine Br.dF ?_ ?_; omega)
            | (refine Br.d (fun h => ?_) (fun h => ?_))
            | (refine Br.swap ?_)
            | (refine Br.bnot ?_)
            | (refine Br.mk (fun h => Step.out ?_) (fun h => Step.out ?_))
            | (refine Two.mk (Step.out ?_) (Step.out ?_))
            | (refine Cp.mk fun q hq => Step.out ?_)
            | (refine Ovl.mk (by assumption) (Step.out ?_))
            | (refine CallOK.io1 (g := 11) (Step.out ?_))
            | (refine CallOK.io1 (g := 12) (Step.out ?_))
            | (refine CallOK.ctF (g := 13) (Step.out ?_))
            | (refine CallOK.io1 (g := 14) (Step.out ?_))
            | (refine CallOK.of_ct (Step.out ?_))
            | (refine CallQ.of_ct (Step.out ?_))
            | (refine Met.by (g := 8) (awake_ct) ?_; rintro q outs ⟨rfl, rfl⟩)
            | (refine Met.by (g := 9) (few_ct _) ?_; rintro q outs ⟨rfl, rfl⟩)
            | (refine Met.by (g := 10) (new_ct _ (by assumption)) ?_; rintro q outs ⟨d, hd, rfl, rfl⟩)
            | (refine Met.by (g := 11) (thresholds_ct _) ?_; rintro q outs ⟨t, d, ht, rfl, rfl⟩)
            | (refine Met.by (g := 12) (candidates_ct _) ?_; rintro q outs ⟨l, d, hl, rfl, rfl⟩)
            | (refine Met.by (g := 13) (bonds_ct _ _ _) ?_; rintro q outs ⟨rfl, rfl⟩)
            | (refine Met.by (g := 14) (next_ct _ _) ?_; rintro q outs ⟨x, d, hx, rfl, rfl⟩)
            | (refine Vc.mk ?_ (Step.out ?_))
          all_goals first | rfl | exact ⟨rfl, fun _ _ => rfl⟩
        · intro j hj
          have hfl : fault t l [dec1 X (if (j : Int).toNat = 0 then false else true)] = 0 := fault_ok (by omega) hl (dec1_ok (hl.q X hX))
          have hbs : (bondsL t l [dec1 X (if (j : Int).toNat = 0 then false else true)]) = bnd t [dec1 X (if (j : Int).toNat = 0 then false else true)] l := if_pos hfl
          have hbn := bnd_len t [dec1 X (if (j : Int).toNat = 0 then false else true)] l
          have hin := isIn_bnd (t := t) (s := [dec1 X (if (j : Int).toNat = 0 then false else true)]) hl.p hX
          rw [counts_one (by omega), ← hbs] at hin
          have hhi := bnd_hi t [dec1 X (if (j : Int).toNat = 0 then false else true)] l
          rw [← hbs] at hhi hbn
          repeat' first
            | (refine Step.mk ?_; conv => whnf)
            | (refine Vc.om ?_ ?_; first | omega | with_reducible rfl | with_reducible exact same_rfl | (simp only [bytes_2, bytes_3, bytes_4, bytes_5, bytes_9, bytes_12, bytes_21, bytes_22, bytes_25, bytes_27, bytes_28, bytes_30, bytes_32, bytes_33, bytes_36, bytes_37, bytes_38, bytes_39, bytes_41, bytes_42, bytes_43, bytes_44, bytes_45, bytes_46, bytes_52, bytes_56, bytes_58, bytes_60, bytes_67, bytes_68, bytes_69, bytes_70, bytes_71, bytes_72, bytes_73, bytes_74, bytes_75, bytes_76, bytes_77, bytes_81, bytes_84, bytes_85, bytes_87, bytes_95, bytes_96, bytes_111, bytes_115, true_and, and_true] <;> omega))
            | (refine NilB.mk fun b hb => Step.out ?_)
            | with_reducible trivial
            | exact noSh_bool _
            | exact noSh_lit _
            | exact noSh_int _ _
            | exact noSh_str _
            | with_reducible rfl
            | with_reducible exact same_rfl
            | (refine Wr.i64 ?_ ?_; omega)
            | (refine Wr.u8 ?_ ?_; omega)
            | (refine Wr.i32 ?_ ?_; omega)
            | (with_reducible refine Br.tt ?_)
            | (with_reducible refine Br.ff ?_)
            | (refine Br.dT ?_ ?_; omega)
            | (refine Br.dF ?_ ?_; omega)
            | (refine Met.by (bonds1_ct t l (dec1 X (if (j : Int).toNat = 0 then false else true))) ?_; rintro q outs ⟨rfl, rfl⟩)
            | (refine Br.d (fun h => ?_) (fun h => ?_))
            | (refine Br.swap ?_)
            | (refine Br.bnot ?_)
            | (refine Br.mk (fun h => Step.out ?_) (fun h => Step.out ?_))
            | (refine Two.mk (Step.out ?_) (Step.out ?_))
            | (refine Cp.mk fun q hq => Step.out ?_)
            | (refine Ovl.mk (by assumption) (Step.out ?_))
            | (refine CallOK.io1 (g := 11) (Step.out ?_))
            | (refine CallOK.io1 (g := 12) (Step.out ?_))
            | (refine CallOK.ctF (g := 13) (Step.out ?_))
            | (refine CallOK.io1 (g := 14) (Step.out ?_))
            | (refine CallOK.of_ct (Step.out ?_))
            | (refine CallQ.of_ct (Step.out ?_))
            | (refine Met.by (g := 8) (awake_ct) ?_; rintro q outs ⟨rfl, rfl⟩)
            | (refine Met.by (g := 9) (few_ct _) ?_; rintro q outs ⟨rfl, rfl⟩)
            | (refine Met.by (g := 10) (new_ct _ (by assumption)) ?_; rintro q outs ⟨d, hd, rfl, rfl⟩)
            | (refine Met.by (g := 11) (thresholds_ct _) ?_; rintro q outs ⟨t, d, ht, rfl, rfl⟩)
            | (refine Met.by (g := 12) (candidates_ct _) ?_; rintro q outs ⟨l, d, hl, rfl, rfl⟩)
            | (refine Met.by (g := 13) (bonds_ct _ _ _) ?_; rintro q outs ⟨rfl, rfl⟩)
            | (refine Met.by (g := 14) (next_ct _ _) ?_; rintro q outs ⟨x, d, hx, rfl, rfl⟩)
            | (refine Vc.mk ?_ (Step.out ?_))
          · refine CodeOK.loopW hΓ hm [] [] (by kernel_rfl) (α := Nat) (fun i => [(4, .loc 0 0), (5, cds l), (11, .loc 1 0), (13, .bool (if (j : Int).toNat = 0 then false else true)), (15, i64 0), (16, .bool (isIn ((bondsL t l [dec1 X (if (j : Int).toNat = 0 then false else true)]).take i) X.a X.b)), (75, .tab 1 2 fun j => [.bool (if j = 0 then false else true)]), (76, i64 2), (77, i64 j), (94, bds (bondsL t l [dec1 X (if (j : Int).toNat = 0 then false else true)])), (95, i64 (bondsL t l [dec1 X (if (j : Int).toNat = 0 then false else true)]).length), (96, i64 i)]) (fun i => [(0, .var [i64 t.lo, i64 t.hi]), (1, .var (Cd.f X))]) 2 (fun i => i ≤ (bondsL t l [dec1 X (if (j : Int).toNat = 0 then false else true)]).length) (fun i => (bondsL t l [dec1 X (if (j : Int).toNat = 0 then false else true)]).length - i) ?_ ?_
            · refine Again.by 0 (Nat.zero_le _) ?_
              repeat' first
                | (refine Step.mk ?_; conv => whnf)
                | (refine Vc.om ?_ ?_; first | omega | with_reducible rfl | with_reducible exact same_rfl | (simp only [bytes_2, bytes_3, bytes_4, bytes_5, bytes_9, bytes_12, bytes_21, bytes_22, bytes_25, bytes_27, bytes_28, bytes_30, bytes_32, bytes_33, bytes_36, bytes_37, bytes_38, bytes_39, bytes_41, bytes_42, bytes_43, bytes_44, bytes_45, bytes_46, bytes_52, bytes_56, bytes_58, bytes_60, bytes_67, bytes_68, bytes_69, bytes_70, bytes_71, bytes_72, bytes_73, bytes_74, bytes_75, bytes_76, bytes_77, bytes_81, bytes_84, bytes_85, bytes_87, bytes_95, bytes_96, bytes_111, bytes_115, true_and, and_true] <;> omega))
                | (refine NilB.mk fun b hb => Step.out ?_)
                | with_reducible trivial
                | exact noSh_bool _
                | exact noSh_lit _
                | exact noSh_int _ _
                | exact noSh_str _
                | with_reducible rfl
                | with_reducible exact same_rfl
                | (refine Wr.i64 ?_ ?_; omega)
                | (refine Wr.u8 ?_ ?_; omega)
                | (refine Wr.i32 ?_ ?_; omega)
                | (with_reducible refine Br.tt ?_)
                | (with_reducible refine Br.ff ?_)
                | (refine Br.dT ?_ ?_; omega)
                | (refine Br.dF ?_ ?_; omega)
                | (refine Br.d (fun h => ?_) (fun h => ?_))
                | (refine Br.swap ?_)
                | (refine Br.bnot ?_)
                | (refine Br.mk (fun h => Step.out ?_) (fun h => Step.out ?_))
                | (refine Two.mk (Step.out ?_) (Step.out ?_))
                | (refine Cp.mk fun q hq => Step.out ?_)
                | (refine Ovl.mk (by assumption) (Step.out ?_))
                | (refine CallOK.io1 (g := 11) (Step.out ?_))
                | (refine CallOK.io1 (g := 12) (Step.out ?_))
                | (refine CallOK.ctF (g := 13) (Step.out ?_))
                | (refine CallOK.io1 (g := 14) (Step.out ?_))
                | (refine CallOK.of_ct (Step.out ?_))
                | (refine CallQ.of_ct (Step.out ?_))
                | (refine Met.by (g := 8) (awake_ct) ?_; rintro q outs ⟨rfl, rfl⟩)
                | (refine Met.by (g := 9) (few_ct _) ?_; rintro q outs ⟨rfl, rfl⟩)
                | (refine Met.by (g := 10) (new_ct _ (by assumption)) ?_; rintro q outs ⟨d, hd, rfl, rfl⟩)
                | (refine Met.by (g := 11) (thresholds_ct _) ?_; rintro q outs ⟨t, d, ht, rfl, rfl⟩)
                | (refine Met.by (g := 12) (candidates_ct _) ?_; rintro q outs ⟨l, d, hl, rfl, rfl⟩)
                | (refine Met.by (g := 13) (bonds_ct _ _ _) ?_; rintro q outs ⟨rfl, rfl⟩)
                | (refine Met.by (g := 14) (next_ct _ _) ?_; rintro q outs ⟨x, d, hx, rfl, rfl⟩)
                | (refine Vc.mk ?_ (Step.out ?_))
              all_goals first | rfl | exact hfl | exact ⟨rfl, fun _ _ => rfl⟩
            · intro i hi
              clear hfl hbs
              generalize (bondsL t l [dec1 X (if (j : Int).toNat = 0 then false else true)]) = B at *
              generalize (if (j : Int).toNat = 0 then false else true) = b at *
              have hhi' := fun (h : i < B.length) => hhi (B.getD (i : Int).toNat Bd.z) (getD_in (by omega))
              repeat' first
                | (refine Step.mk ?_; conv => whnf)
                | (refine Vc.om ?_ ?_; first | omega | with_reducible rfl | with_reducible exact same_rfl | (simp only [bytes_2, bytes_3, bytes_4, bytes_5, bytes_9, bytes_12, bytes_21, bytes_22, bytes_25, bytes_27, bytes_28, bytes_30, bytes_32, bytes_33, bytes_36, bytes_37, bytes_38, bytes_39, bytes_41, bytes_42, bytes_43, bytes_44, bytes_45, bytes_46, bytes_52, bytes_56, bytes_58, bytes_60, bytes_67, bytes_68, bytes_69, bytes_70, bytes_71, bytes_72, bytes_73, bytes_74, bytes_75, bytes_76, bytes_77, bytes_81, bytes_84, bytes_85, bytes_87, bytes_95, bytes_96, bytes_111, bytes_115, true_and, and_true] <;> omega))
                | (refine NilB.mk fun b hb => Step.out ?_)
                | with_reducible trivial
                | exact noSh_bool _
                | exact noSh_lit _
                | exact noSh_int _ _
                | exact noSh_str _
                | with_reducible rfl
                | with_reducible exact same_rfl
                | (refine Wr.i64 ?_ ?_; omega)
                | (refine Wr.u8 ?_ ?_; omega)
                | (refine Wr.i32 ?_ ?_; omega)
                | (with_reducible refine Br.tt ?_)
                | (with_reducible refine Br.ff ?_)
                | (refine Br.dT ?_ ?_; omega)
                | (refine Br.dF ?_ ?_; omega)
                | (refine Br.d (fun h => ?_) (fun h => ?_))
                | (refine Br.swap ?_)
                | (refine Br.bnot ?_)
                | (refine Br.mk (fun h => Step.out ?_) (fun h => Step.out ?_))
                | (refine Two.mk (Step.out ?_) (Step.out ?_))
                | (refine Cp.mk fun q hq => Step.out ?_)
                | (refine Ovl.mk (by assumption) (Step.out ?_))
                | (refine CallOK.io1 (g := 11) (Step.out ?_))
                | (refine CallOK.io1 (g := 12) (Step.out ?_))
                | (refine CallOK.ctF (g := 13) (Step.out ?_))
                | (refine CallOK.io1 (g := 14) (Step.out ?_))
                | (refine CallOK.of_ct (Step.out ?_))
                | (refine CallQ.of_ct (Step.out ?_))
                | (refine Met.by (g := 8) (awake_ct) ?_; rintro q outs ⟨rfl, rfl⟩)
                | (refine Met.by (g := 9) (few_ct _) ?_; rintro q outs ⟨rfl, rfl⟩)
                | (refine Met.by (g := 10) (new_ct _ (by assumption)) ?_; rintro q outs ⟨d, hd, rfl, rfl⟩)
                | (refine Met.by (g := 11) (thresholds_ct _) ?_; rintro q outs ⟨t, d, ht, rfl, rfl⟩)
                | (refine Met.by (g := 12) (candidates_ct _) ?_; rintro q outs ⟨l, d, hl, rfl, rfl⟩)
                | (refine Met.by (g := 13) (bonds_ct _ _ _) ?_; rintro q outs ⟨rfl, rfl⟩)
                | (refine Met.by (g := 14) (next_ct _ _) ?_; rintro q outs ⟨x, d, hx, rfl, rfl⟩)
                | (refine Vc.mk ?_ (Step.out ?_))
              all_goals try (exfalso; have := hhi' (by omega); omega)
              all_goals try
                refine Again.by (i + 1) ⟨by omega, by omega⟩ ?_
                rw [isIn_step B X.a X.b i (by omega)]
                repeat' first
                  | (refine Step.mk ?_; conv => whnf)
                  | (refine Vc.om ?_ ?_; first | omega | with_reducible rfl | with_reducible exact same_rfl | (simp only [bytes_2, bytes_3, bytes_4, bytes_5, bytes_9, bytes_12, bytes_21, bytes_22, bytes_25, bytes_27, bytes_28, bytes_30, bytes_32, bytes_33, bytes_36, bytes_37, bytes_38, bytes_39, bytes_41, bytes_42, bytes_43, bytes_44, bytes_45, bytes_46, bytes_52, bytes_56, bytes_58, bytes_60, bytes_67, bytes_68, bytes_69, bytes_70, bytes_71, bytes_72, bytes_73, bytes_74, bytes_75, bytes_76, bytes_77, bytes_81, bytes_84, bytes_85, bytes_87, bytes_95, bytes_96, bytes_111, bytes_115, true_and, and_true] <;> omega))
                  | (refine NilB.mk fun b hb => Step.out ?_)
                  | with_reducible trivial
                  | exact noSh_bool _
                  | exact noSh_lit _
                  | exact noSh_int _ _
                  | exact noSh_str _
                  | with_reducible rfl
                  | with_reducible exact same_rfl
                  | (refine Wr.i64 ?_ ?_; omega)
                  | (refine Wr.u8 ?_ ?_; omega)
                  | (refine Wr.i32 ?_ ?_; omega)
                  | (with_reducible refine Br.tt ?_)
                  | (with_reducible refine Br.ff ?_)
                  | (refine Br.dT ?_ ?_; omega)
                  | (refine Br.dF ?_ ?_; omega)
                  | (refine Br.d (fun h => ?_) (fun h => ?_))
                  | (refine Br.swap ?_)
                  | (refine Br.bnot ?_)
                  | (refine Br.mk (fun h => Step.out ?_) (fun h => Step.out ?_))
                  | (refine Two.mk (Step.out ?_) (Step.out ?_))
                  | (refine Cp.mk fun q hq => Step.out ?_)
                  | (refine Ovl.mk (by assumption) (Step.out ?_))
                  | (refine CallOK.io1 (g := 11) (Step.out ?_))
                  | (refine CallOK.io1 (g := 12) (Step.out ?_))
                  | (refine CallOK.ctF (g := 13) (Step.out ?_))
                  | (refine CallOK.io1 (g := 14) (Step.out ?_))
                  | (refine CallOK.of_ct (Step.out ?_))
                  | (refine CallQ.of_ct (Step.out ?_))
                  | (refine Met.by (g := 8) (awake_ct) ?_; rintro q outs ⟨rfl, rfl⟩)
                  | (refine Met.by (g := 9) (few_ct _) ?_; rintro q outs ⟨rfl, rfl⟩)
                  | (refine Met.by (g := 10) (new_ct _ (by assumption)) ?_; rintro q outs ⟨d, hd, rfl, rfl⟩)
                  | (refine Met.by (g := 11) (thresholds_ct _) ?_; rintro q outs ⟨t, d, ht, rfl, rfl⟩)
                  | (refine Met.by (g := 12) (candidates_ct _) ?_; rintro q outs ⟨l, d, hl, rfl, rfl⟩)
                  | (refine Met.by (g := 13) (bonds_ct _ _ _) ?_; rintro q outs ⟨rfl, rfl⟩)
                  | (refine Met.by (g := 14) (next_ct _ _) ?_; rintro q outs ⟨x, d, hx, rfl, rfl⟩)
                  | (refine Vc.mk ?_ (Step.out ?_))
                simp only [Int.toNat_natCast] at *
                simp only [rf_eq]
                simp [-List.getD_eq_getElem?_getD, *]
                done
              all_goals first
                | refine Again.by (j + 1) ⟨by omega, by omega⟩ ?_
                | (exfalso; rw [List.take_of_length_le (by omega), hin] at h; subst b; simp at h; done)
              all_goals
                repeat' first
                  | (refine Step.mk ?_; conv => whnf)
                  | (refine Vc.om ?_ ?_; first | omega | with_reducible rfl | with_reducible exact same_rfl | (simp only [bytes_2, bytes_3, bytes_4, bytes_5, bytes_9, bytes_12, bytes_21, bytes_22, bytes_25, bytes_27, bytes_28, bytes_30, bytes_32, bytes_33, bytes_36, bytes_37, bytes_38, bytes_39, bytes_41, bytes_42, bytes_43, bytes_44, bytes_45, bytes_46, bytes_52, bytes_56, bytes_58, bytes_60, bytes_67, bytes_68, bytes_69, bytes_70, bytes_71, bytes_72, bytes_73, bytes_74, bytes_75, bytes_76, bytes_77, bytes_81, bytes_84, bytes_85, bytes_87, bytes_95, bytes_96, bytes_111, bytes_115, true_and, and_true] <;> omega))
                  | (refine NilB.mk fun b hb => Step.out ?_)
                  | with_reducible trivial
                  | exact noSh_bool _
                  | exact noSh_lit _
                  | exact noSh_int _ _
                  | exact noSh_str _
                  | with_reducible rfl
                  | with_reducible exact same_rfl
                  | (refine Wr.i64 ?_ ?_; omega)
                  | (refine Wr.u8 ?_ ?_; omega)
                  | (refine Wr.i32 ?_ ?_; omega)
                  | (with_reducible refine Br.tt ?_)
                  | (with_reducible refine Br.ff ?_)
                  | (refine Br.dT ?_ ?_; omega)
                  | (refine Br.dF ?_ ?_; omega)
                  | (refine Br.d (fun h => ?_) (fun h => ?_))
                  | (refine Br.swap ?_)
                  | (refine Br.bnot ?_)
                  | (refine Br.mk (fun h => Step.out ?_) (fun h => Step.out ?_))
                  | (refine Two.mk (Step.out ?_) (Step.out ?_))
                  | (refine Cp.mk fun q hq => Step.out ?_)
                  | (refine Ovl.mk (by assumption) (Step.out ?_))
                  | (refine CallOK.io1 (g := 11) (Step.out ?_))
                  | (refine CallOK.io1 (g := 12) (Step.out ?_))
                  | (refine CallOK.ctF (g := 13) (Step.out ?_))
                  | (refine CallOK.io1 (g := 14) (Step.out ?_))
                  | (refine CallOK.of_ct (Step.out ?_))
                  | (refine CallQ.of_ct (Step.out ?_))
                  | (refine Met.by (g := 8) (awake_ct) ?_; rintro q outs ⟨rfl, rfl⟩)
                  | (refine Met.by (g := 9) (few_ct _) ?_; rintro q outs ⟨rfl, rfl⟩)
                  | (refine Met.by (g := 10) (new_ct _ (by assumption)) ?_; rintro q outs ⟨d, hd, rfl, rfl⟩)
                  | (refine Met.by (g := 11) (thresholds_ct _) ?_; rintro q outs ⟨t, d, ht, rfl, rfl⟩)
                  | (refine Met.by (g := 12) (candidates_ct _) ?_; rintro q outs ⟨l, d, hl, rfl, rfl⟩)
                  | (refine Met.by (g := 13) (bonds_ct _ _ _) ?_; rintro q outs ⟨rfl, rfl⟩)
                  | (refine Met.by (g := 14) (next_ct _ _) ?_; rintro q outs ⟨x, d, hx, rfl, rfl⟩)
                  | (refine Vc.mk ?_ (Step.out ?_))
                try exact ⟨rfl, fun _ _ => rfl⟩
      · have hle : links t (l.take i) = links t l := by rw [List.take_of_length_le (by omega)]
        omega
  · exact absurd (fault_ok (by omega) hl rfl) h
end Kx
