/-
  channel: Deliver.
  No condition beyond those written in each theorem.
-/
import Derived.Test.YtnjjjmknmoenmaaKEf
open Go Sx Go.Proofs
set_option linter.unusedSimpArgs false
set_option linter.unusedVariables false
namespace Kx
def drain : Int → List Pk → Int × List Str × List Pk
  | e, [] => (e, [], [])
  | e, x :: l => if x.1 = e then ((drain (e + 1) l).1, x.2 :: (drain (e + 1) l).2.1, (drain (e + 1) l).2.2) else (e, [], x :: l)
def ins (l : List Pk) (p : Pk) : List Pk := if found l p.1 = true then l else l.take (pos l p.1) ++ p :: l.drop (pos l p.1)
def Ch.arrive (c : Ch) (p : Pk) : Ch × List Str :=
  if p.1 = c.exp then ({ c with exp := (drain (c.exp + 1) c.held).1, held := (drain (c.exp + 1) c.held).2.2 }, p.2 :: (drain (c.exp + 1) c.held).2.1)
  else if c.exp < p.1 then ({ c with held := ins c.held p }, []) else (c, [])
def Ch.note (c : Ch) : Ch := if c.back.length < 16 then { c with back := c.back ++ [c.exp] } else c
def Ch.deliver (c : Ch) (i : Int) : Ch × List Str × Int :=
  if c.err i c.there.length ≠ 0 then (.z, [], c.err i c.there.length)
  else ((({ c with there := c.there.take i.toNat ++ c.there.drop (i.toNat + 1) } : Ch).arrive (c.there.getD i.toNat (0, []))).1.note, (({ c with there := c.there.take i.toNat ++ c.there.drop (i.toNat + 1) } : Ch).arrive (c.there.getD i.toNat (0, []))).2, 0)
theorem delp0_ct (l : List Pk) (h : 0 < l.length) (hl : l.length ≤ 1000000) : Ct Try.prog 41 [pksO 43 l, i64 0, i64 1] fun r outs => r = pksO 43 l.tail ∧ outs = [] := by
  have := delp_ct l 0 1 (by omega) (by omega) hl
  rw [List.take_zero, List.nil_append, List.drop_one] at this
  exact this
/-- Where the draining stands. -/
structure DrI (c : Ch) (p : Pk) (y : Int × List Str × List Pk) : Prop where
  e : (drain (c.exp + 1) c.held).1 = (drain y.1 y.2.2).1
  h : (drain (c.exp + 1) c.held).2.2 = (drain y.1 y.2.2).2.2
  o : p.2 :: (drain (c.exp + 1) c.held).2.1 = y.2.1 ++ (drain y.1 y.2.2).2.1
  l : y.2.2.length ≤ 16
  b : y.1 ≤ 2000000 - y.2.2.length
  b0 : 0 ≤ y.1
  ol : y.2.1.length + y.2.2.length ≤ 100
theorem DrI.step {c : Ch} {p : Pk} {e : Int} {o : List Str} {h : List Pk} (H : DrI c p (e, o, h)) (h0 : 0 < h.length) (he : (h.getD 0 (0, [])).1 = e) : DrI c p (e + 1, o ++ [(h.getD 0 (0, [])).2], h.tail) := by
  obtain ⟨a1, a2, a3, a4, a5, a6, a7⟩ := H
  cases h with
  | nil => simp at h0
  | cons x l =>
    simp only [List.getD_cons_zero] at he ⊢
    simp only [drain, if_pos he] at a1 a2 a3
    simp only [List.length_cons] at a4 a5 a7
    refine ⟨a1, a2, ?_, ?_, ?_, ?_, ?_⟩
    · simp only [List.tail_cons]; rw [a3]; simp
    · simp only [List.tail_cons]; omega
    · simp only [List.tail_cons]; omega
    · simp only; omega
    · simp only [List.tail_cons, List.length_append, List.length_cons, List.length_nil]; omega
theorem DrI.stop {c : Ch} {p : Pk} {e : Int} {o : List Str} {h : List Pk} (H : DrI c p (e, o, h)) (h0 : h.length = 0 ∨ (h.getD 0 (0, [])).1 ≠ e) :
    (drain (c.exp + 1) c.held).1 = e ∧ (drain (c.exp + 1) c.held).2.2 = h ∧ p.2 :: (drain (c.exp + 1) c.held).2.1 = o := by
  obtain ⟨a1, a2, a3, _, _⟩ := H
  have : drain e h = (e, [], h) := by
    cases h with
    | nil => rfl
    | cons x l =>
      rw [drain, if_neg]
      rcases h0 with h0 | h0
      · simp at h0
      · simpa using h0
  simp only [this, List.append_nil] at a1 a2 a3
  exact ⟨a1, a2, a3⟩
theorem DrI.stepy {c : Ch} {p : Pk} {y : Int × List Str × List Pk} (H : DrI c p y) (h0 : 0 < y.2.2.length) (he : (y.2.2.getD 0 (0, [])).1 = y.1) : DrI c p (y.1 + 1, y.2.1 ++ [(y.2.2.getD 0 (0, [])).2], y.2.2.tail) := by
  obtain ⟨e, o, h⟩ := y; exact H.step h0 he
theorem DrI.stopy {c : Ch} {p : Pk} {y : Int × List Str × List Pk} (H : DrI c p y) (h0 : y.2.2.length = 0 ∨ (y.2.2.getD 0 (0, [])).1 ≠ y.1) :
    (drain (c.exp + 1) c.held).1 = y.1 ∧ (drain (c.exp + 1) c.held).2.2 = y.2.2 ∧ p.2 :: (drain (c.exp + 1) c.held).2.1 = y.2.1 := by
  obtain ⟨e, o, h⟩ := y; exact H.stop h0
theorem DrI.init {c : Ch} (g : c.good) (p : Pk) : DrI c p (c.exp + 1, [p.2], c.held) := by
  have := g.h; have := g.b1; have := g.e1; have := g.e2; have := g.b2
  have hr : c.reach = c.base + min (c.wait.length : Int) 4 := rfl
  exact ⟨rfl, rfl, rfl, g.h, by simp only; omega, by simp only; omega, by simp only [List.length_cons, List.length_nil]; omega⟩
theorem deliver_ct (c : Ch) (hc : c.ok) (i : Int) : Ct Try.prog 14 [c.d, i64 i] fun r outs => r = .tup [(c.deliver i).1.d, strs (c.deliver i).2.1, i64 (c.deliver i).2.2] ∧ outs = [] := by
  have hc' := hc
  obtain ⟨h1, h2, h3, h4, h5, h6⟩ := hc
  unfold Ch.deliver
  split
  · rename_i he
    refine .det (.of_W (fn := Try.f14) hΓ hm Try.func14 ord14 [] (by kernel_rfl) (Step.out ?_))
    repeat' first
      | (refine Step.mk ?_; conv => whnf)
      | with_reducible trivial
      | (refine Br.dF ?_ ?_; omega)
      | (refine Met.by (takenF_ct _ (by assumption) _ _ he) ?_; rintro q outs ⟨rfl, rfl⟩)
      | (refine Br.bnot ?_)
      | (refine Two.mk (Step.out ?_) (Step.out ?_))
      | (refine CallOK.of_ct (Step.out ?_))
    all_goals rfl
  · rename_i he
    have he := Classical.not_not.1 he
    obtain ⟨e0, e1, e2⟩ := Ch.err0 he
    obtain ⟨k, rfl⟩ := Int.eq_ofNat_of_zero_le e1
    have g := Ch.good_of e0
    have gt := g.t; have gh := g.h; have gk := g.k; have gw := g.w; have g1 := g.b1; have g2 := g.b2; have g3 := g.e1; have g4 := g.e2
    have hr : c.reach = c.base + min (c.wait.length : Int) 4 := rfl
    have hasc := (heldB_asc g.hr).1
    have gT := del_len c.there (i := k) (j := k + 1) (by omega) (by omega)
    have hok : Ch.ok { c with there := c.there.take (k : Int).toNat ++ c.there.drop ((k : Int).toNat + 1) } := ⟨h1, h2, h3, by simp only [Int.toNat_natCast]; omega, h5, h6⟩
    rw [Ch.arrive]
    split
    · rename_i hp
      have hp : (c.there.getD (k : Int).toNat (0, [])).1 = c.exp := hp
      dsimp only
      rw [Ch.note]
      dsimp only
      generalize hE : (drain (c.exp + 1) c.held).1 = E
      generalize hH : (drain (c.exp + 1) c.held).2.2 = H
      generalize hO : (c.there.getD (k : Int).toNat (0, [])).2 :: (drain (c.exp + 1) c.held).2.1 = O
      by_cases hk : c.back.length < 16
      · rw [if_pos hk]
        refine .det (.of_W (fn := Try.f14) hΓ hm Try.func14 ord14 [] (by kernel_rfl) (Step.out ?_))
        repeat' first
          | (refine Step.mk ?_; conv => whnf)
          | (refine Vc.om ?_ ?_; first | omega | with_reducible rfl | with_reducible exact same_rfl)
          | (refine Vc.om ?_ ?_; (simp only [bytes_2, bytes_3, bytes_4, bytes_5, bytes_9, bytes_12, bytes_21, bytes_22, bytes_25, bytes_27, bytes_28, bytes_29, bytes_30, bytes_33, bytes_42, bytes_43, bytes_47, bytes_51, bytes_52, bytes_53, bytes_57, bytes_58, bytes_59, bytes_73, bytes_91, bytes_104, bytes_108, true_and, and_true] <;> omega))
          | (refine Wr.i64 ?_ ?_; omega)
          | (refine Br.dT ?_ ?_; omega)
          | (refine Met.by (takenT_ct _ (by assumption) _ _ he) ?_; rintro q outs ⟨rfl, rfl⟩)
          | (refine Br.bnot ?_)
          | (refine CallOK.gv (g := 41) (Step.out ?_))
          | (refine CallOK.of_ct (Step.out ?_))
          | (refine Met.by (g := 41) (delp1_ct _ _ (by omega) (by omega)) ?_; rintro q outs ⟨rfl, rfl⟩)
        refine CodeOK.loopW hΓ hm ord14 [] (by kernel_rfl) (α := Int × List Str × List Pk) (fun y => [(2, .loc 0 0), (4, .loc 4 0), (9, .own 3)]) (fun y => [(0, .var [i64 c.base, i64 y.1, strs c.wait, pks (c.there.take k ++ c.there.drop (k + 1)), .own 1, .own 2]), (1, .arr 43 2 y.2.2.length fun j => pkF (y.2.2.getD j (0, []))), (2, .arr 3 1 c.back.length fun j => [i64 (c.back.getD j 0)]), (3, .arr 9 1 y.2.1.length fun j => [.str (y.2.1.getD j [])]), (4, .var [i64 0, i64 0, .nil, .nil, .nil, .nil])]) 5 (fun y => DrI c (c.there.getD (k : Int).toNat (0, [])) y) (fun y => y.2.2.length) ?_ ?_
        · refine Again.by (c.exp + 1, [(c.there.getD (k : Int).toNat (0, [])).2], c.held) (DrI.init g _) ?_
          repeat' first
            | (refine Step.mk ?_; conv => whnf)
            | (refine Vc.om ?_ ?_; first | omega | with_reducible rfl | with_reducible exact same_rfl)
            | with_reducible trivial
            | (refine Vc.mk ?_ (Step.out ?_))
          all_goals first
            | exact ⟨rfl, fun _ _ => rfl⟩
            | exact ⟨rfl, fun q hq => by obtain rfl : q = 0 := by (have : q < 1 := hq); omega
                                         rfl⟩
        · intro y hI
          have i1 := hI.l; have i2 := hI.b; have i3 := hI.ol; have i4 := hI.b0
          repeat' first
            | (refine Step.mk ?_; conv => whnf)
            | (refine Vc.om ?_ ?_; first | omega | with_reducible rfl | with_reducible exact same_rfl)
            | (refine Vc.om ?_ ?_; (simp only [bytes_2, bytes_3, bytes_4, bytes_5, bytes_9, bytes_12, bytes_21, bytes_22, bytes_25, bytes_27, bytes_28, bytes_29, bytes_30, bytes_33, bytes_42, bytes_43, bytes_47, bytes_51, bytes_52, bytes_53, bytes_57, bytes_58, bytes_59, bytes_73, bytes_91, bytes_104, bytes_108, true_and, and_true] <;> omega))
            | with_reducible trivial
            | with_reducible exact same_rfl
            | (refine Wr.i64 ?_ ?_; omega)
            | (refine Br.dT ?_ ?_; omega)
            | (refine Met.by (delp0_ct _ (by omega) (by omega)) ?_; rintro q outs ⟨rfl, rfl⟩)
            | (refine Br.d (fun h => ?_) (fun h => ?_))
            | (refine Two.mk (Step.out ?_) (Step.out ?_))
            | (refine CallOK.gv (g := 41) (Step.out ?_))
          · refine Again.by (y.1 + 1, y.2.1 ++ [(y.2.2.getD 0 (0, [])).2], y.2.2.tail) ⟨DrI.stepy hI (by omega) ‹_›, by simp only [List.length_tail]; omega⟩ ?_
            repeat' first
              | (refine Step.mk ?_; conv => whnf)
              | (refine Vc.om ?_ ?_; first | omega | with_reducible rfl | with_reducible exact same_rfl)
              | with_reducible trivial
              | (refine Vc.mk ?_ (Step.out ?_))
            all_goals first
              | exact ⟨rfl, fun _ _ => rfl⟩
              | exact app1 stF [] stF_same _ _
          all_goals
            obtain ⟨s1, s2, s3⟩ := DrI.stopy hI (by first | (left; omega) | (right; assumption))
            obtain rfl : E = y.1 := hE.symm.trans s1
            obtain rfl : H = y.2.2 := hH.symm.trans s2
            obtain rfl : O = y.2.1 := hO.symm.trans s3
            first
              | exact ⟨rfl, fun _ _ => rfl⟩
              | exact app1 inF 0 inF_same _ _
              | rfl
      · rw [if_neg hk]
        refine .det (.of_W (fn := Try.f14) hΓ hm Try.func14 ord14 [] (by kernel_rfl) (Step.out ?_))
        repeat' first
          | (refine Step.mk ?_; conv => whnf)
          | (refine Vc.om ?_ ?_; first | omega | with_reducible rfl | with_reducible exact same_rfl)
          | (refine Vc.om ?_ ?_; (simp only [bytes_2, bytes_3, bytes_4, bytes_5, bytes_9, bytes_12, bytes_21, bytes_22, bytes_25, bytes_27, bytes_28, bytes_29, bytes_30, bytes_33, bytes_42, bytes_43, bytes_47, bytes_51, bytes_52, bytes_53, bytes_57, bytes_58, bytes_59, bytes_73, bytes_91, bytes_104, bytes_108, true_and, and_true] <;> omega))
          | (refine Wr.i64 ?_ ?_; omega)
          | (refine Br.dT ?_ ?_; omega)
          | (refine Met.by (takenT_ct _ (by assumption) _ _ he) ?_; rintro q outs ⟨rfl, rfl⟩)
          | (refine Br.bnot ?_)
          | (refine CallOK.gv (g := 41) (Step.out ?_))
          | (refine CallOK.of_ct (Step.out ?_))
          | (refine Met.by (g := 41) (delp1_ct _ _ (by omega) (by omega)) ?_; rintro q outs ⟨rfl, rfl⟩)
        refine CodeOK.loopW hΓ hm ord14 [] (by kernel_rfl) (α := Int × List Str × List Pk) (fun y => [(2, .loc 0 0), (4, .loc 4 0), (9, .own 3)]) (fun y => [(0, .var [i64 c.base, i64 y.1, strs c.wait, pks (c.there.take k ++ c.there.drop (k + 1)), .own 1, .own 2]), (1, .arr 43 2 y.2.2.length fun j => pkF (y.2.2.getD j (0, []))), (2, .arr 3 1 c.back.length fun j => [i64 (c.back.getD j 0)]), (3, .arr 9 1 y.2.1.length fun j => [.str (y.2.1.getD j [])]), (4, .var [i64 0, i64 0, .nil, .nil, .nil, .nil])]) 5 (fun y => DrI c (c.there.getD (k : Int).toNat (0, [])) y) (fun y => y.2.2.length) ?_ ?_
        · refine Again.by (c.exp + 1, [(c.there.getD (k : Int).toNat (0, [])).2], c.held) (DrI.init g _) ?_
          repeat' first
            | (refine Step.mk ?_; conv => whnf)
            | (refine Vc.om ?_ ?_; first | omega | with_reducible rfl | with_reducible exact same_rfl)
            | with_reducible trivial
            | (refine Vc.mk ?_ (Step.out ?_))
          all_goals first
            | exact ⟨rfl, fun _ _ => rfl⟩
            | exact ⟨rfl, fun q hq => by obtain rfl : q = 0 := by (have : q < 1 := hq); omega
                                         rfl⟩
        · intro y hI
          have i1 := hI.l; have i2 := hI.b; have i3 := hI.ol; have i4 := hI.b0
          repeat' first
            | (refine Step.mk ?_; conv => whnf)
            | (refine Vc.om ?_ ?_; first | omega | with_reducible rfl | with_reducible exact same_rfl)
            | (refine Vc.om ?_ ?_; (simp only [bytes_2, bytes_3, bytes_4, bytes_5, bytes_9, bytes_12, bytes_21, bytes_22, bytes_25, bytes_27, bytes_28, bytes_29, bytes_30, bytes_33, bytes_42, bytes_43, bytes_47, bytes_51, bytes_52, bytes_53, bytes_57, bytes_58, bytes_59, bytes_73, bytes_91, bytes_104, bytes_108, true_and, and_true] <;> omega))
            | with_reducible trivial
            | with_reducible exact same_rfl
            | (refine Wr.i64 ?_ ?_; omega)
            | (refine Br.dF ?_ ?_; omega)
            | (refine Met.by (delp0_ct _ (by omega) (by omega)) ?_; rintro q outs ⟨rfl, rfl⟩)
            | (refine Br.d (fun h => ?_) (fun h => ?_))
            | (refine Two.mk (Step.out ?_) (Step.out ?_))
            | (refine CallOK.gv (g := 41) (Step.out ?_))
          · refine Again.by (y.1 + 1, y.2.1 ++ [(y.2.2.getD 0 (0, [])).2], y.2.2.tail) ⟨DrI.stepy hI (by omega) ‹_›, by simp only [List.length_tail]; omega⟩ ?_
            repeat' first
              | (refine Step.mk ?_; conv => whnf)
              | (refine Vc.om ?_ ?_; first | omega | with_reducible rfl | with_reducible exact same_rfl)
              | with_reducible trivial
              | (refine Vc.mk ?_ (Step.out ?_))
            all_goals first
              | exact ⟨rfl, fun _ _ => rfl⟩
              | exact app1 stF [] stF_same _ _
          all_goals
            obtain ⟨s1, s2, s3⟩ := DrI.stopy hI (by first | (left; omega) | (right; assumption))
            obtain rfl : E = y.1 := hE.symm.trans s1
            obtain rfl : H = y.2.2 := hH.symm.trans s2
            obtain rfl : O = y.2.1 := hO.symm.trans s3
            first
              | exact ⟨rfl, fun _ _ => rfl⟩
              | exact app1 inF 0 inF_same _ _
              | rfl
    · rename_i hp
      have hp : ¬(c.there.getD (k : Int).toNat (0, [])).1 = c.exp := hp
      split
      · rename_i hq
        have hq : c.exp < (c.there.getD (k : Int).toNat (0, [])).1 := hq
        have hh := held_ct _ hok hasc (c.there.getD (k : Int).toNat (0, [])).1
        have hpl := pos_le c.held (c.there.getD (k : Int).toNat (0, [])).1
        rw [ins]
        split
        · rename_i hf
          have hf : found c.held (c.there.getD (k : Int).toNat (0, [])).1 = true := hf
          rw [show found (Ch.held { c with there := c.there.take (k : Int).toNat ++ c.there.drop ((k : Int).toNat + 1) }) (c.there.getD (k : Int).toNat (0, [])).1 = true from hf] at hh
          rw [Ch.note]
          split
          · rename_i hk
            have hk : c.back.length < 16 := hk
            refine .det (.of_W (fn := Try.f14) hΓ hm Try.func14 ord14 [] (by kernel_rfl) (Step.out ?_))
            repeat' first
              | (refine Step.mk ?_; conv => whnf)
              | (refine Vc.om ?_ ?_; first | omega | with_reducible rfl | with_reducible exact same_rfl)
              | (refine Vc.om ?_ ?_; (simp only [bytes_2, bytes_3, bytes_4, bytes_5, bytes_9, bytes_12, bytes_21, bytes_22, bytes_25, bytes_27, bytes_28, bytes_29, bytes_30, bytes_33, bytes_42, bytes_43, bytes_47, bytes_51, bytes_52, bytes_53, bytes_57, bytes_58, bytes_59, bytes_73, bytes_91, bytes_104, bytes_108, true_and, and_true] <;> omega))
              | with_reducible trivial
              | with_reducible exact same_rfl
              | (refine Wr.i64 ?_ ?_; omega)
              | (with_reducible refine Br.tt ?_)
              | (refine Br.dT ?_ ?_; omega)
              | (refine Br.dF ?_ ?_; omega)
              | (refine Met.by (takenT_ct _ (by assumption) _ _ he) ?_; rintro q outs ⟨rfl, rfl⟩)
              | (refine Met.by hh ?_; rintro q outs ⟨rfl, rfl⟩)
              | (refine Br.bnot ?_)
              | (refine Two.mk (Step.out ?_) (Step.out ?_))
              | (refine CallOK.gv (g := 41) (Step.out ?_))
              | (refine CallOK.of_ct (Step.out ?_))
              | (refine Met.by (g := 41) (delp1_ct _ _ (by omega) (by omega)) ?_; rintro q outs ⟨rfl, rfl⟩)
              | (refine Vc.mk ?_ (Step.out ?_))
            all_goals first
              | exact ⟨rfl, fun _ _ => rfl⟩
              | exact app1 inF 0 inF_same _ _
              | exact ⟨trivial, trivial, trivial⟩
              | rfl
          · rename_i hk
            have hk : ¬c.back.length < 16 := hk
            refine .det (.of_W (fn := Try.f14) hΓ hm Try.func14 ord14 [] (by kernel_rfl) (Step.out ?_))
            repeat' first
              | (refine Step.mk ?_; conv => whnf)
              | (refine Vc.om ?_ ?_; first | omega | with_reducible rfl | with_reducible exact same_rfl)
              | with_reducible trivial
              | with_reducible exact same_rfl
              | (refine Wr.i64 ?_ ?_; omega)
              | (with_reducible refine Br.tt ?_)
              | (refine Br.dT ?_ ?_; omega)
              | (refine Br.dF ?_ ?_; omega)
              | (refine Met.by (takenT_ct _ (by assumption) _ _ he) ?_; rintro q outs ⟨rfl, rfl⟩)
              | (refine Met.by hh ?_; rintro q outs ⟨rfl, rfl⟩)
              | (refine Br.bnot ?_)
              | (refine Two.mk (Step.out ?_) (Step.out ?_))
              | (refine CallOK.gv (g := 41) (Step.out ?_))
              | (refine CallOK.of_ct (Step.out ?_))
              | (refine Met.by (g := 41) (delp1_ct _ _ (by omega) (by omega)) ?_; rintro q outs ⟨rfl, rfl⟩)
              | (refine Vc.mk ?_ (Step.out ?_))
            all_goals first
              | exact ⟨rfl, fun _ _ => rfl⟩
              | exact app1 inF 0 inF_same _ _
              | exact ⟨trivial, trivial, trivial⟩
              | rfl
        · rename_i hf
          have hf : found c.held (c.there.getD (k : Int).toNat (0, [])).1 = false := by simpa using hf
          rw [show found (Ch.held { c with there := c.there.take (k : Int).toNat ++ c.there.drop ((k : Int).toNat + 1) }) (c.there.getD (k : Int).toNat (0, [])).1 = false from hf] at hh
          rw [Ch.note]
          split
          · rename_i hk
            have hk : c.back.length < 16 := hk
            refine .det (.of_W (fn := Try.f14) hΓ hm Try.func14 ord14 [] (by kernel_rfl) (Step.out ?_))
            repeat' first
              | (refine Step.mk ?_; conv => whnf)
              | (refine Vc.om ?_ ?_; first | omega | with_reducible rfl | with_reducible exact same_rfl)
              | (refine Vc.om ?_ ?_; (simp only [bytes_2, bytes_3, bytes_4, bytes_5, bytes_9, bytes_12, bytes_21, bytes_22, bytes_25, bytes_27, bytes_28, bytes_29, bytes_30, bytes_33, bytes_42, bytes_43, bytes_47, bytes_51, bytes_52, bytes_53, bytes_57, bytes_58, bytes_59, bytes_73, bytes_91, bytes_104, bytes_108, true_and, and_true] <;> omega))
              | with_reducible trivial
              | with_reducible exact same_rfl
              | (refine Wr.i64 ?_ ?_; omega)
              | (with_reducible refine Br.ff ?_)
              | (refine Br.dT ?_ ?_; omega)
              | (refine Br.dF ?_ ?_; omega)
              | (refine Met.by (takenT_ct _ (by assumption) _ _ he) ?_; rintro q outs ⟨rfl, rfl⟩)
              | (refine Met.by hh ?_; rintro q outs ⟨rfl, rfl⟩)
              | (refine Met.by (insp_ct _ _ _ hpl (by omega)) ?_; rintro q outs ⟨rfl, rfl⟩)
              | (refine Br.bnot ?_)
              | (refine Two.mk (Step.out ?_) (Step.out ?_))
              | (refine CallOK.gv (g := 41) (Step.out ?_))
              | (refine CallOK.gv (g := 43) (Step.out ?_))
              | (refine CallOK.of_ct (Step.out ?_))
              | (refine Met.by (g := 41) (delp1_ct _ _ (by omega) (by omega)) ?_; rintro q outs ⟨rfl, rfl⟩)
              | (refine Vc.mk ?_ (Step.out ?_))
            all_goals first
              | exact ⟨rfl, fun _ _ => rfl⟩
              | exact app1 inF 0 inF_same _ _
              | exact ⟨trivial, trivial, trivial⟩
              | rfl
          · rename_i hk
            have hk : ¬c.back.length < 16 := hk
            refine .det (.of_W (fn := Try.f14) hΓ hm Try.func14 ord14 [] (by kernel_rfl) (Step.out ?_))
            repeat' first
              | (refine Step.mk ?_; conv => whnf)
              | (refine Vc.om ?_ ?_; first | omega | with_reducible rfl | with_reducible exact same_rfl)
              | with_reducible trivial
              | with_reducible exact same_rfl
              | (refine Wr.i64 ?_ ?_; omega)
              | (with_reducible refine Br.ff ?_)
              | (refine Br.dT ?_ ?_; omega)
              | (refine Br.dF ?_ ?_; omega)
              | (refine Met.by (takenT_ct _ (by assumption) _ _ he) ?_; rintro q outs ⟨rfl, rfl⟩)
              | (refine Met.by hh ?_; rintro q outs ⟨rfl, rfl⟩)
              | (refine Met.by (insp_ct _ _ _ hpl (by omega)) ?_; rintro q outs ⟨rfl, rfl⟩)
              | (refine Br.bnot ?_)
              | (refine Two.mk (Step.out ?_) (Step.out ?_))
              | (refine CallOK.gv (g := 41) (Step.out ?_))
              | (refine CallOK.gv (g := 43) (Step.out ?_))
              | (refine CallOK.of_ct (Step.out ?_))
              | (refine Met.by (g := 41) (delp1_ct _ _ (by omega) (by omega)) ?_; rintro q outs ⟨rfl, rfl⟩)
              | (refine Vc.mk ?_ (Step.out ?_))
            all_goals first
              | exact ⟨rfl, fun _ _ => rfl⟩
              | exact app1 inF 0 inF_same _ _
              | exact ⟨trivial, trivial, trivial⟩
              | rfl
      · rename_i hq
        have hq : ¬c.exp < (c.there.getD (k : Int).toNat (0, [])).1 := hq
        rw [Ch.note]
        split
        · rename_i hk
          have hk : c.back.length < 16 := hk
          refine .det (.of_W (fn := Try.f14) hΓ hm Try.func14 ord14 [] (by kernel_rfl) (Step.out ?_))
          repeat' first
            | (refine Step.mk ?_; conv => whnf)
            | (refine Vc.om ?_ ?_; first | omega | with_reducible rfl | with_reducible exact same_rfl)
            | (refine Vc.om ?_ ?_; (simp only [bytes_2, bytes_3, bytes_4, bytes_5, bytes_9, bytes_12, bytes_21, bytes_22, bytes_25, bytes_27, bytes_28, bytes_29, bytes_30, bytes_33, bytes_42, bytes_43, bytes_47, bytes_51, bytes_52, bytes_53, bytes_57, bytes_58, bytes_59, bytes_73, bytes_91, bytes_104, bytes_108, true_and, and_true] <;> omega))
            | with_reducible trivial
            | with_reducible exact same_rfl
            | (refine Wr.i64 ?_ ?_; omega)
            | (refine Br.dT ?_ ?_; omega)
            | (refine Br.dF ?_ ?_; omega)
            | (refine Met.by (takenT_ct _ (by assumption) _ _ he) ?_; rintro q outs ⟨rfl, rfl⟩)
            | (refine Br.bnot ?_)
            | (refine Two.mk (Step.out ?_) (Step.out ?_))
            | (refine CallOK.gv (g := 41) (Step.out ?_))
            | (refine CallOK.of_ct (Step.out ?_))
            | (refine Met.by (g := 41) (delp1_ct _ _ (by omega) (by omega)) ?_; rintro q outs ⟨rfl, rfl⟩)
          all_goals first
            | exact ⟨rfl, fun _ _ => rfl⟩
            | exact app1 inF 0 inF_same _ _
            | exact ⟨trivial, trivial, trivial⟩
            | rfl
        · rename_i hk
          have hk : ¬c.back.length < 16 := hk
          refine .det (.of_W (fn := Try.f14) hΓ hm Try.func14 ord14 [] (by kernel_rfl) (Step.out ?_))
          repeat' first
            | (refine Step.mk ?_; conv => whnf)
            | (refine Vc.om ?_ ?_; first | omega | with_reducible rfl | with_reducible exact same_rfl)
            | with_reducible trivial
            | with_reducible exact same_rfl
            | (refine Wr.i64 ?_ ?_; omega)
            | (refine Br.dT ?_ ?_; omega)
            | (refine Br.dF ?_ ?_; omega)
            | (refine Met.by (takenT_ct _ (by assumption) _ _ he) ?_; rintro q outs ⟨rfl, rfl⟩)
            | (refine Br.bnot ?_)
            | (refine Two.mk (Step.out ?_) (Step.out ?_))
            | (refine CallOK.gv (g := 41) (Step.out ?_))
            | (refine CallOK.of_ct (Step.out ?_))
            | (refine Met.by (g := 41) (delp1_ct _ _ (by omega) (by omega)) ?_; rintro q outs ⟨rfl, rfl⟩)
          all_goals first
            | exact ⟨rfl, fun _ _ => rfl⟩
            | exact app1 inF 0 inF_same _ _
            | exact ⟨trivial, trivial, trivial⟩
            | rfl
end Kx
