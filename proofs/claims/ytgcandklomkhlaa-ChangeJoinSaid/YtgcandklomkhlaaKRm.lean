/-
  ChangeOrder: events in any order lead to the same rows.
  No condition beyond those written in each theorem.
-/
import Derived.Test.YtgcandklomkhlaaKRl
open Go Sx Go.Proofs
set_option linter.unusedSimpArgs false
set_option linter.unusedVariables false
namespace Kx
def goods (l : List Ev) : List Rw := (l.filter fun e => decide (e.chk = 0)).map Ev.row
theorem goods_fine (l : List Ev) : ∀ r ∈ goods l, r.fine := fun r hr => by
  obtain ⟨e, he, rfl⟩ := List.mem_map.1 hr
  exact fine_row (of_decide_eq_true (List.mem_filter.1 he).2)
theorem goods_len (l : List Ev) : (goods l).length ≤ l.length := by
  rw [goods, List.length_map]; exact List.length_filter_le _ _
theorem allGo_eq : ∀ (l : List Ev) (s : List Rw) (k : Int), valid s = 0 → s.length + l.length ≤ 64 → (allGo s k l).1 = puts s (goods l)
  | [], _, _, _, _ => rfl
  | e :: l, s, k, hv, hl => by
    simp only [List.length_cons] at hl
    have hi := ins_len s e.row
    rw [allGo, goods, List.filter_cons]
    by_cases hc : e.chk = 0
    · have ha : apply s e = (ins s e.row, 0) := by
        rw [apply, if_neg (not_not_intro hv), if_neg (not_not_intro hc), if_neg (by omega)]
      have hv' := apply_valid (l := s) (e := e) (by rw [ha])
      rw [ha] at hv' ⊢
      rw [if_neg (by simp), if_pos (by simpa using hc), allGo_eq l (ins s e.row) k hv' (by omega)]; rfl
    · have ha : (apply s e).2 = e.chk := by
        rw [apply, if_neg (not_not_intro hv), if_pos hc]
      rw [if_pos (by rw [ha]; exact hc), if_neg (by simpa using hc), allGo_eq l s _ hv (by omega)]; rfl
theorem all_nil {l : List Ev} (hl : l.length ≤ 64) : (all [] l).1 = puts [] (goods l) := by
  rw [all, if_neg (by decide)]
  exact allGo_eq l [] 0 rfl (by simpa using hl)
theorem asc_nil : AscR [] := List.Pairwise.nil
theorem all_set {l m : List Ev} (hl : l.length ≤ 64) (hm : m.length ≤ 64) (h : ∀ e, e ∈ l ↔ e ∈ m) : (all [] l).1 = (all [] m).1 := by
  rw [all_nil hl, all_nil hm]
  refine puts_set asc_nil fun r => ?_
  simp only [goods, List.mem_map, List.mem_filter, h]
theorem all_valid (l : List Ev) : valid (all [] l).1 = 0 := by
  rw [all, if_neg (by decide)]
  exact allGo_valid l [] 0 rfl
theorem evs_ok {l : List Ev} (h1 : l.length ≤ 1000) (h2 : ∀ e ∈ l, e.vals.length ≤ 100) : EvsOK l := ⟨by omega, fun e he => by have := h2 e he; omega⟩
theorem allN_ct (l : List Ev) (h1 : l.length ≤ 1000) (h2 : ∀ e ∈ l, e.vals.length ≤ 100) : Ct Try.prog 12 [.nil, evs l] fun q outs => q = .tup [rws (all [] l).1, i64 (all [] l).2] ∧ outs = [] :=
  (all_ct [] l (ok1 rfl rfl) (evs_ok h1 h2)).arg ⟨rfl, nil_rws.2, ⟨rfl, fun _ _ => rfl⟩, trivial⟩
theorem mem_swap {l : List Ev} {i j : Nat} (hi : i < l.length) (hj : j < l.length) (e : Ev) : e ∈ (l.set i (l.getD j Ev.z)).set j (l.getD i Ev.z) ↔ e ∈ l := by
  rw [List.getD_eq_getElem?_getD, List.getD_eq_getElem?_getD, List.getElem?_eq_getElem hi, List.getElem?_eq_getElem hj]
  simp only [Option.getD_some]
  constructor
  · intro h
    rcases List.mem_or_eq_of_mem_set h with h | rfl
    · rcases List.mem_or_eq_of_mem_set h with h | rfl
      · exact h
      · exact List.getElem_mem hj
    · exact List.getElem_mem hi
  · intro h
    obtain ⟨k, hk, rfl⟩ := List.mem_iff_getElem.1 h
    by_cases e1 : k = i
    · subst e1
      exact List.mem_iff_getElem.2 ⟨j, by simpa using hj, by simp⟩
    · by_cases e2 : k = j
      · subst e2
        refine List.mem_iff_getElem.2 ⟨i, by simpa using hi, ?_⟩
        rw [List.getElem_set, if_neg e1, List.getElem_set, if_pos rfl]
      · refine List.mem_iff_getElem.2 ⟨k, by simpa using hk, ?_⟩
        rw [List.getElem_set, if_neg (fun h => e2 h.symm), List.getElem_set, if_neg (fun h => e1 h.symm)]
theorem set_ev (l : List Ev) (x : Ev) (k i : Nat) (h : i < l.length) : (l.set k x).getD i Ev.z = if i = k then x else l.getD i Ev.z := by
  simp only [List.getD_eq_getElem?_getD, List.getElem?_set]
  by_cases e : k = i
  · subst e; rw [if_pos rfl, if_pos h, if_pos rfl]; rfl
  · rw [if_neg e, if_neg (fun h => e h.symm)]
theorem swap_get (m : List Ev) (a b j : Nat) (hj : j < m.length) :
    iteL (j = b) (setL (iteL (b = a) (setL (Ev.f (m.getD a Ev.z)) 0 (Ev.f (m.getD b Ev.z))) (Ev.f (m.getD b Ev.z))) 0 (Ev.f (m.getD a Ev.z))) (iteL (j = a) (setL (Ev.f (m.getD a Ev.z)) 0 (Ev.f (m.getD b Ev.z))) (Ev.f (m.getD j Ev.z))) = Ev.f (((m.set a (m.getD b Ev.z)).set b (m.getD a Ev.z)).getD j Ev.z) := by
  rw [show setL (Ev.f (m.getD a Ev.z)) 0 (Ev.f (m.getD b Ev.z)) = Ev.f (m.getD b Ev.z) from rfl, ite_ev, ite_ev, show ∀ x y : Ev, setL (Ev.f x) 0 (Ev.f y) = Ev.f y from fun _ _ => rfl, ite_ev, set_ev _ _ _ _ (by simpa using hj), set_ev _ _ _ _ hj]
theorem order_ct (l : List Int) : Ct Try.prog 3 [ints l] fun r outs => r = .bool true ∧ outs = [] := by
  refine .det (.of_W (fn := Try.f3) hΓ hm Try.func3 ord3 [] (by kernel_rfl) (Step.out ?_))
  repeat' first
    | (refine Step.mk ?_; conv => whnf)
    | (refine Vc.om ?_ ?_; first | omega | with_reducible rfl | with_reducible exact same_rfl | (simp only [bytes_2, bytes_3, bytes_4, bytes_5, bytes_9, bytes_12, bytes_21, bytes_22, bytes_25, bytes_27, bytes_29, bytes_32, bytes_33, bytes_34, bytes_38, bytes_40, bytes_44, bytes_45, bytes_52, bytes_53, bytes_54, bytes_58, bytes_59, bytes_60, bytes_93, bytes_97, bytes_100, true_and, and_true] <;> omega))
    | (refine NilB.mk fun b hb => Step.out ?_)
    | with_reducible trivial
    | exact noSh_bool _
    | exact noSh_lit _
    | exact noSh_int _ _
    | exact noSh_str _
    | with_reducible rfl
    | with_reducible exact same_rfl
    | (refine Wr.i64 ?_ ?_; omega)
    | (refine Wr.u8 ?_ ?_; omega)
    | (refine Wr.i32 ?_ ?_; omega)
    | (with_reducible refine Br.tt ?_)
    | (with_reducible refine Br.ff ?_)
    | (refine Br.dT ?_ ?_; omega)
    | (refine Br.dF ?_ ?_; omega)
    | (refine Met.by awake_ct ?_; rintro q outs ⟨rfl, rfl⟩)
    | (refine Met.by (events_ct _ 2 10 (by decide) (by decide)) ?_; rintro q outs ⟨y, d, ⟨hy1, hy2⟩, rfl, rfl⟩)
    | (refine Met.by (allN_ct y (by omega) hy2) ?_; rintro q outs ⟨rfl, rfl⟩)
    | (refine Br.d (fun h => ?_) (fun h => ?_))
    | (refine Br.swap ?_)
    | (refine Br.bnot ?_)
    | (refine Br.mk (fun h => Step.out ?_) (fun h => Step.out ?_))
    | (refine Two.mk (Step.out ?_) (Step.out ?_))
    | (refine Cp.mk fun q hq => Step.out ?_)
    | (refine Ovl.mk (by assumption) (Step.out ?_))
    | (refine CallOK.io1 (g := 11) (Step.out ?_))
    | (refine CallOK.ctF (g := 12) (Step.out ?_))
    | (refine CallOK.io1 (g := 13) (Step.out ?_))
    | (refine CallOK.io1 (g := 14) (Step.out ?_))
    | (refine CallOK.ctF (g := 15) (Step.out ?_))
    | (refine CallOK.ctF (g := 16) (Step.out ?_))
    | (refine CallOK.of_ct (Step.out ?_))
    | (refine CallQ.of_ct (Step.out ?_))
    | (refine Met.by (g := 9) (few_ct _) ?_; rintro q outs ⟨rfl, rfl⟩)
    | (refine Met.by (g := 10) (new_ct _ (by assumption)) ?_; rintro q outs ⟨d, hd, rfl, rfl⟩)
    | (refine Met.by (g := 11) (events_ct _ _ _ (by omega) (by omega)) ?_; rintro q outs ⟨l, d, ⟨hl1, hl2⟩, rfl, rfl⟩)
    | (refine Met.by (g := 12) (all_ct _ _ (by assumption) (by assumption)) ?_; rintro q outs ⟨rfl, rfl⟩)
    | (refine Met.by (g := 13) (one_ct _ _) ?_; rintro q outs ⟨x, d, hx, rfl, rfl⟩)
    | (refine Met.by (g := 14) (next_ct _ _) ?_; rintro q outs ⟨x, d, hx, rfl, rfl⟩)
    | (refine Met.by (g := 15) (same_ct _ _ (by assumption) (by assumption)) ?_; rintro q outs ⟨x, hx, rfl, rfl⟩)
    | (refine Met.by (g := 16) (valid_ct _ (by assumption)) ?_; rintro q outs ⟨rfl, rfl⟩)
    | (refine Vc.mk ?_ (Step.out ?_))
  refine CodeOK.loopW hΓ hm ord3 [] (by kernel_rfl) (α := Dk × List Ev × Nat) (fun z => [(3, .loc 0 0), (5, rws (all [] y).1), (7, .own 1), (33, evs y), (34, i64 y.length), (35, i64 z.2.2)]) (fun z => [(0, .var z.1.ls), (1, .arr 34 6 z.2.1.length fun j => Ev.f (z.2.1.getD j Ev.z))]) 2 (fun z => z.2.2 ≤ y.length ∧ z.2.1.length ≤ 10 + z.2.2 ∧ (∀ e, e ∈ z.2.1 ↔ e ∈ y)) (fun z => y.length - z.2.2) ?_ ?_
  · refine Again.by (d, y, 0) ⟨Nat.zero_le _, by dsimp only; omega, fun _ => Iff.rfl⟩ ?_
    repeat' first
      | (refine Step.mk ?_; conv => whnf)
      | (refine Vc.om ?_ ?_; first | omega | with_reducible rfl | with_reducible exact same_rfl | (simp only [bytes_2, bytes_3, bytes_4, bytes_5, bytes_9, bytes_12, bytes_21, bytes_22, bytes_25, bytes_27, bytes_29, bytes_32, bytes_33, bytes_34, bytes_38, bytes_40, bytes_44, bytes_45, bytes_52, bytes_53, bytes_54, bytes_58, bytes_59, bytes_60, bytes_93, bytes_97, bytes_100, true_and, and_true] <;> omega))
      | (refine NilB.mk fun b hb => Step.out ?_)
      | with_reducible trivial
      | exact noSh_bool _
      | exact noSh_lit _
      | exact noSh_int _ _
      | exact noSh_str _
      | with_reducible rfl
      | with_reducible exact same_rfl
      | (refine Wr.i64 ?_ ?_; omega)
      | (refine Wr.u8 ?_ ?_; omega)
      | (refine Wr.i32 ?_ ?_; omega)
      | (with_reducible refine Br.tt ?_)
      | (with_reducible refine Br.ff ?_)
      | (refine Br.dT ?_ ?_; omega)
      | (refine Br.dF ?_ ?_; omega)
      | (refine Br.d (fun h => ?_) (fun h => ?_))
      | (refine Br.swap ?_)
      | (refine Br.bnot ?_)
      | (refine Br.mk (fun h => Step.out ?_) (fun h => Step.out ?_))
      | (refine Two.mk (Step.out ?_) (Step.out ?_))
      | (refine Cp.mk fun q hq => Step.out ?_)
      | (refine Ovl.mk (by assumption) (Step.out ?_))
      | (refine CallOK.io1 (g := 11) (Step.out ?_))
      | (refine CallOK.ctF (g := 12) (Step.out ?_))
      | (refine CallOK.io1 (g := 13) (Step.out ?_))
      | (refine CallOK.io1 (g := 14) (Step.out ?_))
      | (refine CallOK.ctF (g := 15) (Step.out ?_))
      | (refine CallOK.ctF (g := 16) (Step.out ?_))
      | (refine CallOK.of_ct (Step.out ?_))
      | (refine CallQ.of_ct (Step.out ?_))
      | (refine Met.by (g := 9) (few_ct _) ?_; rintro q outs ⟨rfl, rfl⟩)
      | (refine Met.by (g := 10) (new_ct _ (by assumption)) ?_; rintro q outs ⟨d, hd, rfl, rfl⟩)
      | (refine Met.by (g := 11) (events_ct _ _ _ (by omega) (by omega)) ?_; rintro q outs ⟨l, d, ⟨hl1, hl2⟩, rfl, rfl⟩)
      | (refine Met.by (g := 12) (all_ct _ _ (by assumption) (by assumption)) ?_; rintro q outs ⟨rfl, rfl⟩)
      | (refine Met.by (g := 13) (one_ct _ _) ?_; rintro q outs ⟨x, d, hx, rfl, rfl⟩)
      | (refine Met.by (g := 14) (next_ct _ _) ?_; rintro q outs ⟨x, d, hx, rfl, rfl⟩)
      | (refine Met.by (g := 15) (same_ct _ _ (by assumption) (by assumption)) ?_; rintro q outs ⟨x, hx, rfl, rfl⟩)
      | (refine Met.by (g := 16) (valid_ct _ (by assumption)) ?_; rintro q outs ⟨rfl, rfl⟩)
      | (refine Vc.mk ?_ (Step.out ?_))
    all_goals exact ⟨rfl, fun _ _ => rfl⟩
  · intro ⟨d, m, i⟩ ⟨hi, hm1, hm2⟩
    dsimp only at hi hm1 hm2 ⊢
    repeat' first
      | (refine Step.mk ?_; conv => whnf)
      | (refine Vc.om ?_ ?_; first | omega | with_reducible rfl | with_reducible exact same_rfl | (simp only [bytes_2, bytes_3, bytes_4, bytes_5, bytes_9, bytes_12, bytes_21, bytes_22, bytes_25, bytes_27, bytes_29, bytes_32, bytes_33, bytes_34, bytes_38, bytes_40, bytes_44, bytes_45, bytes_52, bytes_53, bytes_54, bytes_58, bytes_59, bytes_60, bytes_93, bytes_97, bytes_100, true_and, and_true] <;> omega))
      | (refine NilB.mk fun b hb => Step.out ?_)
      | with_reducible trivial
      | exact noSh_bool _
      | exact noSh_lit _
      | exact noSh_int _ _
      | exact noSh_str _
      | with_reducible rfl
      | with_reducible exact same_rfl
      | (refine Wr.i64 ?_ ?_; omega)
      | (refine Wr.u8 ?_ ?_; omega)
      | (refine Wr.i32 ?_ ?_; omega)
      | (with_reducible refine Br.tt ?_)
      | (with_reducible refine Br.ff ?_)
      | (refine Br.dT ?_ ?_; omega)
      | (refine Br.dF ?_ ?_; omega)
      | (refine Br.d (fun h => ?_) (fun h => ?_))
      | (refine Br.swap ?_)
      | (refine Br.bnot ?_)
      | (refine Br.mk (fun h => Step.out ?_) (fun h => Step.out ?_))
      | (refine Two.mk (Step.out ?_) (Step.out ?_))
      | (refine Cp.mk fun q hq => Step.out ?_)
      | (refine Ovl.mk (by assumption) (Step.out ?_))
      | (refine CallOK.io1 (g := 11) (Step.out ?_))
      | (refine CallOK.ctF (g := 12) (Step.out ?_))
      | (refine CallOK.io1 (g := 13) (Step.out ?_))
      | (refine CallOK.io1 (g := 14) (Step.out ?_))
      | (refine CallOK.ctF (g := 15) (Step.out ?_))
      | (refine CallOK.ctF (g := 16) (Step.out ?_))
      | (refine CallOK.of_ct (Step.out ?_))
      | (refine CallQ.of_ct (Step.out ?_))
      | (refine Met.by (g := 9) (few_ct _) ?_; rintro q outs ⟨rfl, rfl⟩)
      | (refine Met.by (g := 10) (new_ct _ (by assumption)) ?_; rintro q outs ⟨d, hd, rfl, rfl⟩)
      | (refine Met.by (g := 11) (events_ct _ _ _ (by omega) (by omega)) ?_; rintro q outs ⟨l, d, ⟨hl1, hl2⟩, rfl, rfl⟩)
      | (refine Met.by (g := 12) (all_ct _ _ (by assumption) (by assumption)) ?_; rintro q outs ⟨rfl, rfl⟩)
      | (refine Met.by (g := 13) (one_ct _ _) ?_; rintro q outs ⟨x, d, hx, rfl, rfl⟩)
      | (refine Met.by (g := 14) (next_ct _ _) ?_; rintro q outs ⟨x, d, hx, rfl, rfl⟩)
      | (refine Met.by (g := 15) (same_ct _ _ (by assumption) (by assumption)) ?_; rintro q outs ⟨x, hx, rfl, rfl⟩)
      | (refine Met.by (g := 16) (valid_ct _ (by assumption)) ?_; rintro q outs ⟨rfl, rfl⟩)
      | (refine Vc.mk ?_ (Step.out ?_))
    · refine Again.by (d, m ++ [y.getD (i : Int).toNat Ev.z], i + 1) ⟨⟨by dsimp only; omega, by simp; omega, fun e => ?_⟩, by dsimp only; omega⟩ ?_
      · simp only [List.mem_append, List.mem_singleton, hm2]
        refine ⟨fun h => h.elim id fun h => ?_, .inl⟩
        rw [h]; exact getD_mem (by omega)
      · repeat' first
          | (refine Step.mk ?_; conv => whnf)
          | (refine Vc.om ?_ ?_; first | omega | with_reducible rfl | with_reducible exact same_rfl | (simp only [bytes_2, bytes_3, bytes_4, bytes_5, bytes_9, bytes_12, bytes_21, bytes_22, bytes_25, bytes_27, bytes_29, bytes_32, bytes_33, bytes_34, bytes_38, bytes_40, bytes_44, bytes_45, bytes_52, bytes_53, bytes_54, bytes_58, bytes_59, bytes_60, bytes_93, bytes_97, bytes_100, true_and, and_true] <;> omega))
          | (refine NilB.mk fun b hb => Step.out ?_)
          | with_reducible trivial
          | exact noSh_bool _
          | exact noSh_lit _
          | exact noSh_int _ _
          | exact noSh_str _
          | with_reducible rfl
          | with_reducible exact same_rfl
          | (refine Wr.i64 ?_ ?_; omega)
          | (refine Wr.u8 ?_ ?_; omega)
          | (refine Wr.i32 ?_ ?_; omega)
          | (with_reducible refine Br.tt ?_)
          | (with_reducible refine Br.ff ?_)
          | (refine Br.dT ?_ ?_; omega)
          | (refine Br.dF ?_ ?_; omega)
          | (refine Br.d (fun h => ?_) (fun h => ?_))
          | (refine Br.swap ?_)
          | (refine Br.bnot ?_)
          | (refine Br.mk (fun h => Step.out ?_) (fun h => Step.out ?_))
          | (refine Two.mk (Step.out ?_) (Step.out ?_))
          | (refine Cp.mk fun q hq => Step.out ?_)
          | (refine Ovl.mk (by assumption) (Step.out ?_))
          | (refine CallOK.io1 (g := 11) (Step.out ?_))
          | (refine CallOK.ctF (g := 12) (Step.out ?_))
          | (refine CallOK.io1 (g := 13) (Step.out ?_))
          | (refine CallOK.io1 (g := 14) (Step.out ?_))
          | (refine CallOK.ctF (g := 15) (Step.out ?_))
          | (refine CallOK.ctF (g := 16) (Step.out ?_))
          | (refine CallOK.of_ct (Step.out ?_))
          | (refine CallQ.of_ct (Step.out ?_))
          | (refine Met.by (g := 9) (few_ct _) ?_; rintro q outs ⟨rfl, rfl⟩)
          | (refine Met.by (g := 10) (new_ct _ (by assumption)) ?_; rintro q outs ⟨d, hd, rfl, rfl⟩)
          | (refine Met.by (g := 11) (events_ct _ _ _ (by omega) (by omega)) ?_; rintro q outs ⟨l, d, ⟨hl1, hl2⟩, rfl, rfl⟩)
          | (refine Met.by (g := 12) (all_ct _ _ (by assumption) (by assumption)) ?_; rintro q outs ⟨rfl, rfl⟩)
          | (refine Met.by (g := 13) (one_ct _ _) ?_; rintro q outs ⟨x, d, hx, rfl, rfl⟩)
          | (refine Met.by (g := 14) (next_ct _ _) ?_; rintro q outs ⟨x, d, hx, rfl, rfl⟩)
          | (refine Met.by (g := 15) (same_ct _ _ (by assumption) (by assumption)) ?_; rintro q outs ⟨x, hx, rfl, rfl⟩)
          | (refine Met.by (g := 16) (valid_ct _ (by assumption)) ?_; rintro q outs ⟨rfl, rfl⟩)
          | (refine Vc.mk ?_ (Step.out ?_))
        exact app1 Ev.f Ev.z ite_ev m _
    · refine Again.by (d, m, i + 1) ⟨⟨by dsimp only; omega, by dsimp only; omega, hm2⟩, by dsimp only; omega⟩ ?_
      repeat' first
        | (refine Step.mk ?_; conv => whnf)
        | (refine Vc.om ?_ ?_; first | omega | with_reducible rfl | with_reducible exact same_rfl | (simp only [bytes_2, bytes_3, bytes_4, bytes_5, bytes_9, bytes_12, bytes_21, bytes_22, bytes_25, bytes_27, bytes_29, bytes_32, bytes_33, bytes_34, bytes_38, bytes_40, bytes_44, bytes_45, bytes_52, bytes_53, bytes_54, bytes_58, bytes_59, bytes_60, bytes_93, bytes_97, bytes_100, true_and, and_true] <;> omega))
        | (refine NilB.mk fun b hb => Step.out ?_)
        | with_reducible trivial
        | exact noSh_bool _
        | exact noSh_lit _
        | exact noSh_int _ _
        | exact noSh_str _
        | with_reducible rfl
        | with_reducible exact same_rfl
        | (refine Wr.i64 ?_ ?_; omega)
        | (refine Wr.u8 ?_ ?_; omega)
        | (refine Wr.i32 ?_ ?_; omega)
        | (with_reducible refine Br.tt ?_)
        | (with_reducible refine Br.ff ?_)
        | (refine Br.dT ?_ ?_; omega)
        | (refine Br.dF ?_ ?_; omega)
        | (refine Br.d (fun h => ?_) (fun h => ?_))
        | (refine Br.swap ?_)
        | (refine Br.bnot ?_)
        | (refine Br.mk (fun h => Step.out ?_) (fun h => Step.out ?_))
        | (refine Two.mk (Step.out ?_) (Step.out ?_))
        | (refine Cp.mk fun q hq => Step.out ?_)
        | (refine Ovl.mk (by assumption) (Step.out ?_))
        | (refine CallOK.io1 (g := 11) (Step.out ?_))
        | (refine CallOK.ctF (g := 12) (Step.out ?_))
        | (refine CallOK.io1 (g := 13) (Step.out ?_))
        | (refine CallOK.io1 (g := 14) (Step.out ?_))
        | (refine CallOK.ctF (g := 15) (Step.out ?_))
        | (refine CallOK.ctF (g := 16) (Step.out ?_))
        | (refine CallOK.of_ct (Step.out ?_))
        | (refine CallQ.of_ct (Step.out ?_))
        | (refine Met.by (g := 9) (few_ct _) ?_; rintro q outs ⟨rfl, rfl⟩)
        | (refine Met.by (g := 10) (new_ct _ (by assumption)) ?_; rintro q outs ⟨d, hd, rfl, rfl⟩)
        | (refine Met.by (g := 11) (events_ct _ _ _ (by omega) (by omega)) ?_; rintro q outs ⟨l, d, ⟨hl1, hl2⟩, rfl, rfl⟩)
        | (refine Met.by (g := 12) (all_ct _ _ (by assumption) (by assumption)) ?_; rintro q outs ⟨rfl, rfl⟩)
        | (refine Met.by (g := 13) (one_ct _ _) ?_; rintro q outs ⟨x, d, hx, rfl, rfl⟩)
        | (refine Met.by (g := 14) (next_ct _ _) ?_; rintro q outs ⟨x, d, hx, rfl, rfl⟩)
        | (refine Met.by (g := 15) (same_ct _ _ (by assumption) (by assumption)) ?_; rintro q outs ⟨x, hx, rfl, rfl⟩)
        | (refine Met.by (g := 16) (valid_ct _ (by assumption)) ?_; rintro q outs ⟨rfl, rfl⟩)
        | (refine Vc.mk ?_ (Step.out ?_))
    · have hm3 : m.length ≤ 20 := by omega
      clear hm1
      refine CodeOK.loopW hΓ hm ord3 [] (by kernel_rfl) (α := Dk × List Ev × Int) (fun z => [(3, .loc 0 0), (5, rws (all [] y).1), (7, .own 1), (10, i64 z.2.2)]) (fun z => [(0, .var z.1.ls), (1, .arr 34 6 z.2.1.length fun j => Ev.f (z.2.1.getD j Ev.z))]) 2 (fun z => -1 ≤ z.2.2 ∧ z.2.2 < z.2.1.length ∧ z.2.1.length ≤ 20 ∧ (∀ e, e ∈ z.2.1 ↔ e ∈ y)) (fun z => z.2.2.toNat) ?_ ?_
      · refine Again.by (d, m, (m.length : Int) - 1) ⟨by dsimp only; omega, by dsimp only; omega, hm3, hm2⟩ ?_
        repeat' first
          | (refine Step.mk ?_; conv => whnf)
          | (refine Vc.om ?_ ?_; first | omega | with_reducible rfl | with_reducible exact same_rfl | (simp only [bytes_2, bytes_3, bytes_4, bytes_5, bytes_9, bytes_12, bytes_21, bytes_22, bytes_25, bytes_27, bytes_29, bytes_32, bytes_33, bytes_34, bytes_38, bytes_40, bytes_44, bytes_45, bytes_52, bytes_53, bytes_54, bytes_58, bytes_59, bytes_60, bytes_93, bytes_97, bytes_100, true_and, and_true] <;> omega))
          | (refine NilB.mk fun b hb => Step.out ?_)
          | with_reducible trivial
          | exact noSh_bool _
          | exact noSh_lit _
          | exact noSh_int _ _
          | exact noSh_str _
          | with_reducible rfl
          | with_reducible exact same_rfl
          | (refine Wr.i64 ?_ ?_; omega)
          | (refine Wr.u8 ?_ ?_; omega)
          | (refine Wr.i32 ?_ ?_; omega)
          | (with_reducible refine Br.tt ?_)
          | (with_reducible refine Br.ff ?_)
          | (refine Br.dT ?_ ?_; omega)
          | (refine Br.dF ?_ ?_; omega)
          | (refine Br.d (fun h => ?_) (fun h => ?_))
          | (refine Br.swap ?_)
          | (refine Br.bnot ?_)
          | (refine Br.mk (fun h => Step.out ?_) (fun h => Step.out ?_))
          | (refine Two.mk (Step.out ?_) (Step.out ?_))
          | (refine Cp.mk fun q hq => Step.out ?_)
          | (refine Ovl.mk (by assumption) (Step.out ?_))
          | (refine CallOK.io1 (g := 11) (Step.out ?_))
          | (refine CallOK.ctF (g := 12) (Step.out ?_))
          | (refine CallOK.io1 (g := 13) (Step.out ?_))
          | (refine CallOK.io1 (g := 14) (Step.out ?_))
          | (refine CallOK.ctF (g := 15) (Step.out ?_))
          | (refine CallOK.ctF (g := 16) (Step.out ?_))
          | (refine CallOK.of_ct (Step.out ?_))
          | (refine CallQ.of_ct (Step.out ?_))
          | (refine Met.by (g := 9) (few_ct _) ?_; rintro q outs ⟨rfl, rfl⟩)
          | (refine Met.by (g := 10) (new_ct _ (by assumption)) ?_; rintro q outs ⟨d, hd, rfl, rfl⟩)
          | (refine Met.by (g := 11) (events_ct _ _ _ (by omega) (by omega)) ?_; rintro q outs ⟨l, d, ⟨hl1, hl2⟩, rfl, rfl⟩)
          | (refine Met.by (g := 12) (all_ct _ _ (by assumption) (by assumption)) ?_; rintro q outs ⟨rfl, rfl⟩)
          | (refine Met.by (g := 13) (one_ct _ _) ?_; rintro q outs ⟨x, d, hx, rfl, rfl⟩)
          | (refine Met.by (g := 14) (next_ct _ _) ?_; rintro q outs ⟨x, d, hx, rfl, rfl⟩)
          | (refine Met.by (g := 15) (same_ct _ _ (by assumption) (by assumption)) ?_; rintro q outs ⟨x, hx, rfl, rfl⟩)
          | (refine Met.by (g := 16) (valid_ct _ (by assumption)) ?_; rintro q outs ⟨rfl, rfl⟩)
          | (refine Vc.mk ?_ (Step.out ?_))
      · intro ⟨d, m, k⟩ ⟨hk1, hk2, hm1, hm2⟩
        dsimp only at hk1 hk2 hm1 hm2 ⊢
        repeat' first
          | (refine Step.mk ?_; conv => whnf)
          | (refine Vc.om ?_ ?_; first | omega | with_reducible rfl | with_reducible exact same_rfl | (simp only [bytes_2, bytes_3, bytes_4, bytes_5, bytes_9, bytes_12, bytes_21, bytes_22, bytes_25, bytes_27, bytes_29, bytes_32, bytes_33, bytes_34, bytes_38, bytes_40, bytes_44, bytes_45, bytes_52, bytes_53, bytes_54, bytes_58, bytes_59, bytes_60, bytes_93, bytes_97, bytes_100, true_and, and_true] <;> omega))
          | (refine NilB.mk fun b hb => Step.out ?_)
          | with_reducible trivial
          | exact noSh_bool _
          | exact noSh_lit _
          | exact noSh_int _ _
          | exact noSh_str _
          | with_reducible rfl
          | with_reducible exact same_rfl
          | (refine Wr.i64 ?_ ?_; omega)
          | (refine Wr.u8 ?_ ?_; omega)
          | (refine Wr.i32 ?_ ?_; omega)
          | (with_reducible refine Br.tt ?_)
          | (with_reducible refine Br.ff ?_)
          | (refine Br.dT ?_ ?_; omega)
          | (refine Br.dF ?_ ?_; omega)
          | (refine Met.by (allN_ct m (by omega) (fun e he => hy2 e ((hm2 e).1 he))) ?_; rintro q outs ⟨rfl, rfl⟩)
          | (refine Br.d (fun h => ?_) (fun h => ?_))
          | (refine Br.swap ?_)
          | (refine Br.bnot ?_)
          | (refine Br.mk (fun h => Step.out ?_) (fun h => Step.out ?_))
          | (refine Two.mk (Step.out ?_) (Step.out ?_))
          | (refine Cp.mk fun q hq => Step.out ?_)
          | (refine Ovl.mk (by assumption) (Step.out ?_))
          | (refine CallOK.io1 (g := 11) (Step.out ?_))
          | (refine CallOK.ctF (g := 12) (Step.out ?_))
          | (refine CallOK.io1 (g := 13) (Step.out ?_))
          | (refine CallOK.io1 (g := 14) (Step.out ?_))
          | (refine CallOK.ctF (g := 15) (Step.out ?_))
          | (refine CallOK.ctF (g := 16) (Step.out ?_))
          | (refine CallOK.of_ct (Step.out ?_))
          | (refine CallQ.of_ct (Step.out ?_))
          | (refine Met.by (g := 9) (few_ct _) ?_; rintro q outs ⟨rfl, rfl⟩)
          | (refine Met.by (g := 10) (new_ct _ (by assumption)) ?_; rintro q outs ⟨d, hd, rfl, rfl⟩)
          | (refine Met.by (g := 11) (events_ct _ _ _ (by omega) (by omega)) ?_; rintro q outs ⟨l, d, ⟨hl1, hl2⟩, rfl, rfl⟩)
          | (refine Met.by (g := 12) (all_ct _ _ (by assumption) (by assumption)) ?_; rintro q outs ⟨rfl, rfl⟩)
          | (refine Met.by (g := 13) (one_ct _ _) ?_; rintro q outs ⟨x, d, hx, rfl, rfl⟩)
          | (refine Met.by (g := 14) (next_ct _ _) ?_; rintro q outs ⟨x, d, hx, rfl, rfl⟩)
          | (refine Met.by (g := 15) (same_ct _ _ (by assumption) (by assumption)) ?_; rintro q outs ⟨x, hx, rfl, rfl⟩)
          | (refine Met.by (g := 16) (valid_ct _ (by assumption)) ?_; rintro q outs ⟨rfl, rfl⟩)
          | (refine Vc.mk ?_ (Step.out ?_))
        · refine Again.by (d, (m.set k.toNat (m.getD x.toNat Ev.z)).set x.toNat (m.getD k.toNat Ev.z), k - 1) ⟨⟨by dsimp only; omega, by simp; omega, by simp; omega, fun e => ?_⟩, by dsimp only; omega⟩ ?_
          · exact (mem_swap (by omega) (by omega) e).trans (hm2 e)
          · repeat' first
              | (refine Step.mk ?_; conv => whnf)
              | (refine Vc.om ?_ ?_; first | omega | with_reducible rfl | with_reducible exact same_rfl | (simp only [bytes_2, bytes_3, bytes_4, bytes_5, bytes_9, bytes_12, bytes_21, bytes_22, bytes_25, bytes_27, bytes_29, bytes_32, bytes_33, bytes_34, bytes_38, bytes_40, bytes_44, bytes_45, bytes_52, bytes_53, bytes_54, bytes_58, bytes_59, bytes_60, bytes_93, bytes_97, bytes_100, true_and, and_true] <;> omega))
              | (refine NilB.mk fun b hb => Step.out ?_)
              | with_reducible trivial
              | exact noSh_bool _
              | exact noSh_lit _
              | exact noSh_int _ _
              | exact noSh_str _
              | with_reducible rfl
              | with_reducible exact same_rfl
              | (refine Wr.i64 ?_ ?_; omega)
              | (refine Wr.u8 ?_ ?_; omega)
              | (refine Wr.i32 ?_ ?_; omega)
              | (with_reducible refine Br.tt ?_)
              | (with_reducible refine Br.ff ?_)
              | (refine Br.dT ?_ ?_; omega)
              | (refine Br.dF ?_ ?_; omega)
              | (refine Br.d (fun h => ?_) (fun h => ?_))
              | (refine Br.swap ?_)
              | (refine Br.bnot ?_)
              | (refine Br.mk (fun h => Step.out ?_) (fun h => Step.out ?_))
              | (refine Two.mk (Step.out ?_) (Step.out ?_))
              | (refine Cp.mk fun q hq => Step.out ?_)
              | (refine Ovl.mk (by assumption) (Step.out ?_))
              | (refine CallOK.io1 (g := 11) (Step.out ?_))
              | (refine CallOK.ctF (g := 12) (Step.out ?_))
              | (refine CallOK.io1 (g := 13) (Step.out ?_))
              | (refine CallOK.io1 (g := 14) (Step.out ?_))
              | (refine CallOK.ctF (g := 15) (Step.out ?_))
              | (refine CallOK.ctF (g := 16) (Step.out ?_))
              | (refine CallOK.of_ct (Step.out ?_))
              | (refine CallQ.of_ct (Step.out ?_))
              | (refine Met.by (g := 9) (few_ct _) ?_; rintro q outs ⟨rfl, rfl⟩)
              | (refine Met.by (g := 10) (new_ct _ (by assumption)) ?_; rintro q outs ⟨d, hd, rfl, rfl⟩)
              | (refine Met.by (g := 11) (events_ct _ _ _ (by omega) (by omega)) ?_; rintro q outs ⟨l, d, ⟨hl1, hl2⟩, rfl, rfl⟩)
              | (refine Met.by (g := 12) (all_ct _ _ (by assumption) (by assumption)) ?_; rintro q outs ⟨rfl, rfl⟩)
              | (refine Met.by (g := 13) (one_ct _ _) ?_; rintro q outs ⟨x, d, hx, rfl, rfl⟩)
              | (refine Met.by (g := 14) (next_ct _ _) ?_; rintro q outs ⟨x, d, hx, rfl, rfl⟩)
              | (refine Met.by (g := 15) (same_ct _ _ (by assumption) (by assumption)) ?_; rintro q outs ⟨x, hx, rfl, rfl⟩)
              | (refine Met.by (g := 16) (valid_ct _ (by assumption)) ?_; rintro q outs ⟨rfl, rfl⟩)
              | (refine Vc.mk ?_ (Step.out ?_))
            refine ⟨by simp, fun j hj => ?_⟩
            exact swap_get m k.toNat x.toNat j (by simpa using hj)
        · have e0 : (all [] y).1 = (all [] m).1 := all_set (by omega) (by omega) fun e => (hm2 e).symm
          have e1 := all_valid y
          have e2 := valid_ok e1
          have e3 : RwsOK (all [] m).1 := e0 ▸ e2
          repeat' first
            | (refine Step.mk ?_; conv => whnf)
            | (refine Vc.om ?_ ?_; first | omega | with_reducible rfl | with_reducible exact same_rfl | (simp only [bytes_2, bytes_3, bytes_4, bytes_5, bytes_9, bytes_12, bytes_21, bytes_22, bytes_25, bytes_27, bytes_29, bytes_32, bytes_33, bytes_34, bytes_38, bytes_40, bytes_44, bytes_45, bytes_52, bytes_53, bytes_54, bytes_58, bytes_59, bytes_60, bytes_93, bytes_97, bytes_100, true_and, and_true] <;> omega))
            | (refine NilB.mk fun b hb => Step.out ?_)
            | with_reducible trivial
            | exact noSh_bool _
            | exact noSh_lit _
            | exact noSh_int _ _
            | exact noSh_str _
            | with_reducible rfl
            | with_reducible exact same_rfl
            | (refine Wr.i64 ?_ ?_; omega)
            | (refine Wr.u8 ?_ ?_; omega)
            | (refine Wr.i32 ?_ ?_; omega)
            | (with_reducible refine Br.tt ?_)
            | (with_reducible refine Br.ff ?_)
            | (refine Br.dT ?_ ?_; omega)
            | (refine Br.dF ?_ ?_; omega)
            | (refine Met.by (same_ct _ _ e2 e3) ?_; rintro q outs ⟨x, hx, rfl, rfl⟩)
            | (refine Br.d (fun h => ?_) (fun h => ?_))
            | (refine Br.swap ?_)
            | (refine Br.bnot ?_)
            | (refine Br.mk (fun h => Step.out ?_) (fun h => Step.out ?_))
            | (refine Two.mk (Step.out ?_) (Step.out ?_))
            | (refine Cp.mk fun q hq => Step.out ?_)
            | (refine Ovl.mk (by assumption) (Step.out ?_))
            | (refine CallOK.io1 (g := 11) (Step.out ?_))
            | (refine CallOK.ctF (g := 12) (Step.out ?_))
            | (refine CallOK.io1 (g := 13) (Step.out ?_))
            | (refine CallOK.io1 (g := 14) (Step.out ?_))
            | (refine CallOK.ctF (g := 15) (Step.out ?_))
            | (refine CallOK.ctF (g := 16) (Step.out ?_))
            | (refine CallOK.of_ct (Step.out ?_))
            | (refine CallQ.of_ct (Step.out ?_))
            | (refine Met.by (g := 9) (few_ct _) ?_; rintro q outs ⟨rfl, rfl⟩)
            | (refine Met.by (g := 10) (new_ct _ (by assumption)) ?_; rintro q outs ⟨d, hd, rfl, rfl⟩)
            | (refine Met.by (g := 11) (events_ct _ _ _ (by omega) (by omega)) ?_; rintro q outs ⟨l, d, ⟨hl1, hl2⟩, rfl, rfl⟩)
            | (refine Met.by (g := 12) (all_ct _ _ (by assumption) (by assumption)) ?_; rintro q outs ⟨rfl, rfl⟩)
            | (refine Met.by (g := 13) (one_ct _ _) ?_; rintro q outs ⟨x, d, hx, rfl, rfl⟩)
            | (refine Met.by (g := 14) (next_ct _ _) ?_; rintro q outs ⟨x, d, hx, rfl, rfl⟩)
            | (refine Met.by (g := 15) (same_ct _ _ (by assumption) (by assumption)) ?_; rintro q outs ⟨x, hx, rfl, rfl⟩)
            | (refine Met.by (g := 16) (valid_ct _ (by assumption)) ?_; rintro q outs ⟨rfl, rfl⟩)
            | (refine Vc.mk ?_ (Step.out ?_))
          · exact decide_eq_true e1
          · rw [hx e0] at h; cases h
end Kx
