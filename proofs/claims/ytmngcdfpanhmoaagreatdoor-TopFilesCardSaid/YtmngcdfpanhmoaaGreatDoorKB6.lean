/-
  The deck's schemas.
  No condition beyond those written in each theorem.
-/
import Derived.Test.YtmngcdfpanhmoaaGreatDoorKB5
import Derived.Test.YtmngcdfpanhmoaaGreatDoorFD
open Go Sx Go.Proofs
set_option linter.unusedSimpArgs false
set_option linter.unusedVariables false
namespace Kx
theorem RuD.check {r : Ru} (h : RuD r) : checkE r = 0 := by
  obtain ⟨t, n, s⟩ := r
  obtain ⟨h1, h2, h3⟩ := h
  simp only at h1 h2 h3
  rcases h1 with rfl | rfl <;> rcases h2 with rfl | rfl <;> rcases h3 with rfl | rfl <;> decide +kernel
def nmL : List Str := [[102, 97, 109, 105, 108, 121], [103, 105, 118, 101, 110], [98, 105, 114, 116, 104], [115, 116, 114, 101, 101, 116], [99, 111, 100, 101]]
/-- Fields as the deck deals them. -/
def FdD (f : List Fd) : Prop := ∀ j, j < f.length → (f.getD j ([], 0)).1 = nmL.getD j [] ∧ 1 ≤ (f.getD j ([], 0)).2 ∧ (f.getD j ([], 0)).2 ≤ 4
theorem FdD.snoc {f : List Fd} (h : FdD f) (k : Int) (hk : 1 ≤ k ∧ k ≤ 4) : FdD (f ++ [(nmL.getD f.length [], k)]) := fun i hi => by
  rw [List.length_append, List.length_cons, List.length_nil] at hi
  by_cases e : i < f.length
  · rw [List.getD_eq_getElem?_getD, List.getElem?_append_left e, ← List.getD_eq_getElem?_getD]
    exact h i e
  · obtain rfl : i = f.length := by omega
    rw [List.getD_eq_getElem?_getD (l := f ++ _), List.getElem?_append_right (Nat.le_refl _), Nat.sub_self]
    exact ⟨rfl, hk⟩
structure ScD (s : Sc) : Prop where
  n1 : 1 ≤ s.f.length
  n4 : s.f.length ≤ 4
  f : FdD s.f
  r : RuD s.r
theorem ScD.ok {s : Sc} (h : ScD s) : s.ok := by
  have n4 := h.n4
  have hf := h.f
  have hw : ∀ i < 4, wordB (nmL.getD i []) = true := by decide +kernel
  have hd : ∀ i < 4, ∀ j < 4, i < j → nmL.getD i [] ≠ nmL.getD j [] := by decide +kernel
  have hm : ∀ x ∈ s.f, ∃ j, j < s.f.length ∧ x = s.f.getD j ([], 0) := fun x hx => by
    obtain ⟨j, hj, rfl⟩ := List.getElem_of_mem hx
    exact ⟨j, hj, by rw [List.getD_eq_getElem?_getD, List.getElem?_eq_getElem hj]; rfl⟩
  refine ⟨h.n1, by omega, fun x hx => ?_, fun i j hij hj => ?_, fun x hx => ?_, h.r.ok, h.r.check⟩
  · obtain ⟨j, hj, rfl⟩ := hm x hx
    rw [(hf j hj).1]; exact hw j (by omega)
  · rw [(hf i (by omega)).1, (hf j hj).1]; exact hd i (by omega) j (by omega) hij
  · obtain ⟨j, hj, rfl⟩ := hm x hx
    exact (hf j hj).2
theorem nm_at (i : Nat) (h : i < 5) : selC [[D.str [102, 97, 109, 105, 108, 121]], [.str [103, 105, 118, 101, 110]], [.str [98, 105, 114, 116, 104]], [.str [115, 116, 114, 101, 101, 116]], [.str [99, 111, 100, 101]]] i = [.str (nmL.getD i [])] := selC_str nmL i h
theorem fd_app (f : List Fd) (x : Fd) {m : List D} (hm : m = fdF x) : f.length + 1 = (f ++ [x]).length ∧ ∀ i, i < (f ++ [x]).length → iteL (i < f.length) (fdF (f.getD i ([], 0))) (selC [m] (i - f.length)) = fdF ((f ++ [x]).getD i ([], 0)) :=
  app_one fdF ([], 0) (fun _ _ => rfl) f x hm
def kA (i : Nat) : Int := if i = 0 then 1 else if i - 1 = 0 then 1 else if i - 1 - 1 = 0 then 2 else if i - 1 - 1 - 1 = 0 then 4 else 3
theorem kA_in (i : Nat) : 1 ≤ kA i ∧ kA i ≤ 4 := by
  unfold kA
  (repeat' split) <;> omega
theorem schema_ct (d : Dk) : Ct Tryz.prog 7 [d.b] fun r outs => ∃ (s : Sc) (d' : Dk), ScD s ∧ r = s.d ∧ outs = [Dk.b d'] := by
  refine .some2 (.of_W (fn := Tryz.f7) hΓ hm Tryz.func7 ord7 [] (by kernel_rfl) (Step.out ?_))
  repeat' first
    | (refine Step.mk ?_; conv => whnf)
    | (refine Wr.i64 ?_ ?_; omega)
    | (refine CallOK.io1 (g := 23) (Step.out ?_))
    | (refine CallOK.io1 (g := 24) (Step.out ?_))
    | (refine Met.by (g := 23) (rules_ct _) ?_; rintro q outs ⟨r, d, hr, rfl, rfl⟩)
    | (refine Met.by (g := 24) (next_ct _ _) ?_; rintro q outs ⟨x, d, hx, rfl, rfl⟩)
  have hr2 := hr.two
  have hx4 := hx.2.2 (by decide)
  refine CodeOK.loopW hΓ hm ord7 [] (by kernel_rfl) (α := List Fd × Dk) (fun z => [(0, .loc 0 0), (2, .loc 1 0), (3, .loc 2 0), (4, strs nmL), (5, i64 (1 + x)), (6, i64 z.1.length)]) (fun z => [(0, .var z.2.ls), (1, .var [.nil, .nil, .nil, .nil]), (2, .var [.own 3, strs r.t, prs r.n, prs r.s]), (3, .arr 61 2 z.1.length fun i => fdF (z.1.getD i ([], 0)))]) 4 (fun z => FdD z.1 ∧ z.1.length ≤ 1 + x) (fun z => 5 - z.1.length) ?_ ?_
  · refine Again.by ([], d) ⟨nofun, by simp; omega⟩ ?_
    repeat' first
      | (refine Step.mk ?_; conv => whnf)
      | (refine Vc.om ?_ ?_; first | omega | with_reducible rfl | with_reducible exact same_rfl)
      | with_reducible trivial
      | (rfl)
      | (exact ⟨rfl, nm_at⟩)
      | (refine Vc.mk ?_ (Step.out ?_))
  · intro ⟨f, d⟩ ⟨hf, hi⟩
    dsimp only at hi hf ⊢
    have h5 : nmL.length = 5 := rfl
    repeat' first
      | (refine Step.mk ?_; conv => whnf)
      | (refine Vc.om ?_ ?_; first | omega | with_reducible rfl | with_reducible exact same_rfl)
      | (refine Vc.om ?_ ?_; (simp only [bytes_2, bytes_3, bytes_4, bytes_5, bytes_9, bytes_12, bytes_21, bytes_22, bytes_25, bytes_27, bytes_28, bytes_29, bytes_30, bytes_31, bytes_32, bytes_33, bytes_35, bytes_37, bytes_38, bytes_39, bytes_41, bytes_43, bytes_49, bytes_53, bytes_54, bytes_55, bytes_60, bytes_61, bytes_62, bytes_63, bytes_64, bytes_65, bytes_74, bytes_75, bytes_82, bytes_83, bytes_84, bytes_85, bytes_95, bytes_103, bytes_104, bytes_105, bytes_125, bytes_126, bytes_127, bytes_131, bytes_150, bytes_151, bytes_152, bytes_153, bytes_154, bytes_159, bytes_167, bytes_168, bytes_181, bytes_182, bytes_190, bytes_197, bytes_210, bytes_214, bytes_215, bytes_218, bytes_251, bytes_252, bytes_254, bytes_259, bytes_260, bytes_261, bytes_269, bytes_272, bytes_279, bytes_286, bytes_287, bytes_288, bytes_289, bytes_290, bytes_294, bytes_296, bytes_302, bytes_305, bytes_307, true_and, and_true] <;> omega))
      | (refine Wr.i64 ?_ ?_; omega)
      | (refine Br.d (fun h => ?_) (fun h => ?_))
      | (refine Br.mk (fun h => Step.out ?_) (fun h => Step.out ?_))
      | (refine CallOK.io1 (g := 24) (Step.out ?_))
      | (refine CallOK.io1 (g := 25) (Step.out ?_))
      | (refine Met.by (g := 24) (next_ct _ _) ?_; rintro q outs ⟨x, d, hx, rfl, rfl⟩)
      | (refine Met.by (g := 25) (one_ct _ _) ?_; rintro q outs ⟨x, d, hx, rfl, rfl⟩)
    · rename_i x d hx
      have hx4 := hx.2.2 (by decide)
      refine Again.by (f ++ [(nmL.getD f.length [], 1 + x)], d) ⟨⟨hf.snoc _ (by omega), by simp; omega⟩, by simp; omega⟩ ?_
      repeat' first
        | (refine Step.mk ?_; conv => whnf)
        | (refine Vc.om ?_ ?_; first | omega | with_reducible rfl | with_reducible exact same_rfl)
        | with_reducible trivial
        | (simp; done)
        | (exact fd_app f _ rfl)
        | (refine Vc.mk ?_ (Step.out ?_))
    · refine Again.by (f ++ [(nmL.getD f.length [], kA f.length)], d) ⟨⟨hf.snoc _ (kA_in _), by simp; omega⟩, by simp; omega⟩ ?_
      repeat' first
        | (refine Step.mk ?_; conv => whnf)
        | (refine Vc.om ?_ ?_; first | omega | with_reducible rfl | with_reducible exact same_rfl)
        | with_reducible trivial
        | (simp; done)
        | (exact fd_app f _ rfl)
        | (refine Vc.mk ?_ (Step.out ?_))
    · refine Lf2.by ⟨f, r⟩ d ⟨by dsimp only; omega, by dsimp only; omega, hf, hr⟩ ?_
      repeat' first
        | (refine Step.mk ?_; conv => whnf)
        | with_reducible trivial
        | with_reducible exact same_rfl
        | (refine Two.mk (Step.out ?_) (Step.out ?_))
end Kx
/-
  What the deck's raw values become; the deck's records.
-/
open Go Sx Go.Proofs
set_option linter.unusedSimpArgs false
set_option linter.unusedVariables false
namespace Kx
def anS (c : UInt8) : Bool := isAn c || c == 32
def okB (b : Bool) (y : Str) : Bool := (decide (y = []) || b) && (decide (y.length ≤ 64) && y.all anS)
theorem okB_v {s : Sc} {i : Nat} {y : Str} (h : okB (nrmB s.r (s.kind i).toNat y) y = true) : VOk s i y := by
  simp only [okB, Bool.and_eq_true, Bool.or_eq_true, decide_eq_true_eq, List.all_eq_true] at h
  obtain ⟨h1, h2, h3⟩ := h
  refine ⟨?_, h2, fun c hc => ?_⟩
  · unfold nB
    split
    · rfl
    · rename_i hne; exact h1.resolve_left hne
  · have := h3 c hc
    simp only [anS, Bool.or_eq_true, beq_iff_eq] at this
    exact this
theorem name_okB {r : Ru} {x : Str} (h : normE r x = 0) : okB (normB r (normO r x)) (normO r x) = true := by
  obtain ⟨h1, h2, _, h4⟩ := norm_twice h
  obtain ⟨hr, _, _, _, h5⟩ := norm_ok h
  have h6 : (normO r x).all anS = true := by
    rw [h5, List.all_eq_true]
    intro c hc
    have hg := keep_good hr (toks (foldO x))
    rcases join_mem hc with e | ⟨y, hy, hcy⟩
    · subst e; rfl
    · have := low_an ((hg y hy).lo c hcy)
      simp [anS, this]
  simp only [okB, normB, h1, h2, h6, decide_true, Bool.and_true, Bool.or_true, decide_eq_true h4]
theorem code_okB : ∀ x ∈ codesL, codeE x = 0 → okB (codeB (codeO x)) (codeO x) = true := by decide +kernel
theorem addr_okB : ∀ t ∈ [[], rT], ∀ n ∈ [[], rN], ∀ u ∈ [[], rS], ∀ x ∈ addrsL, addrE ⟨t, n, u⟩ x = 0 → okB (addrB ⟨t, n, u⟩ (addrO ⟨t, n, u⟩ x)) (addrO ⟨t, n, u⟩ x) = true := by decide +kernel
def wrtD (y m d w : Nat) : Str := writtenS y m d w
theorem day_okB : ∀ y < 2, ∀ m < 3, ∀ d < 3, ∀ w < 3, okB (rdB (dayO (wrtD (1980 + y) (1 + m) (1 + d) w))) (dayO (wrtD (1980 + y) (1 + m) (1 + d) w)) = true := by decide +kernel
theorem raw_ok {s : Sc} (hs : ScD s) (i : Nat) (x : Str) (h : RawP (s.kind i) x) (hk : 1 ≤ s.kind i ∧ s.kind i ≤ 4) (he : nE s i x = 0) : VOk s i (nO s i x) := by
  by_cases h0 : x = []
  · rw [nO, if_pos h0]
    exact okB_v (by simp [okB])
  rw [nE, if_neg h0] at he
  rw [nO, if_neg h0]
  apply okB_v
  rcases h with rfl | ⟨hk2, y, m, d, w, hy, hm, hd, rfl⟩ | ⟨hk2, hx⟩ | ⟨hk2, hx⟩ | ⟨h2, h3, h4, _⟩
  · exact absurd rfl h0
  · rw [hk2]
    have hw : ∃ v : Nat, v < 3 ∧ writtenS y m d w = writtenS y m d v := by
      by_cases h1 : w = 0
      · exact ⟨0, by omega, by rw [h1]; rfl⟩
      · by_cases h2 : w = 1
        · exact ⟨1, by omega, by rw [h2]; rfl⟩
        · exact ⟨2, by omega, by rw [writtenS, writtenS, if_neg h1, if_neg h2, if_neg (by decide), if_neg (by decide)]⟩
    obtain ⟨v, hv, e⟩ := hw
    have := day_okB (y - 1980).toNat (by omega) (m - 1).toNat (by omega) (d - 1).toNat (by omega) v hv
    unfold wrtD at this
    rw [show ((1980 + (y - 1980).toNat : Nat) : Int) = y by omega, show ((1 + (m - 1).toNat : Nat) : Int) = m by omega, show ((1 + (d - 1).toNat : Nat) : Int) = d by omega, ← e] at this
    exact this
  · rw [hk2] at he ⊢
    exact code_okB x hx he
  · rw [hk2] at he ⊢
    obtain ⟨ht, hn, hu⟩ := hs.r
    generalize hr : s.r = r at *
    obtain ⟨t, n, u⟩ := r
    exact addr_okB t (by simpa using ht) n (by simpa using hn) u (by simpa using hu) x hx he
  · have e : s.kind i = 1 := by omega
    rw [e] at he ⊢
    exact name_okB he
theorem raw_len {k : Int} {x : Str} (h : RawP k x) : x.length ≤ 10000 := by
  have hN : ∀ n ∈ namesL, n.length ≤ 1000 := by decide
  have hC : ∀ n ∈ codesL, n.length ≤ 1000 := by decide
  have hA : ∀ n ∈ addrsL, n.length ≤ 1000 := by decide
  rcases h with rfl | ⟨_, y, m, d, w, _, _, _, rfl⟩ | ⟨_, hx⟩ | ⟨_, hx⟩ | ⟨_, _, _, n, hn, hl, _⟩
  · exact Nat.zero_le _
  · unfold writtenS
    split
    · simp [putS_len]
    · split <;> simp [putS_len]
  · have := hC _ hx; omega
  · have := hA _ hx; omega
  · have := hN _ hn; omega
/-- Raw values for the fields of a schema. -/
def RawsP (s : Sc) (l : List Str) : Prop := ∀ i, i < l.length → RawP (s.kind i) (l.getD i [])
theorem RawsP.snoc {s : Sc} {l : List Str} (h : RawsP s l) {x : Str} (hx : RawP (s.kind l.length) x) : RawsP s (l ++ [x]) := fun i hi => by
  rw [List.length_append, List.length_cons, List.length_nil] at hi
  by_cases e : i < l.length
  · rw [List.getD_eq_getElem?_getD, List.getElem?_append_left e, ← List.getD_eq_getElem?_getD]
    exact h i e
  · obtain rfl : i = l.length := by omega
    rw [List.getD_eq_getElem?_getD, List.getElem?_append_right (Nat.le_refl _), Nat.sub_self]
    exact hx
theorem RawsP.len {s : Sc} {l : List Str} (h : RawsP s l) : ∀ x ∈ l, x.length ≤ 10000 := fun x hx => by
  obtain ⟨i, hi, rfl⟩ := List.getElem_of_mem hx
  have := raw_len (h i hi)
  rw [List.getD_eq_getElem?_getD, List.getElem?_eq_getElem hi] at this
  exact this
theorem made_ok {s : Sc} (hs : ScD s) {raws : List Str} (hr : RawsP s raws) (hn : raws.length = s.f.length) {a b : Int} (h : 1 ≤ a ∧ a ≤ 90 ∧ 1 ≤ b ∧ b ≤ 90) (he : ∀ i, i < s.f.length → nE s i (raws.getD i []) = 0) : (Rc.mk a b (mkL s raws s.f.length)).ok s :=
  ⟨h.1, h.2.1, h.2.2.1, h.2.2.2, mkL_len _ _ _, fun i hi => by
    dsimp only
    rw [mkL_at _ _ _ _ hi]
    exact raw_ok hs i _ (hr i (by omega)) (hs.ok.kd hi) (he i hi)⟩
theorem nil_rep (n : Nat) : ((n : Nat) : Int).toNat = (List.replicate n ([] : Str)).length ∧ ∀ i, i < (List.replicate n ([] : Str)).length → [D.str []] = [D.str ((List.replicate n ([] : Str)).getD i [])] :=
  ⟨by rw [List.length_replicate]; omega, fun i hi => by
    rw [List.length_replicate] at hi
    rw [List.getD_eq_getElem?_getD, List.getElem?_replicate, if_pos hi]; rfl⟩
theorem none_ok {s : Sc} {a : Int} (h : 1 ≤ a ∧ a ≤ 90) : (Rc.mk a 1 (List.replicate s.f.length [])).ok s :=
  ⟨h.1, h.2, by show (1 : Int) ≤ 1; omega, by show (1 : Int) ≤ 90; omega, List.length_replicate, fun i hi => by
    dsimp only
    rw [List.getD_eq_getElem?_getD, List.getElem?_replicate, if_pos hi]
    exact okB_v (by simp [okB])⟩
/-- The orders of the deck's Record; Make is given what it freezes. -/
def ordRec : Ords := [(6, .ph [1, 2, 5] (.way 0 (.alt 3 (.ph [4] (.alt 6 (.ph [7, 8, 9] (.st 10 (.st 11 (.ph [12] (.fin))))) 10 (.st 6 (.ph [7, 8, 9] (.st 11 (.ph [12] (.fin))))))) 10 (.st 3 (.ph [4] (.st 6 (.ph [7, 8, 9] (.st 11 (.ph [12] (.fin)))))))) (.way 3 (.ph [4, 0] (.alt 6 (.ph [7, 8, 9] (.st 10 (.st 11 (.ph [12] (.fin))))) 10 (.st 6 (.ph [7, 8, 9] (.st 11 (.ph [12] (.fin))))))) (.way 10 (.alt 0 (.st 3 (.ph [4] (.st 6 (.ph [7, 8, 9] (.st 11 (.ph [12] (.fin))))))) 3 (.ph [4] (.ph [0] (.st 6 (.ph [7, 8, 9] (.st 11 (.ph [12] (.fin)))))))) (.non)))))]
theorem record_ct (d : Dk) (s : Sc) (hs : ScD s) (id : Int) (hid : 1 ≤ id ∧ id ≤ 90) : Ct Tryz.prog 27 [d.b, s.d, i64 id] fun r outs => ∃ (x : Rc) (d' : Dk), (x.ok s ∧ x.id = id) ∧ r = x.d ∧ outs = [Dk.b d'] := by
  have n1 := hs.n1; have n4 := hs.n4
  refine .some2 (.of_W (fn := Tryz.f27) hΓ hm Tryz.func27 ordRec [] (by kernel_rfl) (Step.out ?_))
  repeat' first
    | (refine Step.mk ?_; conv => whnf)
  refine CodeOK.loopW hΓ hm ordRec [] (by kernel_rfl) (α := List Str × Dk) (fun z => [(0, .loc 0 0), (2, i64 id), (4, .loc 1 0), (6, .loc 2 0), (7, .own 3), (8, i64 z.1.length)]) (fun z => [(0, .var z.2.ls), (1, .var s.l), (2, .var Rc.z.l), (3, .arr 9 1 z.1.length fun i => [.str (z.1.getD i [])])]) 4 (fun z => RawsP s z.1 ∧ z.1.length ≤ s.f.length) (fun z => s.f.length - z.1.length) ?_ ?_
  · refine Again.by ([], d) ⟨nofun, by simp⟩ ?_
    repeat' first
      | (refine Step.mk ?_; conv => whnf)
      | (refine Vc.om ?_ ?_; first | omega | with_reducible rfl | with_reducible exact same_rfl)
      | with_reducible trivial
      | (rfl)
      | (refine Vc.mk ?_ (Step.out ?_))
  · intro ⟨l, d⟩ ⟨hl, hi⟩
    dsimp only at hi hl ⊢
    by_cases hlt : l.length < s.f.length
    · repeat' first
        | (refine Step.mk ?_; conv => whnf)
        | (refine Vc.om ?_ ?_; first | omega | with_reducible rfl | with_reducible exact same_rfl)
        | (refine Vc.om ?_ ?_; (simp only [bytes_2, bytes_3, bytes_4, bytes_5, bytes_9, bytes_12, bytes_21, bytes_22, bytes_25, bytes_27, bytes_28, bytes_29, bytes_30, bytes_31, bytes_32, bytes_33, bytes_35, bytes_37, bytes_38, bytes_39, bytes_41, bytes_43, bytes_49, bytes_53, bytes_54, bytes_55, bytes_60, bytes_61, bytes_62, bytes_63, bytes_64, bytes_65, bytes_74, bytes_75, bytes_82, bytes_83, bytes_84, bytes_85, bytes_95, bytes_103, bytes_104, bytes_105, bytes_125, bytes_126, bytes_127, bytes_131, bytes_150, bytes_151, bytes_152, bytes_153, bytes_154, bytes_159, bytes_167, bytes_168, bytes_181, bytes_182, bytes_190, bytes_197, bytes_210, bytes_214, bytes_215, bytes_218, bytes_251, bytes_252, bytes_254, bytes_259, bytes_260, bytes_261, bytes_269, bytes_272, bytes_279, bytes_286, bytes_287, bytes_288, bytes_289, bytes_290, bytes_294, bytes_296, bytes_302, bytes_305, bytes_307, true_and, and_true] <;> omega))
        | (refine Wr.i64 ?_ ?_; omega)
        | (refine Br.dT ?_ ?_; omega)
        | (refine CallOK.io1 (g := 62) (Step.out ?_))
        | (refine Met.by (g := 62) (rawv_ct _ _) ?_; rintro q outs ⟨x, d, hx, rfl, rfl⟩)
      refine Again.by (l ++ [x], d) ⟨⟨hl.snoc ?_, by simp; omega⟩, by simp; omega⟩ ?_
      · rw [Int.toNat_natCast] at hx; exact hx
      repeat' first
        | (refine Step.mk ?_; conv => whnf)
        | (refine Vc.om ?_ ?_; first | omega | with_reducible rfl | with_reducible exact same_rfl)
        | with_reducible trivial
        | (simp; done)
        | (exact str_app _ _ rfl)
        | (refine Vc.mk ?_ (Step.out ?_))
    · have hn : l.length = s.f.length := by omega
      have hmk := fun b hb => rmake_ct' s hs.ok id b ⟨hid.1, hid.2, hb⟩ l hn hl.len
      repeat' first
        | (refine CallOK.ctF (g := 63) (Step.out ?_))
        | (refine Step.mk ?_; conv => whnf)
        | (refine Vc.om ?_ ?_; (simp only [bytes_2, bytes_3, bytes_4, bytes_5, bytes_9, bytes_12, bytes_21, bytes_22, bytes_25, bytes_27, bytes_28, bytes_29, bytes_30, bytes_31, bytes_32, bytes_33, bytes_35, bytes_37, bytes_38, bytes_39, bytes_41, bytes_43, bytes_49, bytes_53, bytes_54, bytes_55, bytes_60, bytes_61, bytes_62, bytes_63, bytes_64, bytes_65, bytes_74, bytes_75, bytes_82, bytes_83, bytes_84, bytes_85, bytes_95, bytes_103, bytes_104, bytes_105, bytes_125, bytes_126, bytes_127, bytes_131, bytes_150, bytes_151, bytes_152, bytes_153, bytes_154, bytes_159, bytes_167, bytes_168, bytes_181, bytes_182, bytes_190, bytes_197, bytes_210, bytes_214, bytes_215, bytes_218, bytes_251, bytes_252, bytes_254, bytes_259, bytes_260, bytes_261, bytes_269, bytes_272, bytes_279, bytes_286, bytes_287, bytes_288, bytes_289, bytes_290, bytes_294, bytes_296, bytes_302, bytes_305, bytes_307, true_and, and_true] <;> omega))
        | with_reducible trivial
        | (refine Wr.i64 ?_ ?_; omega)
        | (refine Br.dF ?_ ?_; omega)
        | (refine Met.by (hmk _ (by omega)) ?_; rintro q outs ⟨m, e, he, rfl, rfl⟩)
        | (refine Br.d (fun h => ?_) (fun h => ?_))
        | (refine Br.bnot ?_)
        | (refine Two.mk (Step.out ?_) (Step.out ?_))
        | (refine CallOK.io1 (g := 24) (Step.out ?_))
        | (refine Met.by (g := 24) (next_ct _ _) ?_; rintro q outs ⟨x, d, hx, rfl, rfl⟩)
      all_goals first
        | (have h9 := he h; obtain ⟨rfl, hE⟩ := h9; refine Lf2.by ⟨id, 1 + x, mkL s l s.f.length⟩ d ⟨made_ok hs hl hn ⟨hid.1, hid.2, by omega⟩ hE, rfl⟩ ?_)
        | refine Lf2.by ⟨id, 1, List.replicate s.f.length []⟩ d ⟨none_ok hid, rfl⟩ ?_
      all_goals
        repeat' first
          | (refine Step.mk ?_; conv => whnf)
          | with_reducible trivial
          | with_reducible exact same_rfl
          | (exact nil_rep _)
          | (refine Two.mk (Step.out ?_) (Step.out ?_))
/-- Records so far; the last ID. -/
structure RDl (s : Sc) (l : List Rc) (id : Int) : Prop where
  ok : ∀ r ∈ l, r.ok s
  asc : ∀ i, i + 1 < l.length → (l.getD i Rc.z).id < (l.getD (i + 1) Rc.z).id
  last : ∀ i, i < l.length → (l.getD i Rc.z).id ≤ id
  b0 : 0 ≤ id
  b1 : id ≤ 3 * l.length
theorem RDl.snoc {s : Sc} {l : List Rc} {id : Int} (h : RDl s l id) (x : Rc) (j : Int) (hx : x.ok s ∧ x.id = j) (h1 : id + 1 ≤ j) (h3 : j ≤ id + 3) : RDl s (l ++ [x]) j := by
  have hg : ∀ i, i < l.length → (l ++ [x]).getD i Rc.z = l.getD i Rc.z := fun i e => by
    rw [List.getD_eq_getElem?_getD, List.getElem?_append_left e, ← List.getD_eq_getElem?_getD]
  have hl : (l ++ [x]).getD l.length Rc.z = x := by
    rw [List.getD_eq_getElem?_getD, List.getElem?_append_right (Nat.le_refl _), Nat.sub_self]; rfl
  have b0 := h.b0; have b1 := h.b1
  refine ⟨fun r hr => ?_, fun i hi => ?_, fun i hi => ?_, by omega, by simp; omega⟩
  · rcases List.mem_append.1 hr with hr | hr
    · exact h.ok r hr
    · simp at hr; subst hr; exact hx.1
  · rw [List.length_append, List.length_cons, List.length_nil] at hi
    by_cases e : i + 1 < l.length
    · rw [hg i (by omega), hg (i + 1) e]; exact h.asc i e
    · have e : i + 1 = l.length := by omega
      rw [e, hl, hg i (by omega), hx.2]
      have := h.last i (by omega)
      omega
  · rw [List.length_append, List.length_cons, List.length_nil] at hi
    by_cases e : i < l.length
    · rw [hg i e]; have := h.last i e; omega
    · obtain rfl : i = l.length := by omega
      rw [hl, hx.2]; omega
theorem rcL_ite (c : Prop) [Decidable c] (a b : Rc) : iteL c a.l b.l = (if c then a else b).l := by
  show [D.int .i64 (if c then a.id else b.id), D.int .i64 (if c then a.ver else b.ver), D.tab 1 (if c then a.v.length else b.v.length) fun i => [D.str (if c then a.v.getD i [] else b.v.getD i [])]] = _
  split <;> rfl
theorem rc_app (l : List Rc) (x : Rc) : l.length + 1 = (l ++ [x]).length ∧ ∀ i, i < (l ++ [x]).length → iteL (i < l.length) ((l.getD i Rc.z).l) (selC [x.l] (i - l.length)) = ((l ++ [x]).getD i Rc.z).l :=
  ⟨by simp, fun i hi => by
    rw [List.length_append, List.length_cons, List.length_nil] at hi
    show iteL (i < l.length) ((l.getD i Rc.z).l) x.l = _
    rw [rcL_ite]
    split
    · rename_i h; rw [List.getD_eq_getElem?_getD (l := l ++ _), List.getElem?_append_left h, ← List.getD_eq_getElem?_getD]
    · obtain rfl : i = l.length := by omega
      rw [List.getD_eq_getElem?_getD (l := l ++ _), List.getElem?_append_right (Nat.le_refl _), Nat.sub_self]; rfl⟩
theorem records_ct (d : Dk) (s : Sc) (hs : ScD s) (most : Int) (hmo : 0 ≤ most ∧ most ≤ 30) : Ct Tryz.prog 10 [d.b, s.d, i64 most] fun r outs => ∃ (l : List Rc) (d' : Dk), (RsOk s l ∧ l.length ≤ most) ∧ r = rcs l ∧ outs = [Dk.b d'] := by
  refine .some2 (.of_W (fn := Tryz.f10) hΓ hm Tryz.func10 [] [] (by kernel_rfl) (Step.out ?_))
  repeat' first
    | (refine Step.mk ?_; conv => whnf)
    | (refine Wr.i64 ?_ ?_; omega)
    | (refine CallOK.io1 (g := 24) (Step.out ?_))
    | (refine Met.by (g := 24) (next_ct _ _) ?_; rintro q outs ⟨x, d, hx, rfl, rfl⟩)
  have hK := hx.2.2 (by omega)
  have hK0 := hx.1
  refine CodeOK.loopW hΓ hm [] [] (by kernel_rfl) (α := List Rc × Int × Dk) (fun z => [(0, .loc 0 0), (4, .loc 1 0), (7, .own 2), (8, i64 z.2.1), (9, i64 (x - z.1.length))]) (fun z => [(0, .var z.2.2.ls), (1, .var s.l), (2, .arr 65 3 z.1.length fun i => (z.1.getD i Rc.z).l)]) 3 (fun z => RDl s z.1 z.2.1 ∧ (z.1.length : Int) ≤ x) (fun z => (x - z.1.length).toNat) ?_ ?_
  · refine Again.by ([], 0, d) ⟨⟨nofun, nofun, nofun, Int.le_refl _, Int.le_refl _⟩, by simp; omega⟩ ?_
    repeat' first
      | (refine Step.mk ?_; conv => whnf)
      | (refine Vc.om ?_ ?_; first | omega | with_reducible rfl | with_reducible exact same_rfl)
      | with_reducible trivial
      | (rfl)
      | (simp; done)
      | (refine Vc.mk ?_ (Step.out ?_))
  · intro ⟨l, id, d⟩ ⟨hl, hi⟩
    dsimp only at hi hl ⊢
    have b0 := hl.b0; have b1 := hl.b1
    repeat' first
      | (refine Step.mk ?_; conv => whnf)
      | (refine Vc.om ?_ ?_; (simp only [bytes_2, bytes_3, bytes_4, bytes_5, bytes_9, bytes_12, bytes_21, bytes_22, bytes_25, bytes_27, bytes_28, bytes_29, bytes_30, bytes_31, bytes_32, bytes_33, bytes_35, bytes_37, bytes_38, bytes_39, bytes_41, bytes_43, bytes_49, bytes_53, bytes_54, bytes_55, bytes_60, bytes_61, bytes_62, bytes_63, bytes_64, bytes_65, bytes_74, bytes_75, bytes_82, bytes_83, bytes_84, bytes_85, bytes_95, bytes_103, bytes_104, bytes_105, bytes_125, bytes_126, bytes_127, bytes_131, bytes_150, bytes_151, bytes_152, bytes_153, bytes_154, bytes_159, bytes_167, bytes_168, bytes_181, bytes_182, bytes_190, bytes_197, bytes_210, bytes_214, bytes_215, bytes_218, bytes_251, bytes_252, bytes_254, bytes_259, bytes_260, bytes_261, bytes_269, bytes_272, bytes_279, bytes_286, bytes_287, bytes_288, bytes_289, bytes_290, bytes_294, bytes_296, bytes_302, bytes_305, bytes_307, true_and, and_true] <;> omega))
      | (refine Wr.i64 ?_ ?_; omega)
      | (refine Br.d (fun h => ?_) (fun h => ?_))
      | (refine CallOK.io1 (g := 24) (Step.out ?_))
      | (refine CallOK.io1 (g := 27) (Step.out ?_))
      | (refine Met.by (g := 24) (next_ct _ _) ?_; rintro q outs ⟨x, d, hx, rfl, rfl⟩)
      | (refine Met.by (g := 27) (record_ct _ _ (by assumption) _ (by omega)) ?_; rintro q outs ⟨x, d, hx, rfl, rfl⟩)
    · rename_i y _ hy
      have hy3 := hy.2.2 (by decide)
      have hy0 := hy.1
      refine Again.by (l ++ [x], _, d) ⟨⟨hl.snoc x _ hx (by dsimp only; omega) (by dsimp only; omega), by simp; omega⟩, by simp; omega⟩ ?_
      repeat' first
        | (refine Step.mk ?_; conv => whnf)
        | (refine Vc.om ?_ ?_; first | omega | with_reducible rfl | with_reducible exact same_rfl)
        | with_reducible trivial
        | (exact rc_app l x)
        | (simp; omega)
        | (refine Vc.mk ?_ (Step.out ?_))
    · refine Lf2.by l d ⟨⟨by omega, hl.ok, hl.asc⟩, by omega⟩ ?_
      repeat' first
        | (refine Step.mk ?_; conv => whnf)
        | with_reducible trivial
        | with_reducible exact same_rfl
        | (refine Two.mk (Step.out ?_) (Step.out ?_))
end Kx
