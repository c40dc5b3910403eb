/-
  change: valid rows stay so; Apply, All, Join.
  No condition beyond those written in each theorem.
-/
import Derived.Test.YtgcandklomkhlaaKRi
open Go Sx Go.Proofs
set_option linter.unusedSimpArgs false
set_option linter.unusedVariables false
namespace Kx
structure Rw.fine (r : Rw) : Prop where
  i : idB r.id = true
  v : verB r.ver = true
  s : verB r.sv = true
  t : r.stateB = true
theorem vGo_zero : ∀ (m : Int) (l : List Rw), vGo m l = 0 ↔ (∀ r ∈ l, r.fine) ∧ AscR l ∧ ∀ r ∈ l, m < r.id
  | m, [] => by simp [vGo, AscR]
  | m, r :: l => by
    rw [vGo]
    by_cases h1 : (idB r.id && verB r.ver && verB r.sv) = false
    · rw [if_pos h1]
      refine ⟨fun h => absurd h (by decide), fun h => ?_⟩
      have := h.1 r (by simp)
      rw [this.i, this.v, this.s] at h1; cases h1
    · rw [if_neg h1]
      have h1 : (idB r.id && verB r.ver && verB r.sv) = true := by rw [Bool.not_eq_false] at h1; exact h1
      simp only [Bool.and_eq_true] at h1
      by_cases h2 : r.stateB = false
      · rw [if_pos h2]
        refine ⟨fun h => absurd h (by decide), fun h => ?_⟩
        have := (h.1 r (by simp)).t
        rw [this] at h2; cases h2
      · rw [if_neg h2]
        have h2 : r.stateB = true := by simpa using h2
        by_cases h3 : r.id ≤ m
        · rw [if_pos h3]
          refine ⟨fun h => absurd h (by decide), fun h => ?_⟩
          have := h.2.2 r (by simp); omega
        · rw [if_neg h3, vGo_zero r.id l]
          simp only [AscR, List.pairwise_cons, List.mem_cons]
          constructor
          · rintro ⟨a, b, c⟩
            refine ⟨?_, ⟨c, b⟩, ?_⟩
            · rintro x (rfl | hx)
              · exact ⟨h1.1.1, h1.1.2, h1.2, h2⟩
              · exact a x hx
            · rintro x (rfl | hx)
              · omega
              · have := c x hx; omega
          · rintro ⟨a, ⟨b, c⟩, d⟩
            exact ⟨fun x hx => a x (.inr hx), c, b⟩
theorem valid_zero {l : List Rw} : valid l = 0 ↔ l.length ≤ 64 ∧ (∀ r ∈ l, r.fine) ∧ AscR l := by
  unfold valid
  split
  · exact ⟨fun h => absurd h (by decide), fun h => by omega⟩
  · rw [vGo_zero]
    refine ⟨fun h => ⟨by omega, h.1, h.2.1⟩, fun h => ⟨h.2.1, h.2.2, fun r hr => ?_⟩⟩
    have := (h.2.1 r hr).i
    simp only [idB, Bool.and_eq_true, decide_eq_true_eq] at this
    omega
theorem valsB_len {l : List Str} (h : valsB l = true) : l.length ≤ 5 := by
  simp only [valsB, Bool.and_eq_true, decide_eq_true_eq] at h; exact h.1.2
theorem Rw.fine.len {r : Rw} (h : r.fine) : r.vals.length ≤ 5 := by
  have ht := h.t
  have hv := h.v
  simp only [verB, Bool.and_eq_true, decide_eq_true_eq] at hv
  unfold Rw.stateB at ht
  split at ht
  · cases ht
  · rename_i hn
    by_cases h0 : r.ver = 0
    · have := fun x : r.sv = 0 ∨ 0 < r.vals.length => hn (.inl ⟨h0, x⟩)
      have : ¬0 < r.vals.length := fun x => this (.inr x)
      omega
    · have : ¬(0 < r.ver ∧ valsB r.vals = false) := fun x => hn (.inr x)
      have : valsB r.vals ≠ false := fun x => this ⟨by omega, x⟩
      exact valsB_len (by simpa using this)
theorem fine_ok {l : List Rw} (h : ∀ r ∈ l, r.fine) (hl : l.length ≤ 65) : RwsOK l := ⟨by omega, fun r hr => by have := (h r hr).len; omega⟩
theorem valid_ok {l : List Rw} (h : valid l = 0) : RwsOK l := by
  obtain ⟨h1, h2, h3⟩ := valid_zero.1 h
  exact fine_ok h2 (by omega)
/-- What a row of a given number may hold. -/
structure CnOK (id : Int) (c : Cn) : Prop where
  v : verB c.1.1 = true
  s : verB c.2.1 = true
  v0 : c.1.1 = 0 → c.2.1 ≠ 0 ∧ c.1.2.length = 0
  v1 : c.1.1 ≠ 0 → valsB c.1.2 = true
  s0 : c.2.1 = 0 → c.2.2.1 = 0 ∧ c.2.2.2 = 0
  s1 : c.2.1 ≠ 0 → statB id c.2.2.1 c.2.2.2 = true
theorem fine_iff (r : Rw) : r.fine ↔ idB r.id = true ∧ CnOK r.id r.c := by
  constructor
  · rintro ⟨i, v, s, t⟩
    refine ⟨i, ?_⟩
    have hv := v
    simp only [verB, Bool.and_eq_true, decide_eq_true_eq] at hv
    unfold Rw.stateB at t
    split at t
    · cases t
    rename_i hn
    refine ⟨v, s, fun h => ⟨fun h' => hn (.inl ⟨h, .inl h'⟩), ?_⟩, fun h => ?_, fun h => ?_, fun h => ?_⟩
    · have : ¬0 < r.vals.length := fun x => hn (.inl ⟨h, .inr x⟩)
      show r.vals.length = 0
      omega
    · show valsB r.vals = true
      cases hb : valsB r.vals with
      | true => rfl
      | false => exact absurd (.inr ⟨by have : r.ver ≠ 0 := h; omega, hb⟩) hn
    · rw [if_pos (show r.sv = 0 from h)] at t
      exact (by simpa using t : r.st = 0 ∧ r.into = 0)
    · rw [if_neg (show r.sv ≠ 0 from h)] at t
      exact t
  · rintro ⟨i, v, s, v0, v1, s0, s1⟩
    refine ⟨i, v, s, ?_⟩
    have hv := v
    simp only [verB, Bool.and_eq_true, decide_eq_true_eq] at hv
    unfold Rw.stateB
    rw [if_neg]
    · split
      · rename_i h
        have := s0 h
        have e1 : r.st = 0 := this.1
        have e2 : r.into = 0 := this.2
        rw [e1, e2]; rfl
      · rename_i h; exact s1 h
    · rintro (⟨h, h'⟩ | ⟨h, h'⟩)
      · have a := (v0 h).1
        have b : r.vals.length = 0 := (v0 h).2
        rcases h' with h' | h'
        · exact a h'
        · omega
      · have := v1 (show r.ver ≠ 0 by omega)
        have e : valsB r.vals = true := this
        rw [e] at h'; cases h'
theorem mx_or {α : Type} (f : α → α → Int) (a b : α) : mx f a b = a ∨ mx f a b = b := by unfold mx; split <;> simp
theorem cmpC_ver {a b : Int × List Str} (h : cmpC a b < 0 ∨ cmpC a b = 0) : a.1 ≤ b.1 := by
  unfold cmpC cmp2 cmpI at h
  by_cases h1 : a.1 < b.1
  · omega
  · by_cases h2 : a.1 > b.1
    · simp [h1, h2] at h
    · omega
theorem mx_ver (a b : Int × List Str) : a.1 ≤ (mx cmpC a b).1 ∧ b.1 ≤ (mx cmpC a b).1 := by
  unfold mx
  split
  · rename_i h; exact ⟨cmpC_ver (.inl h), Int.le_refl _⟩
  · rename_i h
    refine ⟨Int.le_refl _, cmpC_ver ?_⟩
    have := cmpC_ok.sym a b; omega
theorem cmpT_ver {a b : Int × (Int × Int)} (h : cmpT a b < 0 ∨ cmpT a b = 0) : a.1 ≤ b.1 := by
  unfold cmpT cmp2 cmpI at h
  by_cases h1 : a.1 < b.1
  · omega
  · by_cases h2 : a.1 > b.1
    · simp [h1, h2] at h
    · omega
theorem mx_sv (a b : Int × (Int × Int)) : a.1 ≤ (mx cmpT a b).1 ∧ b.1 ≤ (mx cmpT a b).1 := by
  unfold mx
  split
  · rename_i h; exact ⟨cmpT_ver (.inl h), Int.le_refl _⟩
  · rename_i h
    refine ⟨Int.le_refl _, cmpT_ver ?_⟩
    have := cmpT_ok.sym a b; omega
theorem CnOK.cmb {id : Int} {a b : Cn} (ha : CnOK id a) (hb : CnOK id b) : CnOK id (cmb a b) := by
  have m1 := mx_or cmpC a.1 b.1
  have m2 := mx_or cmpT a.2 b.2
  have l1 := mx_ver a.1 b.1
  have l2 := mx_sv a.2 b.2
  have n1 := ha.v; have n2 := hb.v; have n3 := ha.s; have n4 := hb.s
  simp only [verB, Bool.and_eq_true, decide_eq_true_eq] at n1 n2 n3 n4
  refine ⟨?_, ?_, fun h => ?_, fun h => ?_, fun h => ?_, fun h => ?_⟩ <;> simp only [Kx.cmb] at *
  · rcases m1 with e | e <;> rw [e]
    · exact ha.v
    · exact hb.v
  · rcases m2 with e | e <;> rw [e]
    · exact ha.s
    · exact hb.s
  · have ea : a.1.1 = 0 := by omega
    have eb : b.1.1 = 0 := by omega
    refine ⟨?_, ?_⟩
    · have := (ha.v0 ea).1; omega
    · rcases m1 with e | e <;> rw [e]
      · exact (ha.v0 ea).2
      · exact (hb.v0 eb).2
  · rcases m1 with e | e <;> rw [e] at h ⊢
    · exact ha.v1 h
    · exact hb.v1 h
  · rcases m2 with e | e <;> rw [e] at h ⊢
    · exact ha.s0 h
    · exact hb.s0 h
  · rcases m2 with e | e <;> rw [e] at h ⊢
    · exact ha.s1 h
    · exact hb.s1 h
theorem fine_both {a b : Rw} (ha : a.fine) (hb : b.fine) (h : a.id = b.id) : (both a b).fine := by
  rw [fine_iff] at *
  rw [both_eq]
  refine ⟨ha.1, ?_⟩
  have := hb.2
  rw [← h] at this
  exact ha.2.cmb this
theorem fine_ins {l : List Rw} {r : Rw} (h : ∀ x ∈ l, x.fine) (hr : r.fine) : ∀ x ∈ ins l r, x.fine := by
  intro x hx
  rcases ins_mem l r x hx with rfl | hx | ⟨y, hy, e, rfl⟩
  · exact hr
  · exact h x hx
  · exact fine_both (h y hy) hr e
theorem fine_puts : ∀ (l : List Rw) {s : List Rw}, (∀ x ∈ s, x.fine) → (∀ x ∈ l, x.fine) → ∀ x ∈ puts s l, x.fine
  | [], _, h, _ => h
  | r :: l, _, h, hl => fine_puts l (fine_ins h (hl r (by simp))) fun x hx => hl x (by simp [hx])
theorem fine_row {e : Ev} (h : e.chk = 0) : e.row.fine := by
  unfold Ev.chk at h
  split at h
  · rename_i h1
    split at h
    · rename_i h2
      simp only [Bool.and_eq_true, decide_eq_true_eq] at h1
      rw [fine_iff]
      simp only [Ev.good, Bool.or_eq_true, Bool.and_eq_true, decide_eq_true_eq] at h2
      unfold Ev.row
      have hv : verB e.ver = true := by simp only [verB, Bool.and_eq_true, decide_eq_true_eq]; omega
      rcases h2 with ⟨⟨⟨k, v⟩, s⟩, i⟩ | ⟨⟨k, v⟩, s⟩
      · rw [if_pos k]
        refine ⟨h1.1.1, hv, rfl, fun h => ?_, fun _ => v, fun _ => ⟨rfl, rfl⟩, fun h => absurd rfl h⟩
        have : e.ver = 0 := h
        omega
      · rw [if_neg (by omega)]
        refine ⟨h1.1.1, rfl, hv, fun _ => ⟨?_, rfl⟩, fun h => absurd rfl h, fun h => ?_, fun _ => s⟩
        · show e.ver ≠ 0
          omega
        · have : e.ver = 0 := h
          omega
    · cases h
  · cases h
/-! ### What the functions make -/
def apply (rows : List Rw) (e : Ev) : List Rw × Int := if valid rows ≠ 0 then ([], valid rows) else if e.chk ≠ 0 then ([], e.chk) else if 64 < (ins rows e.row).length then ([], 1) else (ins rows e.row, 0)
def allGo : List Rw → Int → List Ev → List Rw × Int
  | out, left, [] => (out, left)
  | out, left, e :: l => if (apply out e).2 ≠ 0 then allGo out (left + 1) l else allGo (apply out e).1 left l
def all (rows : List Rw) (l : List Ev) : List Rw × Int := if valid rows ≠ 0 then ([], l.length) else allGo rows 0 l
def join (a b : List Rw) : List Rw × Int := if valid a ≠ 0 then ([], valid a) else if valid b ≠ 0 then ([], valid b) else if 64 < (puts a b).length then ([], 1) else (puts a b, 0)
theorem chk_ok {e : Ev} (h : e.chk = 0) : e.row.vals.length ≤ 5 := (fine_row h).len
theorem apply_ct (l : List Rw) (e : Ev) (hl : RwsOK l) (he : e.vals.length ≤ 100000) : Ct Try.prog 19 [rws l, e.d] fun q outs => q = .tup [rwsO 60 (apply l e).1, i64 (apply l e).2] ∧ outs = [] := by
  unfold apply
  split
  · refine .det (.of_W (fn := Try.f19) hΓ hm Try.func19 ord19 [] (by kernel_rfl) (Step.out ?_))
    repeat' first
      | (refine Step.mk ?_; conv => whnf)
      | (refine Vc.om ?_ ?_; first | omega | with_reducible rfl | with_reducible exact same_rfl | (simp only [bytes_2, bytes_3, bytes_4, bytes_5, bytes_9, bytes_12, bytes_21, bytes_22, bytes_25, bytes_27, bytes_29, bytes_32, bytes_33, bytes_34, bytes_38, bytes_40, bytes_44, bytes_45, bytes_52, bytes_53, bytes_54, bytes_58, bytes_59, bytes_60, bytes_93, bytes_97, bytes_100, true_and, and_true] <;> omega))
      | (refine NilB.mk fun b hb => Step.out ?_)
      | with_reducible trivial
      | exact noSh_bool _
      | exact noSh_lit _
      | exact noSh_int _ _
      | exact noSh_str _
      | with_reducible rfl
      | with_reducible exact same_rfl
      | (refine Wr.i64 ?_ ?_; omega)
      | (refine Wr.u8 ?_ ?_; omega)
      | (refine Wr.i32 ?_ ?_; omega)
      | (with_reducible refine Br.tt ?_)
      | (with_reducible refine Br.ff ?_)
      | (refine Br.dT ?_ ?_; omega)
      | (refine Br.dF ?_ ?_; omega)
      | (refine Br.d (fun h => ?_) (fun h => ?_))
      | (refine Br.swap ?_)
      | (refine Br.bnot ?_)
      | (refine Br.mk (fun h => Step.out ?_) (fun h => Step.out ?_))
      | (refine Two.mk (Step.out ?_) (Step.out ?_))
      | (refine Cp.mk fun q hq => Step.out ?_)
      | (refine Ovl.mk (by assumption) (Step.out ?_))
      | (refine CallOK.ctF (g := 16) (Step.out ?_))
      | (refine CallOK.ctF (g := 24) (Step.out ?_))
      | (refine CallOK.gv (g := 33) (Step.out ?_))
      | (refine CallOK.of_ct (Step.out ?_))
      | (refine CallQ.of_ct (Step.out ?_))
      | (refine Met.by (g := 16) (valid_ct _ (by assumption)) ?_; rintro q outs ⟨rfl, rfl⟩)
      | (refine Met.by (g := 18) (check_ct _ (by omega)) ?_; rintro q outs ⟨rfl, rfl⟩)
      | (refine Met.by (g := 24) (rows_ct _ (by assumption)) ?_; rintro q outs ⟨rfl, rfl⟩)
      | (refine Met.by (g := 33) (add_ct _ _ (by assumption) (by assumption) (by omega)) ?_; rintro q outs ⟨rfl, rfl⟩)
      | (refine Met.by (g := 34) (row_ct _) ?_; rintro q outs ⟨rfl, rfl⟩)
      | (refine Vc.mk ?_ (Step.out ?_))
    all_goals first
      | trivial
      | exact hb h
      | with_reducible rfl
      | with_reducible exact same_rfl
      | omega
      | (exact ⟨rfl, fun i hi => absurd hi (by simp)⟩)
  · rename_i hv
    have hv := Classical.not_not.1 hv
    obtain ⟨v1, v2, v3⟩ := valid_zero.1 hv
    split
    · refine .det (.of_W (fn := Try.f19) hΓ hm Try.func19 ord19 [] (by kernel_rfl) (Step.out ?_))
      repeat' first
        | (refine Step.mk ?_; conv => whnf)
        | (refine Vc.om ?_ ?_; first | omega | with_reducible rfl | with_reducible exact same_rfl | (simp only [bytes_2, bytes_3, bytes_4, bytes_5, bytes_9, bytes_12, bytes_21, bytes_22, bytes_25, bytes_27, bytes_29, bytes_32, bytes_33, bytes_34, bytes_38, bytes_40, bytes_44, bytes_45, bytes_52, bytes_53, bytes_54, bytes_58, bytes_59, bytes_60, bytes_93, bytes_97, bytes_100, true_and, and_true] <;> omega))
        | (refine NilB.mk fun b hb => Step.out ?_)
        | with_reducible trivial
        | exact noSh_bool _
        | exact noSh_lit _
        | exact noSh_int _ _
        | exact noSh_str _
        | with_reducible rfl
        | with_reducible exact same_rfl
        | (refine Wr.i64 ?_ ?_; omega)
        | (refine Wr.u8 ?_ ?_; omega)
        | (refine Wr.i32 ?_ ?_; omega)
        | (with_reducible refine Br.tt ?_)
        | (with_reducible refine Br.ff ?_)
        | (refine Br.dT ?_ ?_; omega)
        | (refine Br.dF ?_ ?_; omega)
        | (refine Br.d (fun h => ?_) (fun h => ?_))
        | (refine Br.swap ?_)
        | (refine Br.bnot ?_)
        | (refine Br.mk (fun h => Step.out ?_) (fun h => Step.out ?_))
        | (refine Two.mk (Step.out ?_) (Step.out ?_))
        | (refine Cp.mk fun q hq => Step.out ?_)
        | (refine Ovl.mk (by assumption) (Step.out ?_))
        | (refine CallOK.ctF (g := 16) (Step.out ?_))
        | (refine CallOK.ctF (g := 24) (Step.out ?_))
        | (refine CallOK.gv (g := 33) (Step.out ?_))
        | (refine CallOK.of_ct (Step.out ?_))
        | (refine CallQ.of_ct (Step.out ?_))
        | (refine Met.by (g := 16) (valid_ct _ (by assumption)) ?_; rintro q outs ⟨rfl, rfl⟩)
        | (refine Met.by (g := 18) (check_ct _ (by omega)) ?_; rintro q outs ⟨rfl, rfl⟩)
        | (refine Met.by (g := 24) (rows_ct _ (by assumption)) ?_; rintro q outs ⟨rfl, rfl⟩)
        | (refine Met.by (g := 33) (add_ct _ _ (by assumption) (by assumption) (by omega)) ?_; rintro q outs ⟨rfl, rfl⟩)
        | (refine Met.by (g := 34) (row_ct _) ?_; rintro q outs ⟨rfl, rfl⟩)
        | (refine Vc.mk ?_ (Step.out ?_))
      all_goals first
        | trivial
        | exact hb h
        | with_reducible rfl
        | with_reducible exact same_rfl
        | omega
        | (exact ⟨rfl, fun i hi => absurd hi (by simp)⟩)
    · rename_i hk
      have hk := Classical.not_not.1 hk
      have hc := add_ct l e.row hl v3 (by have := chk_ok hk; omega)
      rw [add_ins] at hc
      split
      · refine .det (.of_W (fn := Try.f19) hΓ hm Try.func19 ord19 [] (by kernel_rfl) (Step.out ?_))
        repeat' first
          | (refine Step.mk ?_; conv => whnf)
          | (refine Vc.om ?_ ?_; first | omega | with_reducible rfl | with_reducible exact same_rfl | (simp only [bytes_2, bytes_3, bytes_4, bytes_5, bytes_9, bytes_12, bytes_21, bytes_22, bytes_25, bytes_27, bytes_29, bytes_32, bytes_33, bytes_34, bytes_38, bytes_40, bytes_44, bytes_45, bytes_52, bytes_53, bytes_54, bytes_58, bytes_59, bytes_60, bytes_93, bytes_97, bytes_100, true_and, and_true] <;> omega))
          | (refine NilB.mk fun b hb => Step.out ?_)
          | with_reducible trivial
          | exact noSh_bool _
          | exact noSh_lit _
          | exact noSh_int _ _
          | exact noSh_str _
          | with_reducible rfl
          | with_reducible exact same_rfl
          | (refine Wr.i64 ?_ ?_; omega)
          | (refine Wr.u8 ?_ ?_; omega)
          | (refine Wr.i32 ?_ ?_; omega)
          | (with_reducible refine Br.tt ?_)
          | (with_reducible refine Br.ff ?_)
          | (refine Br.dT ?_ ?_; omega)
          | (refine Br.dF ?_ ?_; omega)
          | (refine Met.by hc ?_; rintro q outs ⟨rfl, rfl⟩)
          | (refine Br.d (fun h => ?_) (fun h => ?_))
          | (refine Br.swap ?_)
          | (refine Br.bnot ?_)
          | (refine Br.mk (fun h => Step.out ?_) (fun h => Step.out ?_))
          | (refine Two.mk (Step.out ?_) (Step.out ?_))
          | (refine Cp.mk fun q hq => Step.out ?_)
          | (refine Ovl.mk (by assumption) (Step.out ?_))
          | (refine CallOK.ctF (g := 16) (Step.out ?_))
          | (refine CallOK.ctF (g := 24) (Step.out ?_))
          | (refine CallOK.gv (g := 33) (Step.out ?_))
          | (refine CallOK.of_ct (Step.out ?_))
          | (refine CallQ.of_ct (Step.out ?_))
          | (refine Met.by (g := 16) (valid_ct _ (by assumption)) ?_; rintro q outs ⟨rfl, rfl⟩)
          | (refine Met.by (g := 18) (check_ct _ (by omega)) ?_; rintro q outs ⟨rfl, rfl⟩)
          | (refine Met.by (g := 24) (rows_ct _ (by assumption)) ?_; rintro q outs ⟨rfl, rfl⟩)
          | (refine Met.by (g := 33) (add_ct _ _ (by assumption) (by assumption) (by omega)) ?_; rintro q outs ⟨rfl, rfl⟩)
          | (refine Met.by (g := 34) (row_ct _) ?_; rintro q outs ⟨rfl, rfl⟩)
          | (refine Vc.mk ?_ (Step.out ?_))
      · refine .det (.of_W (fn := Try.f19) hΓ hm Try.func19 ord19 [] (by kernel_rfl) (Step.out ?_))
        repeat' first
          | (refine Step.mk ?_; conv => whnf)
          | (refine Vc.om ?_ ?_; first | omega | with_reducible rfl | with_reducible exact same_rfl | (simp only [bytes_2, bytes_3, bytes_4, bytes_5, bytes_9, bytes_12, bytes_21, bytes_22, bytes_25, bytes_27, bytes_29, bytes_32, bytes_33, bytes_34, bytes_38, bytes_40, bytes_44, bytes_45, bytes_52, bytes_53, bytes_54, bytes_58, bytes_59, bytes_60, bytes_93, bytes_97, bytes_100, true_and, and_true] <;> omega))
          | (refine NilB.mk fun b hb => Step.out ?_)
          | with_reducible trivial
          | exact noSh_bool _
          | exact noSh_lit _
          | exact noSh_int _ _
          | exact noSh_str _
          | with_reducible rfl
          | with_reducible exact same_rfl
          | (refine Wr.i64 ?_ ?_; omega)
          | (refine Wr.u8 ?_ ?_; omega)
          | (refine Wr.i32 ?_ ?_; omega)
          | (with_reducible refine Br.tt ?_)
          | (with_reducible refine Br.ff ?_)
          | (refine Br.dT ?_ ?_; omega)
          | (refine Br.dF ?_ ?_; omega)
          | (refine Met.by hc ?_; rintro q outs ⟨rfl, rfl⟩)
          | (refine Br.d (fun h => ?_) (fun h => ?_))
          | (refine Br.swap ?_)
          | (refine Br.bnot ?_)
          | (refine Br.mk (fun h => Step.out ?_) (fun h => Step.out ?_))
          | (refine Two.mk (Step.out ?_) (Step.out ?_))
          | (refine Cp.mk fun q hq => Step.out ?_)
          | (refine Ovl.mk (by assumption) (Step.out ?_))
          | (refine CallOK.ctF (g := 16) (Step.out ?_))
          | (refine CallOK.ctF (g := 24) (Step.out ?_))
          | (refine CallOK.gv (g := 33) (Step.out ?_))
          | (refine CallOK.of_ct (Step.out ?_))
          | (refine CallQ.of_ct (Step.out ?_))
          | (refine Met.by (g := 16) (valid_ct _ (by assumption)) ?_; rintro q outs ⟨rfl, rfl⟩)
          | (refine Met.by (g := 18) (check_ct _ (by omega)) ?_; rintro q outs ⟨rfl, rfl⟩)
          | (refine Met.by (g := 24) (rows_ct _ (by assumption)) ?_; rintro q outs ⟨rfl, rfl⟩)
          | (refine Met.by (g := 33) (add_ct _ _ (by assumption) (by assumption) (by omega)) ?_; rintro q outs ⟨rfl, rfl⟩)
          | (refine Met.by (g := 34) (row_ct _) ?_; rintro q outs ⟨rfl, rfl⟩)
          | (refine Vc.mk ?_ (Step.out ?_))
theorem apply_ok {l : List Rw} {e : Ev} (h : (apply l e).2 = 0) : valid l = 0 ∧ e.chk = 0 ∧ (ins l e.row).length ≤ 64 ∧ (apply l e).1 = ins l e.row := by
  unfold apply at h ⊢
  split at h
  · rename_i h1; exact absurd h h1
  · rename_i h1
    rw [if_neg h1]
    split at h
    · rename_i h2; exact absurd h h2
    · rename_i h2
      rw [if_neg h2]
      split at h
      · cases h
      · rename_i h3
        rw [if_neg h3]
        exact ⟨Classical.not_not.1 h1, Classical.not_not.1 h2, by omega, rfl⟩
theorem apply_valid {l : List Rw} {e : Ev} (h : (apply l e).2 = 0) : valid (apply l e).1 = 0 := by
  obtain ⟨h1, h2, h3, h4⟩ := apply_ok h
  obtain ⟨v1, v2, v3⟩ := valid_zero.1 h1
  rw [h4]
  exact valid_zero.2 ⟨h3, fine_ins v2 (fine_row h2), ins_asc _ v3⟩
abbrev Ev.z : Ev := ⟨0, 0, 0, [], 0, 0⟩
def evs (l : List Ev) : D := .tab 6 l.length fun i => Ev.f (l.getD i Ev.z)
structure EvsOK (l : List Ev) : Prop where
  n : l.length ≤ 100000
  v : ∀ e ∈ l, e.vals.length ≤ 100000
def allAt (r : List Rw) (l : List Ev) (i : Nat) : List Rw × Int := allGo r 0 (l.take i)
theorem allGo_app : ∀ (l : List Ev) (r : List Rw) (k : Int) (e : Ev), allGo r k (l ++ [e]) = if (apply (allGo r k l).1 e).2 ≠ 0 then ((allGo r k l).1, (allGo r k l).2 + 1) else ((apply (allGo r k l).1 e).1, (allGo r k l).2)
  | [], r, k, e => by rw [List.nil_append, allGo, allGo]; split <;> rw [allGo]
  | x :: l, r, k, e => by
    rw [List.cons_append, allGo, allGo]
    split
    · exact allGo_app l r _ e
    · exact allGo_app l _ k e
theorem allAt_step (r : List Rw) (l : List Ev) (i : Nat) (h : i < l.length) : allAt r l (i + 1) = if (apply (allAt r l i).1 (l.getD i Ev.z)).2 ≠ 0 then ((allAt r l i).1, (allAt r l i).2 + 1) else ((apply (allAt r l i).1 (l.getD i Ev.z)).1, (allAt r l i).2) := by
  rw [allAt, List.take_add_one, List.getElem?_eq_getElem h, Option.toList_some, allGo_app, allAt]
  rw [show l.getD i Ev.z = l[i] by rw [List.getD_eq_getElem?_getD, List.getElem?_eq_getElem h]; rfl]
theorem allGo_valid : ∀ (l : List Ev) (r : List Rw) (k : Int), valid r = 0 → valid (allGo r k l).1 = 0
  | [], _, _, h => h
  | e :: l, r, k, h => by
    rw [allGo]; split
    · exact allGo_valid l r _ h
    · rename_i h'; exact allGo_valid l _ k (apply_valid (Classical.not_not.1 h'))
theorem allGo_left : ∀ (l : List Ev) (r : List Rw) (k : Int), k ≤ (allGo r k l).2 ∧ (allGo r k l).2 ≤ k + l.length
  | [], _, k => by simp [allGo]
  | e :: l, r, k => by
    rw [allGo]; split
    · have := allGo_left l r (k + 1); simp only [List.length_cons]; omega
    · have := allGo_left l (apply r e).1 k; simp only [List.length_cons]; omega
theorem all_ct (r : List Rw) (l : List Ev) (hr : RwsOK r) (hl : EvsOK l) : Ct Try.prog 12 [rws r, evs l] fun q outs => q = .tup [rws (all r l).1, i64 (all r l).2] ∧ outs = [] := by
  have hn := hl.n
  unfold all
  split
  · refine .det (.of_W (fn := Try.f12) hΓ hm Try.func12 [] [] (by kernel_rfl) (Step.out ?_))
    repeat' first
      | (refine Step.mk ?_; conv => whnf)
      | (refine Vc.om ?_ ?_; first | omega | with_reducible rfl | with_reducible exact same_rfl | (simp only [bytes_2, bytes_3, bytes_4, bytes_5, bytes_9, bytes_12, bytes_21, bytes_22, bytes_25, bytes_27, bytes_29, bytes_32, bytes_33, bytes_34, bytes_38, bytes_40, bytes_44, bytes_45, bytes_52, bytes_53, bytes_54, bytes_58, bytes_59, bytes_60, bytes_93, bytes_97, bytes_100, true_and, and_true] <;> omega))
      | (refine NilB.mk fun b hb => Step.out ?_)
      | with_reducible trivial
      | exact noSh_bool _
      | exact noSh_lit _
      | exact noSh_int _ _
      | exact noSh_str _
      | with_reducible rfl
      | with_reducible exact same_rfl
      | (refine Wr.i64 ?_ ?_; omega)
      | (refine Wr.u8 ?_ ?_; omega)
      | (refine Wr.i32 ?_ ?_; omega)
      | (with_reducible refine Br.tt ?_)
      | (with_reducible refine Br.ff ?_)
      | (refine Br.dT ?_ ?_; omega)
      | (refine Br.dF ?_ ?_; omega)
      | (refine Br.d (fun h => ?_) (fun h => ?_))
      | (refine Br.swap ?_)
      | (refine Br.bnot ?_)
      | (refine Br.mk (fun h => Step.out ?_) (fun h => Step.out ?_))
      | (refine Two.mk (Step.out ?_) (Step.out ?_))
      | (refine Cp.mk fun q hq => Step.out ?_)
      | (refine Ovl.mk (by assumption) (Step.out ?_))
      | (refine CallOK.ctF (g := 16) (Step.out ?_))
      | (refine CallOK.ctF (g := 19) (Step.out ?_))
      | (refine CallOK.ctF (g := 24) (Step.out ?_))
      | (refine CallOK.of_ct (Step.out ?_))
      | (refine CallQ.of_ct (Step.out ?_))
      | (refine Met.by (g := 16) (valid_ct _ (by assumption)) ?_; rintro q outs ⟨rfl, rfl⟩)
      | (refine Met.by (g := 19) (apply_ct _ _ (by assumption) (by omega)) ?_; rintro q outs ⟨rfl, rfl⟩)
      | (refine Met.by (g := 24) (rows_ct _ (by assumption)) ?_; rintro q outs ⟨rfl, rfl⟩)
      | (refine Vc.mk ?_ (Step.out ?_))
    all_goals first
      | trivial
      | exact hb h
      | with_reducible rfl
      | with_reducible exact same_rfl
      | omega
      | (exact ⟨rfl, fun i hi => absurd hi (by simp)⟩)
  · rename_i hv
    have hv := Classical.not_not.1 hv
    refine .det (.of_W (fn := Try.f12) hΓ hm Try.func12 [] [] (by kernel_rfl) (Step.out ?_))
    repeat' first
      | (refine Step.mk ?_; conv => whnf)
      | (refine Vc.om ?_ ?_; first | omega | with_reducible rfl | with_reducible exact same_rfl | (simp only [bytes_2, bytes_3, bytes_4, bytes_5, bytes_9, bytes_12, bytes_21, bytes_22, bytes_25, bytes_27, bytes_29, bytes_32, bytes_33, bytes_34, bytes_38, bytes_40, bytes_44, bytes_45, bytes_52, bytes_53, bytes_54, bytes_58, bytes_59, bytes_60, bytes_93, bytes_97, bytes_100, true_and, and_true] <;> omega))
      | (refine NilB.mk fun b hb => Step.out ?_)
      | with_reducible trivial
      | exact noSh_bool _
      | exact noSh_lit _
      | exact noSh_int _ _
      | exact noSh_str _
      | with_reducible rfl
      | with_reducible exact same_rfl
      | (refine Wr.i64 ?_ ?_; omega)
      | (refine Wr.u8 ?_ ?_; omega)
      | (refine Wr.i32 ?_ ?_; omega)
      | (with_reducible refine Br.tt ?_)
      | (with_reducible refine Br.ff ?_)
      | (refine Br.dT ?_ ?_; omega)
      | (refine Br.dF ?_ ?_; omega)
      | (refine Br.d (fun h => ?_) (fun h => ?_))
      | (refine Br.swap ?_)
      | (refine Br.bnot ?_)
      | (refine Br.mk (fun h => Step.out ?_) (fun h => Step.out ?_))
      | (refine Two.mk (Step.out ?_) (Step.out ?_))
      | (refine Cp.mk fun q hq => Step.out ?_)
      | (refine Ovl.mk (by assumption) (Step.out ?_))
      | (refine CallOK.ctF (g := 16) (Step.out ?_))
      | (refine CallOK.ctF (g := 19) (Step.out ?_))
      | (refine CallOK.ctF (g := 24) (Step.out ?_))
      | (refine CallOK.of_ct (Step.out ?_))
      | (refine CallQ.of_ct (Step.out ?_))
      | (refine Met.by (g := 16) (valid_ct _ (by assumption)) ?_; rintro q outs ⟨rfl, rfl⟩)
      | (refine Met.by (g := 19) (apply_ct _ _ (by assumption) (by omega)) ?_; rintro q outs ⟨rfl, rfl⟩)
      | (refine Met.by (g := 24) (rows_ct _ (by assumption)) ?_; rintro q outs ⟨rfl, rfl⟩)
      | (refine Vc.mk ?_ (Step.out ?_))
    refine CodeOK.loopW hΓ hm [] [] (by kernel_rfl) (α := Nat) (fun i => [(6, rws (allAt r l i).1), (7, i64 (allAt r l i).2), (19, evs l), (20, i64 l.length), (21, i64 i)]) (fun i => []) 0 (fun i => i ≤ l.length) (fun i => l.length - i) ?_ ?_
    · refine Again.by 0 (Nat.zero_le _) ?_
      repeat' first
        | (refine Step.mk ?_; conv => whnf)
        | (refine Vc.om ?_ ?_; first | omega | with_reducible rfl | with_reducible exact same_rfl | (simp only [bytes_2, bytes_3, bytes_4, bytes_5, bytes_9, bytes_12, bytes_21, bytes_22, bytes_25, bytes_27, bytes_29, bytes_32, bytes_33, bytes_34, bytes_38, bytes_40, bytes_44, bytes_45, bytes_52, bytes_53, bytes_54, bytes_58, bytes_59, bytes_60, bytes_93, bytes_97, bytes_100, true_and, and_true] <;> omega))
        | (refine NilB.mk fun b hb => Step.out ?_)
        | with_reducible trivial
        | exact noSh_bool _
        | exact noSh_lit _
        | exact noSh_int _ _
        | exact noSh_str _
        | with_reducible rfl
        | with_reducible exact same_rfl
        | (refine Wr.i64 ?_ ?_; omega)
        | (refine Wr.u8 ?_ ?_; omega)
        | (refine Wr.i32 ?_ ?_; omega)
        | (with_reducible refine Br.tt ?_)
        | (with_reducible refine Br.ff ?_)
        | (refine Br.dT ?_ ?_; omega)
        | (refine Br.dF ?_ ?_; omega)
        | (refine Br.d (fun h => ?_) (fun h => ?_))
        | (refine Br.swap ?_)
        | (refine Br.bnot ?_)
        | (refine Br.mk (fun h => Step.out ?_) (fun h => Step.out ?_))
        | (refine Two.mk (Step.out ?_) (Step.out ?_))
        | (refine Cp.mk fun q hq => Step.out ?_)
        | (refine Ovl.mk (by assumption) (Step.out ?_))
        | (refine CallOK.ctF (g := 16) (Step.out ?_))
        | (refine CallOK.ctF (g := 19) (Step.out ?_))
        | (refine CallOK.ctF (g := 24) (Step.out ?_))
        | (refine CallOK.of_ct (Step.out ?_))
        | (refine CallQ.of_ct (Step.out ?_))
        | (refine Met.by (g := 16) (valid_ct _ (by assumption)) ?_; rintro q outs ⟨rfl, rfl⟩)
        | (refine Met.by (g := 19) (apply_ct _ _ (by assumption) (by omega)) ?_; rintro q outs ⟨rfl, rfl⟩)
        | (refine Met.by (g := 24) (rows_ct _ (by assumption)) ?_; rintro q outs ⟨rfl, rfl⟩)
        | (refine Vc.mk ?_ (Step.out ?_))
      · exact ⟨rfl, fun _ _ => rfl⟩
      · rfl
    · intro i hi
      have hlen : (l.take i).length = i := by simp; omega
      have hval : valid (allAt r l i).1 = 0 := allGo_valid (l.take i) r 0 hv
      have hleft : 0 ≤ (allAt r l i).2 ∧ (allAt r l i).2 ≤ i := by
        have := allGo_left (l.take i) r 0
        rw [hlen] at this
        unfold allAt; omega
      have hok := valid_ok hval
      have hvl := fun (h : i < l.length) => hl.v _ (getD_in (z := Ev.z) (i := (i : Int).toNat) h)
      repeat' first
        | (refine Step.mk ?_; conv => whnf)
        | (refine Vc.om ?_ ?_; first | omega | with_reducible rfl | with_reducible exact same_rfl | (simp only [bytes_2, bytes_3, bytes_4, bytes_5, bytes_9, bytes_12, bytes_21, bytes_22, bytes_25, bytes_27, bytes_29, bytes_32, bytes_33, bytes_34, bytes_38, bytes_40, bytes_44, bytes_45, bytes_52, bytes_53, bytes_54, bytes_58, bytes_59, bytes_60, bytes_93, bytes_97, bytes_100, true_and, and_true] <;> omega))
        | (refine NilB.mk fun b hb => Step.out ?_)
        | with_reducible trivial
        | exact noSh_bool _
        | exact noSh_lit _
        | exact noSh_int _ _
        | exact noSh_str _
        | with_reducible rfl
        | with_reducible exact same_rfl
        | (refine Wr.i64 ?_ ?_; omega)
        | (refine Wr.u8 ?_ ?_; omega)
        | (refine Wr.i32 ?_ ?_; omega)
        | (with_reducible refine Br.tt ?_)
        | (with_reducible refine Br.ff ?_)
        | (refine Br.dT ?_ ?_; omega)
        | (refine Br.dF ?_ ?_; omega)
        | (refine Met.by (apply_ct (allAt r l i).1 (l.getD (i : Int).toNat Ev.z) hok (hvl (by omega))) ?_; rintro q outs ⟨rfl, rfl⟩)
        | (refine Br.d (fun h => ?_) (fun h => ?_))
        | (refine Br.swap ?_)
        | (refine Br.bnot ?_)
        | (refine Br.mk (fun h => Step.out ?_) (fun h => Step.out ?_))
        | (refine Two.mk (Step.out ?_) (Step.out ?_))
        | (refine Cp.mk fun q hq => Step.out ?_)
        | (refine Ovl.mk (by assumption) (Step.out ?_))
        | (refine CallOK.ctF (g := 16) (Step.out ?_))
        | (refine CallOK.ctF (g := 19) (Step.out ?_))
        | (refine CallOK.ctF (g := 24) (Step.out ?_))
        | (refine CallOK.of_ct (Step.out ?_))
        | (refine CallQ.of_ct (Step.out ?_))
        | (refine Met.by (g := 16) (valid_ct _ (by assumption)) ?_; rintro q outs ⟨rfl, rfl⟩)
        | (refine Met.by (g := 19) (apply_ct _ _ (by assumption) (by omega)) ?_; rintro q outs ⟨rfl, rfl⟩)
        | (refine Met.by (g := 24) (rows_ct _ (by assumption)) ?_; rintro q outs ⟨rfl, rfl⟩)
        | (refine Vc.mk ?_ (Step.out ?_))
      · refine Again.by (i + 1) ⟨by omega, by omega⟩ ?_
        have hs := allAt_step r l i (by omega)
        rw [if_neg (by simpa using h)] at hs
        rw [hs]
        repeat' first
          | (refine Step.mk ?_; conv => whnf)
          | (refine Vc.om ?_ ?_; first | omega | with_reducible rfl | with_reducible exact same_rfl | (simp only [bytes_2, bytes_3, bytes_4, bytes_5, bytes_9, bytes_12, bytes_21, bytes_22, bytes_25, bytes_27, bytes_29, bytes_32, bytes_33, bytes_34, bytes_38, bytes_40, bytes_44, bytes_45, bytes_52, bytes_53, bytes_54, bytes_58, bytes_59, bytes_60, bytes_93, bytes_97, bytes_100, true_and, and_true] <;> omega))
          | (refine NilB.mk fun b hb => Step.out ?_)
          | with_reducible trivial
          | exact noSh_bool _
          | exact noSh_lit _
          | exact noSh_int _ _
          | exact noSh_str _
          | with_reducible rfl
          | with_reducible exact same_rfl
          | (refine Wr.i64 ?_ ?_; omega)
          | (refine Wr.u8 ?_ ?_; omega)
          | (refine Wr.i32 ?_ ?_; omega)
          | (with_reducible refine Br.tt ?_)
          | (with_reducible refine Br.ff ?_)
          | (refine Br.dT ?_ ?_; omega)
          | (refine Br.dF ?_ ?_; omega)
          | (refine Br.d (fun h => ?_) (fun h => ?_))
          | (refine Br.swap ?_)
          | (refine Br.bnot ?_)
          | (refine Br.mk (fun h => Step.out ?_) (fun h => Step.out ?_))
          | (refine Two.mk (Step.out ?_) (Step.out ?_))
          | (refine Cp.mk fun q hq => Step.out ?_)
          | (refine Ovl.mk (by assumption) (Step.out ?_))
          | (refine CallOK.ctF (g := 16) (Step.out ?_))
          | (refine CallOK.ctF (g := 19) (Step.out ?_))
          | (refine CallOK.ctF (g := 24) (Step.out ?_))
          | (refine CallOK.of_ct (Step.out ?_))
          | (refine CallQ.of_ct (Step.out ?_))
          | (refine Met.by (g := 16) (valid_ct _ (by assumption)) ?_; rintro q outs ⟨rfl, rfl⟩)
          | (refine Met.by (g := 19) (apply_ct _ _ (by assumption) (by omega)) ?_; rintro q outs ⟨rfl, rfl⟩)
          | (refine Met.by (g := 24) (rows_ct _ (by assumption)) ?_; rintro q outs ⟨rfl, rfl⟩)
          | (refine Vc.mk ?_ (Step.out ?_))
        exact ⟨rfl, fun _ _ => rfl⟩
      · refine Again.by (i + 1) ⟨by omega, by omega⟩ ?_
        have hs := allAt_step r l i (by omega)
        rw [if_pos (by simpa using h)] at hs
        rw [hs]
        repeat' first
          | (refine Step.mk ?_; conv => whnf)
          | (refine Vc.om ?_ ?_; first | omega | with_reducible rfl | with_reducible exact same_rfl | (simp only [bytes_2, bytes_3, bytes_4, bytes_5, bytes_9, bytes_12, bytes_21, bytes_22, bytes_25, bytes_27, bytes_29, bytes_32, bytes_33, bytes_34, bytes_38, bytes_40, bytes_44, bytes_45, bytes_52, bytes_53, bytes_54, bytes_58, bytes_59, bytes_60, bytes_93, bytes_97, bytes_100, true_and, and_true] <;> omega))
          | (refine NilB.mk fun b hb => Step.out ?_)
          | with_reducible trivial
          | exact noSh_bool _
          | exact noSh_lit _
          | exact noSh_int _ _
          | exact noSh_str _
          | with_reducible rfl
          | with_reducible exact same_rfl
          | (refine Wr.i64 ?_ ?_; omega)
          | (refine Wr.u8 ?_ ?_; omega)
          | (refine Wr.i32 ?_ ?_; omega)
          | (with_reducible refine Br.tt ?_)
          | (with_reducible refine Br.ff ?_)
          | (refine Br.dT ?_ ?_; omega)
          | (refine Br.dF ?_ ?_; omega)
          | (refine Br.d (fun h => ?_) (fun h => ?_))
          | (refine Br.swap ?_)
          | (refine Br.bnot ?_)
          | (refine Br.mk (fun h => Step.out ?_) (fun h => Step.out ?_))
          | (refine Two.mk (Step.out ?_) (Step.out ?_))
          | (refine Cp.mk fun q hq => Step.out ?_)
          | (refine Ovl.mk (by assumption) (Step.out ?_))
          | (refine CallOK.ctF (g := 16) (Step.out ?_))
          | (refine CallOK.ctF (g := 19) (Step.out ?_))
          | (refine CallOK.ctF (g := 24) (Step.out ?_))
          | (refine CallOK.of_ct (Step.out ?_))
          | (refine CallQ.of_ct (Step.out ?_))
          | (refine Met.by (g := 16) (valid_ct _ (by assumption)) ?_; rintro q outs ⟨rfl, rfl⟩)
          | (refine Met.by (g := 19) (apply_ct _ _ (by assumption) (by omega)) ?_; rintro q outs ⟨rfl, rfl⟩)
          | (refine Met.by (g := 24) (rows_ct _ (by assumption)) ?_; rintro q outs ⟨rfl, rfl⟩)
          | (refine Vc.mk ?_ (Step.out ?_))
      · have e : i = l.length := by omega
        subst e
        unfold allAt
        rw [List.take_length]
        exact ⟨rfl, fun _ _ => rfl⟩
      · have e : i = l.length := by omega
        subst e
        unfold allAt
        rw [List.take_length]
theorem take_s {α : Type} (l : List α) (i : Nat) (z : α) (h : i < l.length) : l.take (i + 1) = l.take i ++ [l.getD i z] := by
  rw [List.take_add_one, List.getElem?_eq_getElem h, List.getD_eq_getElem?_getD, List.getElem?_eq_getElem h]; rfl
theorem puts_s (a b : List Rw) (i : Nat) (h : i < b.length) : puts a (b.take (i + 1)) = ins (puts a (b.take i)) (b.getD i Rw.z) := by
  rw [take_s b i Rw.z h, puts, List.foldl_append]; rfl
theorem join_ct (a b : List Rw) (h1 : valid a = 0) (h2 : valid b = 0) (h3 : (puts a b).length ≤ 64) : Ct Try.prog 22 [rws a, rws b] fun q outs => q = .tup [rwsO 60 (puts a b), i64 0] ∧ outs = [] := by
  have ha := valid_ok h1
  have hb := valid_ok h2
  obtain ⟨v1, v2, v3⟩ := valid_zero.1 h1
  obtain ⟨w1, w2, w3⟩ := valid_zero.1 h2
  refine .det (.of_W (fn := Try.f22) hΓ hm Try.func22 [] [] (by kernel_rfl) (Step.out ?_))
  repeat' first
    | (refine Step.mk ?_; conv => whnf)
    | (refine Vc.om ?_ ?_; first | omega | with_reducible rfl | with_reducible exact same_rfl | (simp only [bytes_2, bytes_3, bytes_4, bytes_5, bytes_9, bytes_12, bytes_21, bytes_22, bytes_25, bytes_27, bytes_29, bytes_32, bytes_33, bytes_34, bytes_38, bytes_40, bytes_44, bytes_45, bytes_52, bytes_53, bytes_54, bytes_58, bytes_59, bytes_60, bytes_93, bytes_97, bytes_100, true_and, and_true] <;> omega))
    | (refine NilB.mk fun b hb => Step.out ?_)
    | with_reducible trivial
    | exact noSh_bool _
    | exact noSh_lit _
    | exact noSh_int _ _
    | exact noSh_str _
    | with_reducible rfl
    | with_reducible exact same_rfl
    | (refine Wr.i64 ?_ ?_; omega)
    | (refine Wr.u8 ?_ ?_; omega)
    | (refine Wr.i32 ?_ ?_; omega)
    | (with_reducible refine Br.tt ?_)
    | (with_reducible refine Br.ff ?_)
    | (refine Br.dT ?_ ?_; omega)
    | (refine Br.dF ?_ ?_; omega)
    | (refine Br.d (fun h => ?_) (fun h => ?_))
    | (refine Br.swap ?_)
    | (refine Br.bnot ?_)
    | (refine Br.mk (fun h => Step.out ?_) (fun h => Step.out ?_))
    | (refine Two.mk (Step.out ?_) (Step.out ?_))
    | (refine Cp.mk fun q hq => Step.out ?_)
    | (refine Ovl.mk (by assumption) (Step.out ?_))
    | (refine CallOK.ctF (g := 16) (Step.out ?_))
    | (refine CallOK.ctF (g := 24) (Step.out ?_))
    | (refine CallOK.gv (g := 33) (Step.out ?_))
    | (refine CallOK.of_ct (Step.out ?_))
    | (refine CallQ.of_ct (Step.out ?_))
    | (refine Met.by (g := 16) (valid_ct _ (by assumption)) ?_; rintro q outs ⟨rfl, rfl⟩)
    | (refine Met.by (g := 24) (rows_ct _ (by assumption)) ?_; rintro q outs ⟨rfl, rfl⟩)
    | (refine Met.by (g := 33) (add_ct _ _ (by assumption) (by assumption) (by omega)) ?_; rintro q outs ⟨rfl, rfl⟩)
    | (refine Vc.mk ?_ (Step.out ?_))
  refine CodeOK.loopW hΓ hm [] [] (by kernel_rfl) (α := Nat) (fun i => [(8, .own 0), (23, rws b), (24, i64 b.length), (25, i64 i)]) (fun i => [(0, .arr 60 6 (puts a (b.take i)).length fun j => Rw.f ((puts a (b.take i)).getD j Rw.z))]) 1 (fun i => i ≤ b.length) (fun i => b.length - i) ?_ ?_
  · refine Again.by 0 (Nat.zero_le _) ?_
    repeat' first
      | (refine Step.mk ?_; conv => whnf)
      | (refine Vc.om ?_ ?_; first | omega | with_reducible rfl | with_reducible exact same_rfl | (simp only [bytes_2, bytes_3, bytes_4, bytes_5, bytes_9, bytes_12, bytes_21, bytes_22, bytes_25, bytes_27, bytes_29, bytes_32, bytes_33, bytes_34, bytes_38, bytes_40, bytes_44, bytes_45, bytes_52, bytes_53, bytes_54, bytes_58, bytes_59, bytes_60, bytes_93, bytes_97, bytes_100, true_and, and_true] <;> omega))
      | (refine NilB.mk fun b hb => Step.out ?_)
      | with_reducible trivial
      | exact noSh_bool _
      | exact noSh_lit _
      | exact noSh_int _ _
      | exact noSh_str _
      | with_reducible rfl
      | with_reducible exact same_rfl
      | (refine Wr.i64 ?_ ?_; omega)
      | (refine Wr.u8 ?_ ?_; omega)
      | (refine Wr.i32 ?_ ?_; omega)
      | (with_reducible refine Br.tt ?_)
      | (with_reducible refine Br.ff ?_)
      | (refine Br.dT ?_ ?_; omega)
      | (refine Br.dF ?_ ?_; omega)
      | (refine Br.d (fun h => ?_) (fun h => ?_))
      | (refine Br.swap ?_)
      | (refine Br.bnot ?_)
      | (refine Br.mk (fun h => Step.out ?_) (fun h => Step.out ?_))
      | (refine Two.mk (Step.out ?_) (Step.out ?_))
      | (refine Cp.mk fun q hq => Step.out ?_)
      | (refine Ovl.mk (by assumption) (Step.out ?_))
      | (refine CallOK.ctF (g := 16) (Step.out ?_))
      | (refine CallOK.ctF (g := 24) (Step.out ?_))
      | (refine CallOK.gv (g := 33) (Step.out ?_))
      | (refine CallOK.of_ct (Step.out ?_))
      | (refine CallQ.of_ct (Step.out ?_))
      | (refine Met.by (g := 16) (valid_ct _ (by assumption)) ?_; rintro q outs ⟨rfl, rfl⟩)
      | (refine Met.by (g := 24) (rows_ct _ (by assumption)) ?_; rintro q outs ⟨rfl, rfl⟩)
      | (refine Met.by (g := 33) (add_ct _ _ (by assumption) (by assumption) (by omega)) ?_; rintro q outs ⟨rfl, rfl⟩)
      | (refine Vc.mk ?_ (Step.out ?_))
    exact ⟨rfl, fun _ _ => rfl⟩
  · intro i hi
    have hf : ∀ r ∈ puts a (b.take i), r.fine := fine_puts _ v2 fun r hr => w2 r (List.mem_of_mem_take hr)
    have hlen := puts_len (b.take i) a
    have hlen2 : (b.take i).length = i := by simp; omega
    have hok : RwsOK (puts a (b.take i)) := ⟨by omega, fun r hr => by have := (hf r hr).len; omega⟩
    have hc := fun h : i < b.length => add_ct (puts a (b.take i)) (b.getD (i : Int).toNat Rw.z) hok (puts_asc _ v3) (hb.at_ (by simpa using h))
    simp only [add_ins] at hc
    repeat' first
      | (refine Step.mk ?_; conv => whnf)
      | (refine Vc.om ?_ ?_; first | omega | with_reducible rfl | with_reducible exact same_rfl | (simp only [bytes_2, bytes_3, bytes_4, bytes_5, bytes_9, bytes_12, bytes_21, bytes_22, bytes_25, bytes_27, bytes_29, bytes_32, bytes_33, bytes_34, bytes_38, bytes_40, bytes_44, bytes_45, bytes_52, bytes_53, bytes_54, bytes_58, bytes_59, bytes_60, bytes_93, bytes_97, bytes_100, true_and, and_true] <;> omega))
      | (refine NilB.mk fun b hb => Step.out ?_)
      | with_reducible trivial
      | exact noSh_bool _
      | exact noSh_lit _
      | exact noSh_int _ _
      | exact noSh_str _
      | with_reducible rfl
      | with_reducible exact same_rfl
      | (refine Wr.i64 ?_ ?_; omega)
      | (refine Wr.u8 ?_ ?_; omega)
      | (refine Wr.i32 ?_ ?_; omega)
      | (with_reducible refine Br.tt ?_)
      | (with_reducible refine Br.ff ?_)
      | (refine Br.dT ?_ ?_; omega)
      | (refine Br.dF ?_ ?_; omega)
      | (refine Met.by (hc (by omega)) ?_; rintro q outs ⟨rfl, rfl⟩)
      | (refine Br.d (fun h => ?_) (fun h => ?_))
      | (refine Br.swap ?_)
      | (refine Br.bnot ?_)
      | (refine Br.mk (fun h => Step.out ?_) (fun h => Step.out ?_))
      | (refine Two.mk (Step.out ?_) (Step.out ?_))
      | (refine Cp.mk fun q hq => Step.out ?_)
      | (refine Ovl.mk (by assumption) (Step.out ?_))
      | (refine CallOK.ctF (g := 16) (Step.out ?_))
      | (refine CallOK.ctF (g := 24) (Step.out ?_))
      | (refine CallOK.gv (g := 33) (Step.out ?_))
      | (refine CallOK.of_ct (Step.out ?_))
      | (refine CallQ.of_ct (Step.out ?_))
      | (refine Met.by (g := 16) (valid_ct _ (by assumption)) ?_; rintro q outs ⟨rfl, rfl⟩)
      | (refine Met.by (g := 24) (rows_ct _ (by assumption)) ?_; rintro q outs ⟨rfl, rfl⟩)
      | (refine Met.by (g := 33) (add_ct _ _ (by assumption) (by assumption) (by omega)) ?_; rintro q outs ⟨rfl, rfl⟩)
      | (refine Vc.mk ?_ (Step.out ?_))
    · refine Again.by (i + 1) ⟨by omega, by omega⟩ ?_
      have hs := puts_s a b i (by omega)
      rw [hs]
      repeat' first
        | (refine Step.mk ?_; conv => whnf)
        | (refine Vc.om ?_ ?_; first | omega | with_reducible rfl | with_reducible exact same_rfl | (simp only [bytes_2, bytes_3, bytes_4, bytes_5, bytes_9, bytes_12, bytes_21, bytes_22, bytes_25, bytes_27, bytes_29, bytes_32, bytes_33, bytes_34, bytes_38, bytes_40, bytes_44, bytes_45, bytes_52, bytes_53, bytes_54, bytes_58, bytes_59, bytes_60, bytes_93, bytes_97, bytes_100, true_and, and_true] <;> omega))
        | (refine NilB.mk fun b hb => Step.out ?_)
        | with_reducible trivial
        | exact noSh_bool _
        | exact noSh_lit _
        | exact noSh_int _ _
        | exact noSh_str _
        | with_reducible rfl
        | with_reducible exact same_rfl
        | (refine Wr.i64 ?_ ?_; omega)
        | (refine Wr.u8 ?_ ?_; omega)
        | (refine Wr.i32 ?_ ?_; omega)
        | (with_reducible refine Br.tt ?_)
        | (with_reducible refine Br.ff ?_)
        | (refine Br.dT ?_ ?_; omega)
        | (refine Br.dF ?_ ?_; omega)
        | (refine Br.d (fun h => ?_) (fun h => ?_))
        | (refine Br.swap ?_)
        | (refine Br.bnot ?_)
        | (refine Br.mk (fun h => Step.out ?_) (fun h => Step.out ?_))
        | (refine Two.mk (Step.out ?_) (Step.out ?_))
        | (refine Cp.mk fun q hq => Step.out ?_)
        | (refine Ovl.mk (by assumption) (Step.out ?_))
        | (refine CallOK.ctF (g := 16) (Step.out ?_))
        | (refine CallOK.ctF (g := 24) (Step.out ?_))
        | (refine CallOK.gv (g := 33) (Step.out ?_))
        | (refine CallOK.of_ct (Step.out ?_))
        | (refine CallQ.of_ct (Step.out ?_))
        | (refine Met.by (g := 16) (valid_ct _ (by assumption)) ?_; rintro q outs ⟨rfl, rfl⟩)
        | (refine Met.by (g := 24) (rows_ct _ (by assumption)) ?_; rintro q outs ⟨rfl, rfl⟩)
        | (refine Met.by (g := 33) (add_ct _ _ (by assumption) (by assumption) (by omega)) ?_; rintro q outs ⟨rfl, rfl⟩)
        | (refine Vc.mk ?_ (Step.out ?_))
      exact ⟨rfl, fun _ _ => rfl⟩
    all_goals
      have e : i = b.length := by omega
      subst e
    all_goals first
      | (exfalso; rw [List.take_length] at *; omega)
      | rfl
      | (rw [List.take_length]; exact ⟨rfl, fun _ _ => rfl⟩)
def cur1 (r : Rw) : Bool := !decide (r.ver = 0) && (decide (r.st = 0) || decide (r.st = 1))
abbrev Rec := Int × Int × List Str
def recF (x : Rec) : List D := [i64 x.1, i64 x.2.1, strs x.2.2]
def recs (l : List Rec) : D := .tab 3 l.length fun i => recF (l.getD i (0, 0, []))
def curs (l : List Rw) : List Rec := (l.filter cur1).map fun r => (r.id, r.ver, r.vals)
def deads (l : List Rw) : List Int := ((l.filter cur1).filter fun r => decide (r.st = 1)).map Rw.id
theorem ite_strs (c : Prop) [Decidable c] (a b : List Str) : D.ite c (strs a) (strs b) = strs (if c then a else b) := by
  show D.tab 1 (if c then _ else _) (fun q => iteL1 c [.str (a.getD q [])] [.str (b.getD q [])]) = _
  have : (fun q => iteL1 c [D.str (a.getD q [])] [D.str (b.getD q [])]) = fun q => [D.str ((if c then a else b).getD q [])] := by
    funext q
    show [D.str (if c then _ else _)] = _
    split <;> rfl
  rw [this]
  split <;> rfl
theorem ite_rec (c : Prop) [Decidable c] (x y : Rec) : iteL c (recF x) (recF y) = recF (if c then x else y) := by
  show [i64 (if c then _ else _), i64 (if c then _ else _), D.ite c (strs x.2.2) (strs y.2.2)] = _
  rw [ite_strs]
  split <;> rfl
theorem ite_int (c : Prop) [Decidable c] (x y : Int) : iteL c [i64 x] [i64 y] = [i64 (if c then x else y)] := rfl
theorem getD_app {α : Type} (l m : List α) (i : Nat) (z : α) : (l ++ m).getD i z = if i < l.length then l.getD i z else m.getD (i - l.length) z := by
  simp only [List.getD_eq_getElem?_getD, List.getElem?_append]; split <;> rfl
theorem app1 {α : Type} (F : α → List D) (z : α) (hF : ∀ (c : Prop) [Decidable c] (x y : α), iteL c (F x) (F y) = F (if c then x else y)) (l : List α) (x : α) :
    l.length + 1 = (l ++ [x]).length ∧ ∀ i, i < (l ++ [x]).length → iteL (i < l.length) (F (l.getD i z)) (selC [F x] (i - l.length)) = F ((l ++ [x]).getD i z) := by
  refine ⟨by simp, fun i hi => ?_⟩
  have hi : i < l.length + 1 := by simpa using hi
  by_cases h : i < l.length
  · rw [show selC [F x] (i - l.length) = F x by rw [show i - l.length = 0 by omega]; rfl, hF, if_pos h, getD_app, if_pos h]
  · rw [show i = l.length by omega, Nat.sub_self, show selC [F x] 0 = F x from rfl, hF, if_neg (by omega), getD_app, if_neg (by omega), Nat.sub_self]; rfl
def curAt (l : List Rw) (i : Nat) : List Rec := curs (l.take i)
def deadAt (l : List Rw) (i : Nat) : List Int := deads (l.take i)
theorem curAt_step (l : List Rw) (i : Nat) (h : i < l.length) : curAt l (i + 1) = if cur1 (l.getD i Rw.z) = true then curAt l i ++ [((l.getD i Rw.z).id, (l.getD i Rw.z).ver, (l.getD i Rw.z).vals)] else curAt l i := by
  rw [curAt, take_s l i Rw.z h, curs, List.filter_append, List.map_append]
  simp only [List.filter_cons, List.filter_nil]
  split
  · rfl
  · rw [List.map_nil, List.append_nil]; rfl
theorem deadAt_step (l : List Rw) (i : Nat) (h : i < l.length) : deadAt l (i + 1) = if cur1 (l.getD i Rw.z) = true ∧ (l.getD i Rw.z).st = 1 then deadAt l i ++ [(l.getD i Rw.z).id] else deadAt l i := by
  rw [deadAt, take_s l i Rw.z h, deads, List.filter_append, List.filter_append, List.map_append]
  simp only [List.filter_cons, List.filter_nil]
  by_cases h1 : cur1 (l.getD i Rw.z) = true
  · rw [if_pos h1]
    by_cases h2 : (l.getD i Rw.z).st = 1
    · rw [if_pos ⟨h1, h2⟩, List.filter_cons, if_pos (by simpa using h2)]; rfl
    · rw [if_neg (fun h => h2 h.2), List.filter_cons, if_neg (by simpa using h2)]
      rw [List.filter_nil, List.map_nil, List.append_nil]; rfl
  · rw [if_neg h1, if_neg (fun h => h1 h.1)]
    rw [List.filter_nil, List.map_nil, List.append_nil]; rfl
theorem current_ct (l : List Rw) (hv : valid l = 0) : Ct Try.prog 17 [rws l] fun q outs => q = .tup [recs (curs l), ints (deads l), i64 0] ∧ outs = [] := by
  have hl := valid_ok hv
  have hn := hl.n
  refine .det (.of_W (fn := Try.f17) hΓ hm Try.func17 ord17 [] (by kernel_rfl) (Step.out ?_))
  repeat' first
    | (refine Step.mk ?_; conv => whnf)
    | (refine Vc.om ?_ ?_; first | omega | with_reducible rfl | with_reducible exact same_rfl | (simp only [bytes_2, bytes_3, bytes_4, bytes_5, bytes_9, bytes_12, bytes_21, bytes_22, bytes_25, bytes_27, bytes_29, bytes_32, bytes_33, bytes_34, bytes_38, bytes_40, bytes_44, bytes_45, bytes_52, bytes_53, bytes_54, bytes_58, bytes_59, bytes_60, bytes_93, bytes_97, bytes_100, true_and, and_true] <;> omega))
    | (refine NilB.mk fun b hb => Step.out ?_)
    | with_reducible trivial
    | exact noSh_bool _
    | exact noSh_lit _
    | exact noSh_int _ _
    | exact noSh_str _
    | with_reducible rfl
    | with_reducible exact same_rfl
    | (refine Wr.i64 ?_ ?_; omega)
    | (refine Wr.u8 ?_ ?_; omega)
    | (refine Wr.i32 ?_ ?_; omega)
    | (with_reducible refine Br.tt ?_)
    | (with_reducible refine Br.ff ?_)
    | (refine Br.dT ?_ ?_; omega)
    | (refine Br.dF ?_ ?_; omega)
    | (refine Br.d (fun h => ?_) (fun h => ?_))
    | (refine Br.swap ?_)
    | (refine Br.bnot ?_)
    | (refine Br.mk (fun h => Step.out ?_) (fun h => Step.out ?_))
    | (refine Two.mk (Step.out ?_) (Step.out ?_))
    | (refine Cp.mk fun q hq => Step.out ?_)
    | (refine Ovl.mk (by assumption) (Step.out ?_))
    | (refine CallOK.ctF (g := 16) (Step.out ?_))
    | (refine CallOK.of_ct (Step.out ?_))
    | (refine CallQ.of_ct (Step.out ?_))
    | (refine Met.by (g := 16) (valid_ct _ (by assumption)) ?_; rintro q outs ⟨rfl, rfl⟩)
    | (refine Met.by (g := 30) (cloneS_ct _ (by omega)) ?_; rintro q outs ⟨rfl, rfl⟩)
    | (refine Vc.mk ?_ (Step.out ?_))
  refine CodeOK.loopW hΓ hm ord17 [] (by kernel_rfl) (α := Nat) (fun i => [(6, .own 0), (7, .own 1), (15, rws l), (16, i64 l.length), (17, i64 i)]) (fun i => [(0, .arr 45 3 (curAt l i).length fun j => recF ((curAt l i).getD j (0, 0, []))), (1, .arr 3 1 (deadAt l i).length fun j => [i64 ((deadAt l i).getD j 0)])]) 2 (fun i => i ≤ l.length) (fun i => l.length - i) ?_ ?_
  · refine Again.by 0 (Nat.zero_le _) ?_
    repeat' first
      | (refine Step.mk ?_; conv => whnf)
      | (refine Vc.om ?_ ?_; first | omega | with_reducible rfl | with_reducible exact same_rfl | (simp only [bytes_2, bytes_3, bytes_4, bytes_5, bytes_9, bytes_12, bytes_21, bytes_22, bytes_25, bytes_27, bytes_29, bytes_32, bytes_33, bytes_34, bytes_38, bytes_40, bytes_44, bytes_45, bytes_52, bytes_53, bytes_54, bytes_58, bytes_59, bytes_60, bytes_93, bytes_97, bytes_100, true_and, and_true] <;> omega))
      | (refine NilB.mk fun b hb => Step.out ?_)
      | with_reducible trivial
      | exact noSh_bool _
      | exact noSh_lit _
      | exact noSh_int _ _
      | exact noSh_str _
      | with_reducible rfl
      | with_reducible exact same_rfl
      | (refine Wr.i64 ?_ ?_; omega)
      | (refine Wr.u8 ?_ ?_; omega)
      | (refine Wr.i32 ?_ ?_; omega)
      | (with_reducible refine Br.tt ?_)
      | (with_reducible refine Br.ff ?_)
      | (refine Br.dT ?_ ?_; omega)
      | (refine Br.dF ?_ ?_; omega)
      | (refine Br.d (fun h => ?_) (fun h => ?_))
      | (refine Br.swap ?_)
      | (refine Br.bnot ?_)
      | (refine Br.mk (fun h => Step.out ?_) (fun h => Step.out ?_))
      | (refine Two.mk (Step.out ?_) (Step.out ?_))
      | (refine Cp.mk fun q hq => Step.out ?_)
      | (refine Ovl.mk (by assumption) (Step.out ?_))
      | (refine CallOK.ctF (g := 16) (Step.out ?_))
      | (refine CallOK.of_ct (Step.out ?_))
      | (refine CallQ.of_ct (Step.out ?_))
      | (refine Met.by (g := 16) (valid_ct _ (by assumption)) ?_; rintro q outs ⟨rfl, rfl⟩)
      | (refine Met.by (g := 30) (cloneS_ct _ (by omega)) ?_; rintro q outs ⟨rfl, rfl⟩)
      | (refine Vc.mk ?_ (Step.out ?_))
    all_goals rfl
  · intro i hi
    have hl1 : (curAt l i).length ≤ i := by
      rw [curAt, curs, List.length_map]; exact Nat.le_trans (List.length_filter_le _ _) (by simp; omega)
    have hl2 : (deadAt l i).length ≤ i := by
      rw [deadAt, deads, List.length_map]; exact Nat.le_trans (List.length_filter_le _ _) (Nat.le_trans (List.length_filter_le _ _) (by simp; omega))
    have hvl := fun (h : i < l.length) => hl.v _ (getD_in (z := Rw.z) (i := (i : Int).toNat) h)
    have s1 := fun h : i < l.length => curAt_step l i h
    have s2 := fun h : i < l.length => deadAt_step l i h
    repeat' first
      | (refine Step.mk ?_; conv => whnf)
      | (refine Vc.om ?_ ?_; first | omega | with_reducible rfl | with_reducible exact same_rfl | (simp only [bytes_2, bytes_3, bytes_4, bytes_5, bytes_9, bytes_12, bytes_21, bytes_22, bytes_25, bytes_27, bytes_29, bytes_32, bytes_33, bytes_34, bytes_38, bytes_40, bytes_44, bytes_45, bytes_52, bytes_53, bytes_54, bytes_58, bytes_59, bytes_60, bytes_93, bytes_97, bytes_100, true_and, and_true] <;> omega))
      | (refine NilB.mk fun b hb => Step.out ?_)
      | with_reducible trivial
      | exact noSh_bool _
      | exact noSh_lit _
      | exact noSh_int _ _
      | exact noSh_str _
      | with_reducible rfl
      | with_reducible exact same_rfl
      | (refine Wr.i64 ?_ ?_; omega)
      | (refine Wr.u8 ?_ ?_; omega)
      | (refine Wr.i32 ?_ ?_; omega)
      | (with_reducible refine Br.tt ?_)
      | (with_reducible refine Br.ff ?_)
      | (refine Br.dT ?_ ?_; omega)
      | (refine Br.dF ?_ ?_; omega)
      | (refine Met.by (cloneS_ct (l.getD (i : Int).toNat Rw.z).vals (by have := hvl (by omega); omega)) ?_; rintro q outs ⟨rfl, rfl⟩)
      | (refine Br.d (fun h => ?_) (fun h => ?_))
      | (refine Br.swap ?_)
      | (refine Br.bnot ?_)
      | (refine Br.mk (fun h => Step.out ?_) (fun h => Step.out ?_))
      | (refine Two.mk (Step.out ?_) (Step.out ?_))
      | (refine Cp.mk fun q hq => Step.out ?_)
      | (refine Ovl.mk (by assumption) (Step.out ?_))
      | (refine CallOK.ctF (g := 16) (Step.out ?_))
      | (refine CallOK.of_ct (Step.out ?_))
      | (refine CallQ.of_ct (Step.out ?_))
      | (refine Met.by (g := 16) (valid_ct _ (by assumption)) ?_; rintro q outs ⟨rfl, rfl⟩)
      | (refine Met.by (g := 30) (cloneS_ct _ (by omega)) ?_; rintro q outs ⟨rfl, rfl⟩)
      | (refine Vc.mk ?_ (Step.out ?_))
    all_goals try simp only [Int.toNat_natCast] at *
    · have s1 := s1 (by omega)
      have s2 := s2 (by omega)
      rw [if_neg (by simp [-List.getD_eq_getElem?_getD, cur1, h])] at s1
      rw [if_neg (by simp [-List.getD_eq_getElem?_getD, cur1, h])] at s2
      refine Again.by (i + 1) ⟨by omega, by omega⟩ ?_
      rw [s1, s2]
      repeat' first
        | (refine Step.mk ?_; conv => whnf)
        | (refine Vc.om ?_ ?_; first | omega | with_reducible rfl | with_reducible exact same_rfl | (simp only [bytes_2, bytes_3, bytes_4, bytes_5, bytes_9, bytes_12, bytes_21, bytes_22, bytes_25, bytes_27, bytes_29, bytes_32, bytes_33, bytes_34, bytes_38, bytes_40, bytes_44, bytes_45, bytes_52, bytes_53, bytes_54, bytes_58, bytes_59, bytes_60, bytes_93, bytes_97, bytes_100, true_and, and_true] <;> omega))
        | (refine NilB.mk fun b hb => Step.out ?_)
        | with_reducible trivial
        | exact noSh_bool _
        | exact noSh_lit _
        | exact noSh_int _ _
        | exact noSh_str _
        | with_reducible rfl
        | with_reducible exact same_rfl
        | (refine Wr.i64 ?_ ?_; omega)
        | (refine Wr.u8 ?_ ?_; omega)
        | (refine Wr.i32 ?_ ?_; omega)
        | (with_reducible refine Br.tt ?_)
        | (with_reducible refine Br.ff ?_)
        | (refine Br.dT ?_ ?_; omega)
        | (refine Br.dF ?_ ?_; omega)
        | (refine Br.d (fun h => ?_) (fun h => ?_))
        | (refine Br.swap ?_)
        | (refine Br.bnot ?_)
        | (refine Br.mk (fun h => Step.out ?_) (fun h => Step.out ?_))
        | (refine Two.mk (Step.out ?_) (Step.out ?_))
        | (refine Cp.mk fun q hq => Step.out ?_)
        | (refine Ovl.mk (by assumption) (Step.out ?_))
        | (refine CallOK.ctF (g := 16) (Step.out ?_))
        | (refine CallOK.of_ct (Step.out ?_))
        | (refine CallQ.of_ct (Step.out ?_))
        | (refine Met.by (g := 16) (valid_ct _ (by assumption)) ?_; rintro q outs ⟨rfl, rfl⟩)
        | (refine Met.by (g := 30) (cloneS_ct _ (by omega)) ?_; rintro q outs ⟨rfl, rfl⟩)
        | (refine Vc.mk ?_ (Step.out ?_))
      all_goals exact ⟨rfl, fun _ _ => rfl⟩
    · have s1 := s1 (by omega)
      have s2 := s2 (by omega)
      have hk : cur1 (l.getD i Rw.z) = true := by simp [-List.getD_eq_getElem?_getD, cur1, *]
      rw [if_pos hk] at s1
      rw [if_neg (by omega)] at s2
      refine Again.by (i + 1) ⟨by omega, by omega⟩ ?_
      rw [s1, s2]
      repeat' first
        | (refine Step.mk ?_; conv => whnf)
        | (refine Vc.om ?_ ?_; first | omega | with_reducible rfl | with_reducible exact same_rfl | (simp only [bytes_2, bytes_3, bytes_4, bytes_5, bytes_9, bytes_12, bytes_21, bytes_22, bytes_25, bytes_27, bytes_29, bytes_32, bytes_33, bytes_34, bytes_38, bytes_40, bytes_44, bytes_45, bytes_52, bytes_53, bytes_54, bytes_58, bytes_59, bytes_60, bytes_93, bytes_97, bytes_100, true_and, and_true] <;> omega))
        | (refine NilB.mk fun b hb => Step.out ?_)
        | with_reducible trivial
        | exact noSh_bool _
        | exact noSh_lit _
        | exact noSh_int _ _
        | exact noSh_str _
        | with_reducible rfl
        | with_reducible exact same_rfl
        | (refine Wr.i64 ?_ ?_; omega)
        | (refine Wr.u8 ?_ ?_; omega)
        | (refine Wr.i32 ?_ ?_; omega)
        | (with_reducible refine Br.tt ?_)
        | (with_reducible refine Br.ff ?_)
        | (refine Br.dT ?_ ?_; omega)
        | (refine Br.dF ?_ ?_; omega)
        | (refine Br.d (fun h => ?_) (fun h => ?_))
        | (refine Br.swap ?_)
        | (refine Br.bnot ?_)
        | (refine Br.mk (fun h => Step.out ?_) (fun h => Step.out ?_))
        | (refine Two.mk (Step.out ?_) (Step.out ?_))
        | (refine Cp.mk fun q hq => Step.out ?_)
        | (refine Ovl.mk (by assumption) (Step.out ?_))
        | (refine CallOK.ctF (g := 16) (Step.out ?_))
        | (refine CallOK.of_ct (Step.out ?_))
        | (refine CallQ.of_ct (Step.out ?_))
        | (refine Met.by (g := 16) (valid_ct _ (by assumption)) ?_; rintro q outs ⟨rfl, rfl⟩)
        | (refine Met.by (g := 30) (cloneS_ct _ (by omega)) ?_; rintro q outs ⟨rfl, rfl⟩)
        | (refine Vc.mk ?_ (Step.out ?_))
      all_goals first
        | exact ⟨rfl, fun _ _ => rfl⟩
        | exact app1 recF (0, 0, []) ite_rec (curAt l i) ((l.getD i Rw.z).id, (l.getD i Rw.z).ver, (l.getD i Rw.z).vals)
    · have s1 := s1 (by omega)
      have s2 := s2 (by omega)
      have hk : cur1 (l.getD i Rw.z) = true := by simp [-List.getD_eq_getElem?_getD, cur1, *]
      rw [if_pos hk] at s1
      rw [if_pos ⟨hk, h⟩] at s2
      refine Again.by (i + 1) ⟨by omega, by omega⟩ ?_
      rw [s1, s2]
      repeat' first
        | (refine Step.mk ?_; conv => whnf)
        | (refine Vc.om ?_ ?_; first | omega | with_reducible rfl | with_reducible exact same_rfl | (simp only [bytes_2, bytes_3, bytes_4, bytes_5, bytes_9, bytes_12, bytes_21, bytes_22, bytes_25, bytes_27, bytes_29, bytes_32, bytes_33, bytes_34, bytes_38, bytes_40, bytes_44, bytes_45, bytes_52, bytes_53, bytes_54, bytes_58, bytes_59, bytes_60, bytes_93, bytes_97, bytes_100, true_and, and_true] <;> omega))
        | (refine NilB.mk fun b hb => Step.out ?_)
        | with_reducible trivial
        | exact noSh_bool _
        | exact noSh_lit _
        | exact noSh_int _ _
        | exact noSh_str _
        | with_reducible rfl
        | with_reducible exact same_rfl
        | (refine Wr.i64 ?_ ?_; omega)
        | (refine Wr.u8 ?_ ?_; omega)
        | (refine Wr.i32 ?_ ?_; omega)
        | (with_reducible refine Br.tt ?_)
        | (with_reducible refine Br.ff ?_)
        | (refine Br.dT ?_ ?_; omega)
        | (refine Br.dF ?_ ?_; omega)
        | (refine Br.d (fun h => ?_) (fun h => ?_))
        | (refine Br.swap ?_)
        | (refine Br.bnot ?_)
        | (refine Br.mk (fun h => Step.out ?_) (fun h => Step.out ?_))
        | (refine Two.mk (Step.out ?_) (Step.out ?_))
        | (refine Cp.mk fun q hq => Step.out ?_)
        | (refine Ovl.mk (by assumption) (Step.out ?_))
        | (refine CallOK.ctF (g := 16) (Step.out ?_))
        | (refine CallOK.of_ct (Step.out ?_))
        | (refine CallQ.of_ct (Step.out ?_))
        | (refine Met.by (g := 16) (valid_ct _ (by assumption)) ?_; rintro q outs ⟨rfl, rfl⟩)
        | (refine Met.by (g := 30) (cloneS_ct _ (by omega)) ?_; rintro q outs ⟨rfl, rfl⟩)
        | (refine Vc.mk ?_ (Step.out ?_))
      all_goals first
        | exact ⟨rfl, fun _ _ => rfl⟩
        | exact app1 recF (0, 0, []) ite_rec (curAt l i) ((l.getD i Rw.z).id, (l.getD i Rw.z).ver, (l.getD i Rw.z).vals)
        | exact app1 (fun x : Int => [i64 x]) 0 (fun _ _ _ _ => rfl) (deadAt l i) _
    · have s1 := s1 (by omega)
      have s2 := s2 (by omega)
      have hk : ¬cur1 (l.getD i Rw.z) = true := by simp [-List.getD_eq_getElem?_getD, cur1, *]
      rw [if_neg hk] at s1
      rw [if_neg (fun h => hk h.1)] at s2
      refine Again.by (i + 1) ⟨by omega, by omega⟩ ?_
      rw [s1, s2]
      repeat' first
        | (refine Step.mk ?_; conv => whnf)
        | (refine Vc.om ?_ ?_; first | omega | with_reducible rfl | with_reducible exact same_rfl | (simp only [bytes_2, bytes_3, bytes_4, bytes_5, bytes_9, bytes_12, bytes_21, bytes_22, bytes_25, bytes_27, bytes_29, bytes_32, bytes_33, bytes_34, bytes_38, bytes_40, bytes_44, bytes_45, bytes_52, bytes_53, bytes_54, bytes_58, bytes_59, bytes_60, bytes_93, bytes_97, bytes_100, true_and, and_true] <;> omega))
        | (refine NilB.mk fun b hb => Step.out ?_)
        | with_reducible trivial
        | exact noSh_bool _
        | exact noSh_lit _
        | exact noSh_int _ _
        | exact noSh_str _
        | with_reducible rfl
        | with_reducible exact same_rfl
        | (refine Wr.i64 ?_ ?_; omega)
        | (refine Wr.u8 ?_ ?_; omega)
        | (refine Wr.i32 ?_ ?_; omega)
        | (with_reducible refine Br.tt ?_)
        | (with_reducible refine Br.ff ?_)
        | (refine Br.dT ?_ ?_; omega)
        | (refine Br.dF ?_ ?_; omega)
        | (refine Br.d (fun h => ?_) (fun h => ?_))
        | (refine Br.swap ?_)
        | (refine Br.bnot ?_)
        | (refine Br.mk (fun h => Step.out ?_) (fun h => Step.out ?_))
        | (refine Two.mk (Step.out ?_) (Step.out ?_))
        | (refine Cp.mk fun q hq => Step.out ?_)
        | (refine Ovl.mk (by assumption) (Step.out ?_))
        | (refine CallOK.ctF (g := 16) (Step.out ?_))
        | (refine CallOK.of_ct (Step.out ?_))
        | (refine CallQ.of_ct (Step.out ?_))
        | (refine Met.by (g := 16) (valid_ct _ (by assumption)) ?_; rintro q outs ⟨rfl, rfl⟩)
        | (refine Met.by (g := 30) (cloneS_ct _ (by omega)) ?_; rintro q outs ⟨rfl, rfl⟩)
        | (refine Vc.mk ?_ (Step.out ?_))
      all_goals exact ⟨rfl, fun _ _ => rfl⟩
    all_goals
      have e : i = l.length := by omega
      subst e
      simp only [curAt, deadAt, List.take_length, true_and, implies_true]
end Kx
