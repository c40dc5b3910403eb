/-
  ChangeLatest: what the events say of a number, and where it stands among the current records.
  No condition beyond those written in each theorem.
-/
import Derived.Test.YtgcandklomkhlaaKRo
open Go Sx Go.Proofs
set_option linter.unusedSimpArgs false
set_option linter.unusedVariables false
namespace Kx
/-- What the events say of a number. -/
structure La where
  ver : Int
  val : Str
  sv : Int
  st : Int
  into : Int
def La.z : La := ⟨0, [], 0, 0, 0⟩
def La.reg (s : La) (e : Ev) : La := if s.ver < e.ver ∨ e.ver = s.ver ∧ Op.bytesLess s.val (e.vals.getD 0 []) = true then { s with ver := e.ver, val := e.vals.getD 0 [] } else s
def La.sta (s : La) (e : Ev) : La := if s.sv < e.ver ∨ e.ver = s.sv ∧ (s.st < e.st ∨ e.st = s.st ∧ s.into < e.into) then { s with sv := e.ver, st := e.st, into := e.into } else s
def La.step (s : La) (n : Int) (e : Ev) : La := if e.id = n ∧ e.chk = 0 then (if e.kind = 1 then s.reg e else s.sta e) else s
def Rel (s : La) (o : Option Cn) : Prop :=
  match o with
  | none => s = .z
  | some c => c = ((s.ver, if s.ver = 0 then [] else [s.val]), (s.sv, s.st, s.into)) ∧ (s.ver = 0 → s.val = []) ∧ 0 ≤ s.ver ∧ 0 ≤ s.sv ∧ (s.sv = 0 → s.st = 0 ∧ s.into = 0)
theorem cmpT_lt (a b : Int × Int × Int) : cmpT a b < 0 ↔ a.1 < b.1 ∨ b.1 = a.1 ∧ (a.2.1 < b.2.1 ∨ b.2.1 = a.2.1 ∧ a.2.2 < b.2.2) := by
  simp only [cmpT, cmp2, cmpI]
  by_cases h1 : a.1 < b.1
  · simp [h1]
  · by_cases h2 : b.1 < a.1
    · have : ¬b.1 = a.1 := by omega
      simp [h1, h2, this]
    · have e : b.1 = a.1 := by omega
      simp only [e, Int.lt_irrefl, if_false, gt_iff_lt, ne_eq, not_true, false_or, true_and]
      by_cases h3 : a.2.1 < b.2.1
      · simp [h3]
      · by_cases h4 : b.2.1 < a.2.1
        · have : ¬b.2.1 = a.2.1 := by omega
          simp [h3, h4, this]
        · have e : b.2.1 = a.2.1 := by omega
          simp only [e, Int.lt_irrefl, if_false, ne_eq, not_true, false_or, true_and]
          by_cases h5 : a.2.2 < b.2.2
          · simp [h5]
          · by_cases h6 : b.2.2 < a.2.2 <;> simp [h5, h6]
theorem cmpS_lt (a b : Str) : cmpS a b < 0 ↔ Op.bytesLess a b = true := by
  unfold cmpS
  cases h : Op.bytesLess a b
  · rw [cond_false]; split <;> simp
  · simp
theorem cmpC_lt1 (v w : Int) (s t : Str) : cmpC (v, [s]) (w, [t]) < 0 ↔ v < w ∨ w = v ∧ Op.bytesLess s t = true := by
  simp only [cmpC, cmp2, cmpI]
  by_cases h1 : v < w
  · simp [h1]
  · by_cases h2 : w < v
    · have : ¬w = v := by omega
      simp [h1, h2, this]
    · have e : w = v := by omega
      subst e
      simp only [Int.lt_irrefl, if_false, gt_iff_lt, ne_eq, not_true, false_or, true_and]
      rw [← cmpS_lt]
      simp only [cmpV, cmpL]
      split
      · rfl
      · rename_i h; have h := Classical.not_not.1 h; omega
theorem cmpC_gt0 (v : Int) (l : List Str) (h : 0 < v) : ¬cmpC (v, l) (0, []) < 0 := by
  simp only [cmpC, cmp2, cmpI]
  simp [h, show ¬v < 0 by omega]
theorem cmpC_00 : ¬cmpC (0, []) (0, []) < 0 := by decide
theorem cmpT_00 (a b c : Int) (h : 0 ≤ a) (h0 : a = 0 → b = 0 ∧ c = 0) : ¬cmpT (a, b, c) (0, 0, 0) < 0 := by
  rw [cmpT_lt]; simp only; omega
theorem one_val {e : Ev} (h : e.vals.length = 1) : e.vals = [e.vals.getD 0 []] := by
  match e.vals, h with
  | [x], _ => rfl
theorem chk_ver {e : Ev} (h : e.chk = 0) : 1 ≤ e.ver := by
  unfold Ev.chk at h
  split at h
  · rename_i h1; simp only [Bool.and_eq_true, decide_eq_true_eq] at h1; omega
  · cases h
theorem chk_kind {e : Ev} (h : e.chk = 0) : e.kind = 1 ∨ e.kind = 2 := by
  unfold Ev.chk at h
  split at h
  · split at h
    · rename_i h2; simp only [Ev.good, Bool.or_eq_true, Bool.and_eq_true, decide_eq_true_eq] at h2; omega
    · cases h
  · cases h
theorem rel_rec {s : La} {o : Option Cn} {e : Ev} (H : Rel s o) (hk : e.kind = 1) (hv : e.vals.length = 1) (h1 : 1 ≤ e.ver) : Rel (s.reg e) (cup o (some e.row.c)) := by
  have er : e.row.c = ((e.ver, [e.vals.getD 0 []]), (0, 0, 0)) := by
    rw [← one_val hv]; unfold Ev.row; rw [if_pos hk]; rfl
  rw [er]
  cases o with
  | none =>
    have H : s = .z := H
    subst H
    show Rel _ (some _)
    rw [La.reg, if_pos (.inl (by simp only [La.z]; omega))]
    refine ⟨?_, fun h => ?_, ?_, ?_, fun _ => ⟨rfl, rfl⟩⟩
    · simp [La.z, show ¬e.ver = 0 by omega]
    · have : e.ver = 0 := h
      omega
    · show 0 ≤ e.ver
      omega
    · exact Int.le_refl 0
  | some c =>
    obtain ⟨rfl, a1, a2, a3, a4⟩ := H
    show Rel _ (some (cmb _ _))
    have e2 : mx cmpT (s.sv, s.st, s.into) (0, 0, 0) = (s.sv, s.st, s.into) := by rw [mx, if_neg (cmpT_00 _ _ _ a3 a4)]
    simp only [cmb, e2]
    by_cases hz : s.ver = 0
    · have e1 : mx cmpC (s.ver, if s.ver = 0 then [] else [s.val]) (e.ver, [e.vals.getD 0 []]) = (e.ver, [e.vals.getD 0 []]) := by
        rw [mx, if_pos]
        simp only [cmpC, cmp2, cmpI]; simp [hz, show 0 < e.ver by omega]
      rw [e1, La.reg, if_pos (.inl (by omega))]
      refine ⟨by simp [show ¬e.ver = 0 by omega], fun h => ?_, ?_, a3, a4⟩
      · have : e.ver = 0 := h
        omega
      · show 0 ≤ e.ver
        omega
    · rw [if_neg hz]
      by_cases hc : s.ver < e.ver ∨ e.ver = s.ver ∧ Op.bytesLess s.val (e.vals.getD 0 []) = true
      · have e1 : mx cmpC (s.ver, [s.val]) (e.ver, [e.vals.getD 0 []]) = (e.ver, [e.vals.getD 0 []]) := by
          rw [mx, if_pos]; exact (cmpC_lt1 _ _ _ _).2 hc
        rw [e1, La.reg, if_pos hc]
        refine ⟨by simp [show ¬e.ver = 0 by omega], fun h => ?_, ?_, a3, a4⟩
        · have : e.ver = 0 := h
          omega
        · show 0 ≤ e.ver
          omega
      · have e1 : mx cmpC (s.ver, [s.val]) (e.ver, [e.vals.getD 0 []]) = (s.ver, [s.val]) := by
          rw [mx, if_neg]; exact fun h => hc ((cmpC_lt1 _ _ _ _).1 h)
        rw [e1, La.reg, if_neg hc]
        exact ⟨by rw [if_neg hz], a1, a2, a3, a4⟩
theorem rel_sta {s : La} {o : Option Cn} {e : Ev} (H : Rel s o) (hk : e.kind = 2) (h1 : 1 ≤ e.ver) : Rel (s.sta e) (cup o (some e.row.c)) := by
  have er : e.row.c = ((0, []), (e.ver, e.st, e.into)) := by
    unfold Ev.row; rw [if_neg (by omega)]; rfl
  rw [er]
  cases o with
  | none =>
    have H : s = .z := H
    subst H
    show Rel _ (some _)
    rw [La.sta, if_pos (.inl (by simp only [La.z]; omega))]
    refine ⟨by simp [La.z], fun _ => rfl, Int.le_refl 0, ?_, fun h => ?_⟩
    · show 0 ≤ e.ver
      omega
    · have : e.ver = 0 := h
      omega
  | some c =>
    obtain ⟨rfl, a1, a2, a3, a4⟩ := H
    show Rel _ (some (cmb _ _))
    have e1 : mx cmpC (s.ver, if s.ver = 0 then [] else [s.val]) (0, []) = (s.ver, if s.ver = 0 then [] else [s.val]) := by
      rw [mx, if_neg]
      by_cases hz : s.ver = 0
      · rw [if_pos hz, hz]; exact cmpC_00
      · exact cmpC_gt0 _ _ (by omega)
    simp only [cmb, e1]
    by_cases hc : s.sv < e.ver ∨ e.ver = s.sv ∧ (s.st < e.st ∨ e.st = s.st ∧ s.into < e.into)
    · rw [mx, if_pos ((cmpT_lt _ _).2 hc), La.sta, if_pos hc]
      refine ⟨rfl, a1, a2, ?_, fun h => ?_⟩
      · show 0 ≤ e.ver
        omega
      · have : e.ver = 0 := h
        omega
    · rw [mx, if_neg (fun h => hc ((cmpT_lt _ _).1 h)), La.sta, if_neg hc]
      exact ⟨rfl, a1, a2, a3, a4⟩
def rowsAt (l : List Ev) (i : Nat) : List Rw := puts [] (goods (l.take i))
theorem rowsAt_asc (l : List Ev) (i : Nat) : AscR (rowsAt l i) := puts_asc _ asc_nil
theorem rowsAt_step (l : List Ev) (i : Nat) (h : i < l.length) : rowsAt l (i + 1) = if (l.getD i Ev.z).chk = 0 then ins (rowsAt l i) (l.getD i Ev.z).row else rowsAt l i := by
  rw [rowsAt, take_s l i Ev.z h, goods, List.filter_append, List.map_append, puts, List.foldl_append]
  by_cases hc : (l.getD i Ev.z).chk = 0
  · rw [if_pos hc, List.filter_cons, if_pos (by simpa using hc)]; rfl
  · rw [if_neg hc, List.filter_cons, if_neg (by simpa using hc)]; rfl
theorem row_id (e : Ev) : e.row.id = e.id := by unfold Ev.row; split <;> rfl
theorem rel_step {s : La} {n : Int} {l : List Ev} {i : Nat} (h : i < l.length) (H : Rel s (get (rowsAt l i) n))
    (hv : (l.getD i Ev.z).id = n → (l.getD i Ev.z).chk = 0 → (l.getD i Ev.z).kind = 1 → (l.getD i Ev.z).vals.length = 1) : Rel (s.step n (l.getD i Ev.z)) (get (rowsAt l (i + 1)) n) := by
  rw [rowsAt_step l i h]
  by_cases hc : (l.getD i Ev.z).chk = 0
  · rw [if_pos hc, get_ins _ _ (rowsAt_asc l i), row_id]
    by_cases hi : (l.getD i Ev.z).id = n
    · rw [La.step, if_pos ⟨hi, hc⟩, if_pos hi.symm]
      by_cases hk : (l.getD i Ev.z).kind = 1
      · rw [if_pos hk]; exact rel_rec H hk (hv hi hc hk) (chk_ver hc)
      · rw [if_neg hk]; exact rel_sta H ((chk_kind hc).resolve_left hk) (chk_ver hc)
    · rw [La.step, if_neg (fun h => hi h.1), if_neg (fun h => hi h.symm)]; exact H
  · rw [if_neg hc, La.step, if_neg (fun h => hc h.2)]; exact H
/-! ### Where a number stands -/
theorem posR_succ : ∀ {l : List Rw} (n : Int), AscR l → posR l (n + 1) = if foundR l n = true then posR l n + 1 else posR l n
  | [], n, _ => by simp [posR, foundR]
  | x :: l, n, h => by
    have h' := List.pairwise_cons.1 h
    have ih := posR_succ n h'.2
    by_cases hx : x.id < n
    · have e1 : posR (x :: l) (n + 1) = posR l (n + 1) + 1 := by rw [posR, if_pos (by omega)]
      have e2 : posR (x :: l) n = posR l n + 1 := by rw [posR, if_pos hx]
      have e3 : foundR (x :: l) n = foundR l n := by simp [foundR, e2]
      rw [e1, e2, e3, ih]; split <;> rfl
    · have e2 : posR (x :: l) n = 0 := by rw [posR, if_neg hx]
      have e3 : foundR (x :: l) n = decide (x.id = n) := by simp [foundR, e2]
      rw [e2, e3]
      by_cases hn : x.id = n
      · have e4 : posR l (n + 1) = 0 := by
          cases l with
          | nil => rfl
          | cons y l =>
            have := h'.1 y (by simp)
            rw [posR, if_neg (by omega)]
        rw [posR, if_pos (by omega), e4]; simp [hn]
      · rw [posR, if_neg (by omega)]; simp [hn]
theorem get_pos : ∀ {l : List Rw} (n : Int), AscR l → get l n = if foundR l n = true then some (l.getD (posR l n) Rw.z).c else none
  | [], n, _ => by simp [get, foundR]
  | x :: l, n, h => by
    have h' := List.pairwise_cons.1 h
    have ih := get_pos n h'.2
    by_cases hx : x.id < n
    · have e2 : posR (x :: l) n = posR l n + 1 := by rw [posR, if_pos hx]
      have e3 : foundR (x :: l) n = foundR l n := by simp [foundR, e2]
      rw [get, if_neg (by omega), ih, e2, e3]; rfl
    · have e2 : posR (x :: l) n = 0 := by rw [posR, if_neg hx]
      have e3 : foundR (x :: l) n = decide (x.id = n) := by simp [foundR, e2]
      rw [e2, e3]
      by_cases hn : x.id = n
      · rw [get, if_pos hn]; simp [hn]
      · rw [get, if_neg hn, get_lt]
        · simp [hn]
        · intro y hy
          have := h'.1 y hy; omega
def optF (p : Cn → Bool) : Option Cn → Option Cn
  | none => none
  | some c => if p c = true then some c else none
theorem get_filter (p : Cn → Bool) : ∀ {l : List Rw} (n : Int), AscR l → get (l.filter fun r => p r.c) n = optF p (get l n)
  | [], _, _ => rfl
  | x :: l, n, h => by
    have h' := List.pairwise_cons.1 h
    have ih := get_filter p n h'.2
    rw [List.filter_cons, get]
    by_cases hx : p x.c = true
    · rw [if_pos hx, get, ih]
      by_cases hn : x.id = n
      · rw [if_pos hn, if_pos hn]; simp [optF, hx]
      · rw [if_neg hn, if_neg hn]
    · rw [if_neg hx, ih]
      by_cases hn : x.id = n
      · rw [if_pos hn, get_lt (n := n)]
        · simp [optF, hx]
        · intro y hy
          have := h'.1 y hy; omega
      · rw [if_neg hn]
theorem asc_filter {l : List Rw} (p : Rw → Bool) (h : AscR l) : AscR (l.filter p) := List.Pairwise.filter p h
end Kx
