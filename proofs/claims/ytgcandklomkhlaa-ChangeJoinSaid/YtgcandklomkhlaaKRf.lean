/-
  fresh.Rows.
  No condition beyond those written in each theorem.
-/
import Derived.Test.YtgcandklomkhlaaKRe
open Go Sx Go.Proofs
set_option linter.unusedSimpArgs false
set_option linter.unusedVariables false
namespace Kx
def zRow : List D := [i64 0, i64 0, .nil, i64 0, i64 0, i64 0]
def part (l : List Rw) : Nat → Nat → List D
  | 0, _ => zRow
  | i + 1, j => iteL (j = i) (Rw.f (l.getD i Rw.z)) (part l i j)
def Shp (m : List D) : Prop := ∃ a b X c d e, m = [i64 a, i64 b, X, i64 c, i64 d, i64 e] ∧ (X = .nil ∨ ∃ n f, X = .tab 1 n f ∧ ∀ q, ∃ s, f q = [.str s])
theorem shp_z : Shp zRow := ⟨0, 0, .nil, 0, 0, 0, rfl, .inl rfl⟩
theorem shp_f (r : Rw) : Shp r.f := ⟨_, _, _, _, _, _, rfl, .inr ⟨_, _, rfl, fun q => ⟨_, rfl⟩⟩⟩
theorem ite_T {r : Rw} {m : List D} {c : Prop} [Decidable c] (hc : c) (h : Shp m) : iteL c r.f m = r.f := by
  obtain ⟨a, b, X, c', d, e, rfl, hX⟩ := h
  rcases hX with rfl | ⟨n, f, rfl, hf⟩
  · show [i64 (if c then _ else _), i64 (if c then _ else _), .tab 1 (if c then _ else 0) _, i64 (if c then _ else _), i64 (if c then _ else _), i64 (if c then _ else _)] = _
    simp only [if_pos hc]; rfl
  · show [i64 (if c then _ else _), i64 (if c then _ else _), .tab 1 (if c then _ else _) (fun q => iteL1 c [.str (r.vals.getD q [])] (f q)), i64 (if c then _ else _), i64 (if c then _ else _), i64 (if c then _ else _)] = _
    have : (fun q => iteL1 c [D.str (r.vals.getD q [])] (f q)) = fun q => [D.str (r.vals.getD q [])] := by
      funext q
      obtain ⟨s, hs⟩ := hf q
      rw [hs]
      show [D.str (if c then _ else _)] = _
      rw [if_pos hc]
    rw [this]
    simp only [if_pos hc]; rfl
theorem ite_F {r s : Rw} {c : Prop} [Decidable c] (hc : ¬c) : iteL c r.f s.f = s.f := by
  show [i64 (if c then _ else _), i64 (if c then _ else _), .tab 1 (if c then _ else _) (fun q => iteL1 c [.str (r.vals.getD q [])] [.str (s.vals.getD q [])]), i64 (if c then _ else _), i64 (if c then _ else _), i64 (if c then _ else _)] = _
  have : (fun q => iteL1 c [D.str (r.vals.getD q [])] [D.str (s.vals.getD q [])]) = fun q => [D.str (s.vals.getD q [])] := by
    funext q
    show [D.str (if c then _ else _)] = _
    rw [if_neg hc]
  rw [this]
  simp only [if_neg hc]; rfl
theorem shp_ite {r : Rw} {m : List D} {c : Prop} [Decidable c] (h : Shp m) : Shp (iteL c r.f m) := by
  obtain ⟨a, b, X, c', d, e, rfl, hX⟩ := h
  rcases hX with rfl | ⟨n, f, rfl, hf⟩
  · exact ⟨_, _, _, _, _, _, rfl, .inr ⟨_, _, rfl, fun q => ⟨_, rfl⟩⟩⟩
  · refine ⟨_, _, _, _, _, _, rfl, .inr ⟨_, _, rfl, fun q => ?_⟩⟩
    obtain ⟨s, hs⟩ := hf q
    show ∃ s, iteL1 c [.str (r.vals.getD q [])] (f q) = _
    rw [hs]
    exact ⟨_, rfl⟩
theorem part_shp (l : List Rw) : ∀ i j, Shp (part l i j)
  | 0, _ => shp_z
  | i + 1, j => shp_ite (part_shp l i j)
theorem part_eq (l : List Rw) : ∀ i j, j < i → part l i j = Rw.f (l.getD j Rw.z)
  | i + 1, j, h => by
    rw [part]
    by_cases e : j = i
    · subst e; exact ite_T rfl (part_shp l j j)
    · rw [part_eq l i j (by omega)]; exact ite_F e
end Kx
