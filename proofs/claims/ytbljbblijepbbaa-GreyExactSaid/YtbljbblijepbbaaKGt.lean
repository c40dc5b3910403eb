/-
  The law Exact over plain tuples.
  No condition beyond those written in each theorem.
-/
import Derived.Test.YtbljbblijepbbaaKGs
open Go Sx Go.Proofs
set_option linter.unusedSimpArgs false
set_option linter.unusedVariables false
namespace Kx
def toC (x : (Int × Int) × (Int × Int) × Int × Int) : Cd := ⟨⟨x.1.1, x.1.2⟩, ⟨x.2.1.1, x.2.1.2⟩, x.2.2.1, x.2.2.2⟩
def toE (x : (Int × Int) × (Int × Int) × Int × Int × Bool) : De := ⟨⟨x.1.1, x.1.2⟩, ⟨x.2.1.1, x.2.1.2⟩, x.2.2.1, x.2.2.2.1, x.2.2.2.2⟩
theorem map_get {α β : Type} (f : α → β) (l : List α) (z : α) (u : β) (i : Nat) (h : i < l.length) : (l.map f).getD i u = f (l.getD i z) := by
  simp [List.getD_eq_getElem?_getD, List.getElem?_map, List.getElem?_eq_getElem h]
theorem exactR_ct (y0 : List Int) (t : Int × Int) (raw : List ((Int × Int) × (Int × Int) × Int × Int)) (s : List ((Int × Int) × (Int × Int) × Int × Int × Bool)) (w : Int) (R : Int × Int) :
    Ct Try.prog 6 [ints y0, .agg [i64 t.1, i64 t.2], .tab 6 raw.length fun i => Cd.f (toC (raw.getD i default)), .tab 7 s.length fun i => De.f (toE (s.getD i default)), i64 w, .agg [i64 R.1, i64 R.2]] fun q _ => q = .bool true ∨ q = .lit true :=
  (exact_ct y0 ⟨t.1, t.2⟩ (raw.map toC) (s.map toE) w ⟨R.1, R.2⟩).arg ⟨rfl, ⟨rfl, fun _ _ => rfl⟩, ⟨rfl, rfl, trivial⟩,
    ⟨by simp, fun i hi => by
      have hi : i < raw.length := by simpa using hi
      show _ = Cd.f ((raw.map toC).getD i Cd.z)
      rw [map_get toC raw default Cd.z i hi]⟩,
    ⟨by simp, fun i hi => by
      have hi : i < s.length := by simpa using hi
      show _ = De.f ((s.map toE).getD i De.z)
      rw [map_get toE s default De.z i hi]⟩, rfl, ⟨rfl, rfl, trivial⟩, trivial⟩
end Kx
