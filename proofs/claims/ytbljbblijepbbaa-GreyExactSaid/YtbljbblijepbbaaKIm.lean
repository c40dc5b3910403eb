/-
  Data that may be read as other data, in contracts.
  No condition beyond those written in each theorem.
-/
import Derived.Test.YtbljbblijepbbaaKP
import Derived.Test.YtbljbblijepbbaaFD
open Go Sx Go.Proofs
set_option linter.unusedSimpArgs false
set_option linter.unusedVariables false
namespace Kx
/-! ### Data that may be read as other data -/
def Im (d d' : D) : Prop := ∀ (M : Mi) (v : Value), Rd M true d v → Rd M true d' v
def ImL (l l' : List D) : Prop := ∀ (M : Mi) (vs : List Value), RdL M true l vs → RdL M true l' vs
theorem Im.refl (d : D) : Im d d := fun _ _ h => h
theorem ImL.nil : ImL [] [] := fun _ _ h => h
theorem ImL.cons {d d' : D} {l l' : List D} (h : Im d d') (hl : ImL l l') : ImL (d :: l) (d' :: l') := fun M vs H => by
  cases vs with
  | nil => simp [RdL] at H
  | cons v vs =>
    simp only [RdL] at H ⊢
    exact ⟨H.1, h M v H.2.1, hl M vs H.2.2⟩
theorem ImL.refl (l : List D) : ImL l l := fun _ _ h => h
theorem Im.tab {sz n n' : Nat} {f f' : Nat → List D} (hn : n = n') (h : ∀ i, i < n → ImL (f i) (f' i)) : Im (.tab sz n f) (.tab sz n' f') := fun M v H => by
  subst hn
  simp only [Rd] at H ⊢
  obtain ⟨a, cap, rfl, hc, H⟩ := H
  refine ⟨a, cap, rfl, hc, fun i hi => ?_⟩
  obtain ⟨b, off, ha, hS, vs, hl, hc, hr⟩ := H i hi
  exact ⟨b, off, ha, hS, vs, hl, hc, h i hi M vs hr⟩
theorem Im.agg {l l' : List D} (h : ImL l l') : Im (.agg l) (.agg l') := fun M v H => by
  simp only [Rd] at H ⊢
  obtain ⟨cs, rfl, H⟩ := H
  exact ⟨cs, rfl, h M _ H⟩
theorem Im.nil (sz : Nat) (f : Nat → List D) : Im .nil (.tab sz 0 f) := fun M v H => Rd.nil_tab H sz f
def ImT : List D → List D → Prop
  | [], [] => True
  | d :: l, d' :: l' => Im d d' ∧ ImT l l'
  | _, _ => False
theorem ImT.rd {M : Mi} : ∀ {l l' : List D} {vs : List Value}, ImT l l' → RdT M true l vs → RdT M true l' vs
  | [], [], _, _, h => h
  | d :: l, d' :: l', v :: vs, hi, h => by
    simp only [RdT, ImT] at *
    exact ⟨hi.1 M v h.1, ImT.rd hi.2 h.2⟩
  | _ :: _, _ :: _, [], _, h => by simp [RdT] at h
  | [], _ :: _, _, hi, _ => by simp [ImT] at hi
  | _ :: _, [], _, hi, _ => by simp [ImT] at hi
mutual
def plD : D → Bool
  | .ftab .. => false
  | .fbox _ => false
  | .fmap _ => false
  | .agg l => plL l
  | .tup l => plL l
  | .fn _ l => plL l
  | _ => true
def plL : List D → Bool
  | [] => true
  | d :: l => plD d && plL l
end
mutual
theorem Od.pl {M : Mi} : ∀ (d : D) (v : Value) (F : List Nat), plD d = true → Od M d v F → Rd M true d v ∧ F = []
  | .ftab .., _, _, h, _ => by simp [plD] at h
  | .fbox _, _, _, h, _ => by simp [plD] at h
  | .fmap _, _, _, h, _ => by simp [plD] at h
  | .agg l, v, F, h, ho => by
    simp only [plD] at h
    simp only [Od] at ho
    obtain ⟨cs, rfl, ho⟩ := ho
    have := OdL.pl l cs.toList F h ho
    exact ⟨by simp only [Rd]; exact ⟨cs, rfl, this.1⟩, this.2⟩
  | .tup l, v, F, h, ho => by
    simp only [plD] at h
    simp only [Od] at ho
    obtain ⟨cs, rfl, ho⟩ := ho
    have := OdT.pl l cs.toList F h ho
    exact ⟨by simp only [Rd]; exact ⟨cs, rfl, this.1⟩, this.2⟩
  | .fn f l, v, F, h, ho => by
    simp only [plD] at h
    simp only [Od] at ho
    obtain ⟨cs, rfl, ho⟩ := ho
    have := OdL.pl l cs.toList F h ho
    exact ⟨by simp only [Rd]; exact ⟨cs, rfl, this.1⟩, this.2⟩
  | .any, v, F, _, h | .int .., v, F, _, h | .lit _, v, F, _, h | .bool _, v, F, _, h | .str _, v, F, _, h | .nil, v, F, _, h | .tab .., v, F, _, h | .vec .., v, F, _, h | .ref _, v, F, _, h | .null, v, F, _, h | .nilfn, v, F, _, h | .own _, v, F, _, h | .loc .., v, F, _, h | .pel .., v, F, _, h | .rsl .., v, F, _, h | .mref _, v, F, _, h | .mapb _, v, F, _, h => by
    simpa only [Od] using h
theorem OdL.pl {M : Mi} : ∀ (l : List D) (vs : List Value) (F : List Nat), plL l = true → OdL M l vs F → RdL M true l vs ∧ F = []
  | [], [], F, _, h => by simp only [OdL] at h; exact ⟨by simp [RdL], h⟩
  | d :: l, v :: vs, F, h, ho => by
    simp only [plL, Bool.and_eq_true] at h
    simp only [OdL] at ho
    obtain ⟨h0, F1, F2, rfl, h1, h2⟩ := ho
    have a := Od.pl d v F1 h.1 h1
    have b := OdL.pl l vs F2 h.2 h2
    exact ⟨by simp only [RdL]; exact ⟨h0, a.1, b.1⟩, by rw [a.2, b.2]; rfl⟩
  | [], _ :: _, _, _, h => by simp [OdL] at h
  | _ :: _, [], _, _, h => by simp [OdL] at h
theorem OdT.pl {M : Mi} : ∀ (l : List D) (vs : List Value) (F : List Nat), plL l = true → OdT M l vs F → RdT M true l vs ∧ F = []
  | [], [], F, _, h => by simp only [OdT] at h; exact ⟨by simp [RdT], h⟩
  | d :: l, v :: vs, F, h, ho => by
    simp only [plL, Bool.and_eq_true] at h
    simp only [OdT] at ho
    obtain ⟨F1, F2, rfl, h1, h2⟩ := ho
    have a := Od.pl d v F1 h.1 h1
    have b := OdT.pl l vs F2 h.2 h2
    exact ⟨by simp only [RdT]; exact ⟨a.1, b.1⟩, by rw [a.2, b.2]; rfl⟩
  | [], _ :: _, _, _, h => by simp [OdT] at h
  | _ :: _, [], _, _, h => by simp [OdT] at h
end
/-- A contract met with read-only data that may be read as its own. -/
theorem Ct.read {P : Program} {g : FuncId} {args args' : List D} {R : D → List D → Prop} (H : Ct P g args' R) (hp : plL args = true) (h : ImT args args') : Ct P g args R := by
  refine ⟨H.fn, fun w S0 vs F hS hod hnd hFS => ?_⟩
  obtain ⟨hr, rfl⟩ := OdT.pl args vs.toList F hp hod
  have hr' := h.rd hr
  refine (H.ok w S0 vs [] hS (OdT.of_rd _ _ hr') List.nodup_nil nofun).mono ?_
  rintro e w' ⟨v, r, outs, S', F', rfl, hR, hB, hO⟩
  rw [ioV_rd _ _ hr'] at hO
  exact ⟨v, r, outs, S', F', rfl, hR, hB, by rw [ioV_rd _ _ hr]; exact hO⟩
/-! ### Lists that are written out -/
theorem im_strs (l : List Str) : Im (.tab 1 l.length fun i => selC (l.map fun s => [D.str s]) i) (strs l) :=
  .tab rfl fun i hi => by
    have := selC_str l i hi
    rw [show selC (l.map fun s => [D.str s]) i = [.str (l.getD i [])] from this]
    exact ImL.refl _
theorem im_lit (b : Bool) : Im (.lit b) (.bool b) := fun _ _ h => h
theorem im_nil (sz : Nat) (f : Nat → List D) : Im .nil (.tab sz 0 f) := Im.nil sz f
end Kx
