/-
  Codes of sound: the reference's functions; keys.
  No condition beyond those written in each theorem.
-/
import Derived.Test.YtlachocloaeejaaKPh
open Go Sx Go.Proofs
set_option linter.unusedSimpArgs false
set_option linter.unusedVariables false
namespace Kx
def rdig (x : UInt8) : UInt8 := if dig x = 32 then 0 else if dig x = 45 then 1 else dig x
def rtab : List Str := [[98,102,112,118],[99,103,106,107,113,115,120,122],[100,116],[108],[109,110],[114]]
def abc : Str := [97,98,99,100,101,102,103,104,105,106,107,108,109,110,111,112,113,114,115,116,117,118,119,120,121,122]
theorem abc_get : ∀ j, j < 26 → abc.getD j 0 = UInt8.ofNat (97 + j) := by decide
theorem let_abc {x : UInt8} (h : isLet x = true) : x ∈ abc := by
  obtain ⟨h1, h2⟩ := let_in h
  have h3 := abc_get (x.toNat - 97) (by omega)
  have : x = UInt8.ofNat (97 + (x.toNat - 97)) := UInt8.toNat_inj.1 (by rw [UInt8.toNat_ofNat']; omega)
  rw [this, ← h3]
  exact getD_in (by show x.toNat - 97 < 26; omega)
theorem rtab_in : ∀ i, i < 6 → ∀ x ∈ rtab.getD i [], rdig x = UInt8.ofNat (49 + i) := by decide
theorem rtab_out : ∀ x ∈ abc, (∀ i, i < 6 → x ∉ rtab.getD i []) → x ≠ 104 → x ≠ 119 → rdig x = 0 := by decide
theorem rdig_hw : rdig 104 = 1 ∧ rdig 119 = 1 := by decide
theorem rtab_len : ∀ i, i < 6 → (rtab.getD i []).length ≤ 8 := by decide
theorem rdig_small {i : Nat} (h : i < 6) : ((UInt8.ofNat (49 + i)).toNat : Int) = 49 + i := by rw [UInt8.toNat_ofNat']; omega
theorem getD_not {l : Str} {x : UInt8} (h : ∀ q, q < l.length → l.getD q 0 ≠ x) : x ∉ l := fun hx => by
  obtain ⟨q, hq, e⟩ := List.mem_iff_getElem.1 hx
  exact h q hq (by rw [List.getD_eq_getElem?_getD, List.getElem?_eq_getElem hq]; exact e)
theorem rdigit_ct (x : UInt8) (h : isLet x = true) : Ct Try.prog 30 [u8 x.toNat] fun r outs => r = u8 (rdig x).toNat ∧ outs = [] := by
  refine .det (.of_W (fn := Try.f30) hΓ hm (by rfl) [] [] (by kernel_rfl) (Step.out ?_))
  repeat' first
    | (refine Step.mk ?_; conv => whnf)
    | (refine Vc.om ?_ ?_; first | omega | with_reducible rfl | with_reducible exact ⟨rfl, fun _ _ => rfl⟩ | (simp only [bytes_2, bytes_3, bytes_4, bytes_5, bytes_9, bytes_12, bytes_21, bytes_22, bytes_26, bytes_29, bytes_35, bytes_36, bytes_37, bytes_40, bytes_46, bytes_50, bytes_51, bytes_52, bytes_59, bytes_63, bytes_66]; omega))
    | (refine NilB.mk fun b hb => Step.out ?_)
    | with_reducible trivial
    | exact noSh_bool _
    | exact noSh_lit _
    | exact noSh_int _ _
    | exact noSh_str _
    | with_reducible rfl
    | with_reducible exact ⟨rfl, fun _ _ => rfl⟩
    | (refine Wr.i64 ?_ ?_; omega)
    | (refine Wr.u8 ?_ ?_; omega)
    | (refine Wr.i32 ?_ ?_; omega)
    | (with_reducible refine Br.tt ?_)
    | (with_reducible refine Br.ff ?_)
    | (refine Br.dT ?_ ?_; omega)
    | (refine Br.dF ?_ ?_; omega)
    | (refine Br.d (fun h => ?_) (fun h => ?_))
    | (refine Br.swap ?_)
    | (refine Br.bnot ?_)
    | (refine Br.mk (fun h => Step.out ?_) (fun h => Step.out ?_))
    | (refine Two.mk (Step.out ?_) (Step.out ?_))
    | (refine CallOK.of_ct (Step.out ?_))
    | (refine Vc.mk ?_ (Step.out ?_))
  · have e := u8_eq (x := x) (n := 104) (by decide) ‹_›
    rw [e]; rfl
  · have e := u8_eq (x := x) (n := 119) (by decide) ‹_›
    rw [e]; rfl
  · have n1 : x ≠ 104 := u8_ne (y := 104) ‹_›
    have n2 : x ≠ 119 := u8_ne (y := 119) ‹_›
    refine CodeOK.loopW hΓ hm [] [] (by kernel_rfl) (α := Nat) (fun i => [(0, u8 x.toNat), (3, .own 0), (4, i64 i)]) (fun i => [(0, .arr 9 1 6 fun i => [.str (rtab.getD i [])])]) 1 (fun i => i ≤ 6 ∧ ∀ j, j < i → x ∉ rtab.getD j []) (fun i => 6 - i) ?_ ?_
    · refine Again.by 0 ⟨Nat.zero_le _, fun j hj => absurd hj (Nat.not_lt_zero j)⟩ ?_
      repeat' first
        | (exact ⟨rfl, selC_str rtab⟩)
        | (refine Step.mk ?_; conv => whnf)
        | (refine Vc.om ?_ ?_; first | omega | with_reducible rfl | with_reducible exact ⟨rfl, fun _ _ => rfl⟩ | (simp only [bytes_2, bytes_3, bytes_4, bytes_5, bytes_9, bytes_12, bytes_21, bytes_22, bytes_26, bytes_29, bytes_35, bytes_36, bytes_37, bytes_40, bytes_46, bytes_50, bytes_51, bytes_52, bytes_59, bytes_63, bytes_66]; omega))
        | (refine NilB.mk fun b hb => Step.out ?_)
        | with_reducible trivial
        | exact noSh_bool _
        | exact noSh_lit _
        | exact noSh_int _ _
        | exact noSh_str _
        | with_reducible rfl
        | with_reducible exact ⟨rfl, fun _ _ => rfl⟩
        | (refine Wr.i64 ?_ ?_; omega)
        | (refine Wr.u8 ?_ ?_; omega)
        | (refine Wr.i32 ?_ ?_; omega)
        | (with_reducible refine Br.tt ?_)
        | (with_reducible refine Br.ff ?_)
        | (refine Br.dT ?_ ?_; omega)
        | (refine Br.dF ?_ ?_; omega)
        | (refine Br.d (fun h => ?_) (fun h => ?_))
        | (refine Br.swap ?_)
        | (refine Br.bnot ?_)
        | (refine Br.mk (fun h => Step.out ?_) (fun h => Step.out ?_))
        | (refine Two.mk (Step.out ?_) (Step.out ?_))
        | (refine CallOK.of_ct (Step.out ?_))
        | (refine Vc.mk ?_ (Step.out ?_))
    · intro i ⟨hi, hv⟩
      repeat' first
        | (refine Step.mk ?_; conv => whnf)
        | (refine Vc.om ?_ ?_; first | omega | with_reducible rfl | with_reducible exact ⟨rfl, fun _ _ => rfl⟩ | (simp only [bytes_2, bytes_3, bytes_4, bytes_5, bytes_9, bytes_12, bytes_21, bytes_22, bytes_26, bytes_29, bytes_35, bytes_36, bytes_37, bytes_40, bytes_46, bytes_50, bytes_51, bytes_52, bytes_59, bytes_63, bytes_66]; omega))
        | (refine NilB.mk fun b hb => Step.out ?_)
        | with_reducible trivial
        | exact noSh_bool _
        | exact noSh_lit _
        | exact noSh_int _ _
        | exact noSh_str _
        | with_reducible rfl
        | with_reducible exact ⟨rfl, fun _ _ => rfl⟩
        | (refine Wr.i64 ?_ ?_; omega)
        | (refine Wr.u8 ?_ ?_; omega)
        | (refine Wr.i32 ?_ ?_; omega)
        | (with_reducible refine Br.tt ?_)
        | (with_reducible refine Br.ff ?_)
        | (refine Br.dT ?_ ?_; omega)
        | (refine Br.dF ?_ ?_; omega)
        | (refine Br.d (fun h => ?_) (fun h => ?_))
        | (refine Br.swap ?_)
        | (refine Br.bnot ?_)
        | (refine Br.mk (fun h => Step.out ?_) (fun h => Step.out ?_))
        | (refine Two.mk (Step.out ?_) (Step.out ?_))
        | (refine CallOK.of_ct (Step.out ?_))
        | (refine Vc.mk ?_ (Step.out ?_))
      · have hlen := rtab_len i (by omega)
        refine CodeOK.loopW hΓ hm [] [] (by kernel_rfl) (α := Nat) (fun k => [(0, u8 x.toNat), (3, .own 0), (4, i64 i), (5, i64 k)]) (fun k => [(0, .arr 9 1 6 fun i => [.str (rtab.getD i [])])]) 1 (fun k => k ≤ (rtab.getD i []).length ∧ ∀ q, q < k → (rtab.getD i []).getD q 0 ≠ x) (fun k => (rtab.getD i []).length - k) ?_ ?_
        · refine Again.by 0 ⟨Nat.zero_le _, fun j hj => absurd hj (Nat.not_lt_zero j)⟩ ?_
          repeat' first
            | (refine Step.mk ?_; conv => whnf)
            | (refine Vc.om ?_ ?_; first | omega | with_reducible rfl | with_reducible exact ⟨rfl, fun _ _ => rfl⟩ | (simp only [bytes_2, bytes_3, bytes_4, bytes_5, bytes_9, bytes_12, bytes_21, bytes_22, bytes_26, bytes_29, bytes_35, bytes_36, bytes_37, bytes_40, bytes_46, bytes_50, bytes_51, bytes_52, bytes_59, bytes_63, bytes_66]; omega))
            | (refine NilB.mk fun b hb => Step.out ?_)
            | with_reducible trivial
            | exact noSh_bool _
            | exact noSh_lit _
            | exact noSh_int _ _
            | exact noSh_str _
            | with_reducible rfl
            | with_reducible exact ⟨rfl, fun _ _ => rfl⟩
            | (refine Wr.i64 ?_ ?_; omega)
            | (refine Wr.u8 ?_ ?_; omega)
            | (refine Wr.i32 ?_ ?_; omega)
            | (with_reducible refine Br.tt ?_)
            | (with_reducible refine Br.ff ?_)
            | (refine Br.dT ?_ ?_; omega)
            | (refine Br.dF ?_ ?_; omega)
            | (refine Br.d (fun h => ?_) (fun h => ?_))
            | (refine Br.swap ?_)
            | (refine Br.bnot ?_)
            | (refine Br.mk (fun h => Step.out ?_) (fun h => Step.out ?_))
            | (refine Two.mk (Step.out ?_) (Step.out ?_))
            | (refine CallOK.of_ct (Step.out ?_))
            | (refine Vc.mk ?_ (Step.out ?_))
        · intro k ⟨hk, hw⟩
          repeat' first
            | (refine Step.mk ?_; conv => whnf)
            | (refine Vc.om ?_ ?_; first | omega | with_reducible rfl | with_reducible exact ⟨rfl, fun _ _ => rfl⟩ | (simp only [bytes_2, bytes_3, bytes_4, bytes_5, bytes_9, bytes_12, bytes_21, bytes_22, bytes_26, bytes_29, bytes_35, bytes_36, bytes_37, bytes_40, bytes_46, bytes_50, bytes_51, bytes_52, bytes_59, bytes_63, bytes_66]; omega))
            | (refine NilB.mk fun b hb => Step.out ?_)
            | with_reducible trivial
            | exact noSh_bool _
            | exact noSh_lit _
            | exact noSh_int _ _
            | exact noSh_str _
            | with_reducible rfl
            | with_reducible exact ⟨rfl, fun _ _ => rfl⟩
            | (refine Wr.i64 ?_ ?_; omega)
            | (refine Wr.u8 ?_ ?_; omega)
            | (refine Wr.i32 ?_ ?_; omega)
            | (with_reducible refine Br.tt ?_)
            | (with_reducible refine Br.ff ?_)
            | (refine Br.dT ?_ ?_; omega)
            | (refine Br.dF ?_ ?_; omega)
            | (refine Br.d (fun h => ?_) (fun h => ?_))
            | (refine Br.swap ?_)
            | (refine Br.bnot ?_)
            | (refine Br.mk (fun h => Step.out ?_) (fun h => Step.out ?_))
            | (refine Two.mk (Step.out ?_) (Step.out ?_))
            | (refine CallOK.of_ct (Step.out ?_))
            | (refine Vc.mk ?_ (Step.out ?_))
          all_goals try simp only [Int.toNat_natCast] at *
          · have e : (rtab.getD i []).getD k 0 = x := UInt8.toNat_inj.1 (by omega)
            rw [rtab_in i (by omega) x (e ▸ getD_in (by omega)), rdig_small (by omega)]
          · refine Again.by (k + 1) ⟨⟨by omega, fun q hq => ?_⟩, by omega⟩ ?_
            · rcases Nat.lt_or_ge q k with h1 | h1
              · exact hw q h1
              · rw [show q = k by omega]; exact u8_ne ‹_›
            · repeat' first
                | (refine Step.mk ?_; conv => whnf)
                | (refine Vc.om ?_ ?_; first | omega | with_reducible rfl | with_reducible exact ⟨rfl, fun _ _ => rfl⟩ | (simp only [bytes_2, bytes_3, bytes_4, bytes_5, bytes_9, bytes_12, bytes_21, bytes_22, bytes_26, bytes_29, bytes_35, bytes_36, bytes_37, bytes_40, bytes_46, bytes_50, bytes_51, bytes_52, bytes_59, bytes_63, bytes_66]; omega))
                | (refine NilB.mk fun b hb => Step.out ?_)
                | with_reducible trivial
                | exact noSh_bool _
                | exact noSh_lit _
                | exact noSh_int _ _
                | exact noSh_str _
                | with_reducible rfl
                | with_reducible exact ⟨rfl, fun _ _ => rfl⟩
                | (refine Wr.i64 ?_ ?_; omega)
                | (refine Wr.u8 ?_ ?_; omega)
                | (refine Wr.i32 ?_ ?_; omega)
                | (with_reducible refine Br.tt ?_)
                | (with_reducible refine Br.ff ?_)
                | (refine Br.dT ?_ ?_; omega)
                | (refine Br.dF ?_ ?_; omega)
                | (refine Br.d (fun h => ?_) (fun h => ?_))
                | (refine Br.swap ?_)
                | (refine Br.bnot ?_)
                | (refine Br.mk (fun h => Step.out ?_) (fun h => Step.out ?_))
                | (refine Two.mk (Step.out ?_) (Step.out ?_))
                | (refine CallOK.of_ct (Step.out ?_))
                | (refine Vc.mk ?_ (Step.out ?_))
          · have hno : x ∉ rtab.getD i [] := getD_not fun q hq => hw q (by omega)
            refine Again.by (i + 1) ⟨⟨by omega, fun q hq => ?_⟩, by omega⟩ ?_
            · rcases Nat.lt_or_ge q i with h1 | h1
              · exact hv q h1
              · rw [show q = i by omega]; exact hno
            · repeat' first
                | (refine Step.mk ?_; conv => whnf)
                | (refine Vc.om ?_ ?_; first | omega | with_reducible rfl | with_reducible exact ⟨rfl, fun _ _ => rfl⟩ | (simp only [bytes_2, bytes_3, bytes_4, bytes_5, bytes_9, bytes_12, bytes_21, bytes_22, bytes_26, bytes_29, bytes_35, bytes_36, bytes_37, bytes_40, bytes_46, bytes_50, bytes_51, bytes_52, bytes_59, bytes_63, bytes_66]; omega))
                | (refine NilB.mk fun b hb => Step.out ?_)
                | with_reducible trivial
                | exact noSh_bool _
                | exact noSh_lit _
                | exact noSh_int _ _
                | exact noSh_str _
                | with_reducible rfl
                | with_reducible exact ⟨rfl, fun _ _ => rfl⟩
                | (refine Wr.i64 ?_ ?_; omega)
                | (refine Wr.u8 ?_ ?_; omega)
                | (refine Wr.i32 ?_ ?_; omega)
                | (with_reducible refine Br.tt ?_)
                | (with_reducible refine Br.ff ?_)
                | (refine Br.dT ?_ ?_; omega)
                | (refine Br.dF ?_ ?_; omega)
                | (refine Br.d (fun h => ?_) (fun h => ?_))
                | (refine Br.swap ?_)
                | (refine Br.bnot ?_)
                | (refine Br.mk (fun h => Step.out ?_) (fun h => Step.out ?_))
                | (refine Two.mk (Step.out ?_) (Step.out ?_))
                | (refine CallOK.of_ct (Step.out ?_))
                | (refine Vc.mk ?_ (Step.out ?_))
      · rw [rtab_out x (let_abc ‹_›) (fun j hj => hv j (by omega)) n1 n2]; rfl
/-- The reference's last digit, for the program's. -/
def rmap (d : UInt8) : UInt8 := if d = 32 then 0 else if d = 45 then 1 else d
theorem rdig_map : ∀ x : UInt8, rdig x = rmap (dig x) := fun _ => rfl
theorem dig_big : ∀ x ∈ abc, dig x ≠ 32 → dig x ≠ 45 → 49 ≤ (dig x).toNat := by decide
def Dg (d : UInt8) : Prop := d = 32 ∨ d = 45 ∨ 49 ≤ d.toNat
theorem dg_dig {x : UInt8} (h : isLet x = true) : Dg (dig x) := by
  by_cases h1 : dig x = 32
  · exact .inl h1
  · by_cases h2 : dig x = 45
    · exact .inr (.inl h2)
    · exact .inr (.inr (dig_big x (let_abc h) h1 h2))
theorem rmap_T {d : UInt8} (h1 : d ≠ 32) (h2 : d ≠ 45) : rmap d = d := by rw [rmap, if_neg h1, if_neg h2]
theorem dg_1 {d : UInt8} (h : Dg d) (e : ((rmap d).toNat : Int) = 1) : (d.toNat : Int) = 45 := by
  rcases h with rfl | rfl | h
  · exact absurd e (by decide)
  · rfl
  · rw [rmap_T (fun k => by rw [k] at h; exact absurd h (by decide)) (fun k => by rw [k] at h; exact absurd h (by decide))] at e; omega
theorem dg_n1 {d : UInt8} (h : Dg d) (e : ¬((rmap d).toNat : Int) = 1) : ¬(d.toNat : Int) = 45 := fun k => by
  have := u8_eq (n := 45) (by decide) k
  subst this; exact e rfl
theorem dg_0 {d : UInt8} (h : Dg d) (e : ¬((rmap d).toNat : Int) = 1) (g : ¬(1 : Int) < (rmap d).toNat) : (d.toNat : Int) = 32 := by
  rcases h with rfl | rfl | h
  · rfl
  · exact absurd rfl e
  · rw [rmap_T (fun k => by rw [k] at h; exact absurd h (by decide)) (fun k => by rw [k] at h; exact absurd h (by decide))] at g; omega
theorem dg_n0 {d : UInt8} (g : (1 : Int) < (rmap d).toNat) : ¬(d.toNat : Int) = 32 := fun k => by
  have := u8_eq (n := 32) (by decide) k
  subst this; exact absurd g (by decide)
theorem dg_n45 {d : UInt8} (g : (1 : Int) < (rmap d).toNat) : ¬(d.toNat : Int) = 45 := fun k => by
  have := u8_eq (n := 45) (by decide) k
  subst this; exact absurd g (by decide)
theorem dg_eq {d e : UInt8} (hd : ¬(d.toNat : Int) = 32) (hd' : ¬(d.toNat : Int) = 45) (he : Dg e) (h : Dg d) (g : ((rmap d).toNat : Int) = (rmap e).toNat) : (d.toNat : Int) = e.toNat := by
  have h1 : d ≠ 32 := u8_ne (y := 32) hd
  have h2 : d ≠ 45 := u8_ne (y := 45) hd'
  rw [rmap_T h1 h2] at g
  have h3 : 49 ≤ d.toNat := (h.resolve_left h1).resolve_left h2
  rcases he with rfl | rfl | h4
  · exact absurd g (by have : (rmap 32).toNat = 0 := rfl; omega)
  · exact absurd g (by have : (rmap 45).toNat = 1 := rfl; omega)
  · rw [rmap_T (fun k => by rw [k] at h4; exact absurd h4 (by decide)) (fun k => by rw [k] at h4; exact absurd h4 (by decide))] at g; exact g
theorem dg_neq {d e : UInt8} (g : ¬((rmap d).toNat : Int) = (rmap e).toNat) : ¬(d.toNat : Int) = e.toNat := fun k => g (by rw [UInt8.toNat_inj.1 (by omega : d.toNat = e.toNat)])
theorem rsoundex_ct (s : Str) (hs : s.length ≤ 1000000000) : Ct Try.prog 16 [.str s] fun r outs => r = .str (sdx s) ∧ outs = [] := by
  cases hr : rightB s
  · refine .det (.of_W (fn := Try.f16) hΓ hm (by rfl) [] [] (by kernel_rfl) (Step.out ?_))
    repeat' first
      | (refine Step.mk ?_; conv => whnf)
      | (refine Vc.om ?_ ?_; first | omega | with_reducible rfl | with_reducible exact ⟨rfl, fun _ _ => rfl⟩ | (simp only [bytes_2, bytes_3, bytes_4, bytes_5, bytes_9, bytes_12, bytes_21, bytes_22, bytes_26, bytes_29, bytes_35, bytes_36, bytes_37, bytes_40, bytes_46, bytes_50, bytes_51, bytes_52, bytes_59, bytes_63, bytes_66]; omega))
      | (refine NilB.mk fun b hb => Step.out ?_)
      | with_reducible trivial
      | exact noSh_bool _
      | exact noSh_lit _
      | exact noSh_int _ _
      | exact noSh_str _
      | with_reducible rfl
      | with_reducible exact ⟨rfl, fun _ _ => rfl⟩
      | (refine Wr.i64 ?_ ?_; omega)
      | (refine Wr.u8 ?_ ?_; omega)
      | (refine Wr.i32 ?_ ?_; omega)
      | (with_reducible refine Br.tt ?_)
      | (with_reducible refine Br.ff ?_)
      | (refine Br.dT ?_ ?_; omega)
      | (refine Br.dF ?_ ?_; omega)
      | (refine Met.by (rright_is s hs _ hr) ?_; rintro q outs ⟨rfl, rfl⟩)
      | (refine Br.d (fun h => ?_) (fun h => ?_))
      | (refine Br.swap ?_)
      | (refine Br.bnot ?_)
      | (refine Br.mk (fun h => Step.out ?_) (fun h => Step.out ?_))
      | (refine Two.mk (Step.out ?_) (Step.out ?_))
      | (refine CallOK.of_ct (Step.out ?_))
      | (refine Met.by (g := 29) (rright_ct _ (by first | omega | decide | (simp; done) | (simp; omega))) ?_; rintro q outs ⟨rfl, rfl⟩)
      | (refine Vc.mk ?_ (Step.out ?_))
    all_goals first
      | trivial
      | exact hb h
      | with_reducible rfl
      | with_reducible exact ⟨rfl, fun _ _ => rfl⟩
      | omega
      | ((rw [sdx, hr]; rfl))
  obtain ⟨h0, h1, h2⟩ := right_of hr
  have hp : 1 ≤ s.length := List.length_pos_iff.2 h0
  have hl : ∀ i, i < s.length → isLet (s.getD i 0) = true := fun i hi => h2 _ (getD_in hi)
  have hx : sdx s = pad4 (sdxL [s.getD 0 0] (dig (s.getD 0 0)) (s.drop 1)) := by rw [sdx, if_pos hr]
  have hc : (s.take 1) = [s.getD 0 0] := cut_step s 0 0 hp
  refine .det (.of_W (fn := Try.f16) hΓ hm (by rfl) [] [] (by kernel_rfl) (Step.out ?_))
  repeat' first
    | (refine Step.mk ?_; conv => whnf)
    | (refine Vc.om ?_ ?_; first | omega | with_reducible rfl | with_reducible exact ⟨rfl, fun _ _ => rfl⟩ | (simp only [bytes_2, bytes_3, bytes_4, bytes_5, bytes_9, bytes_12, bytes_21, bytes_22, bytes_26, bytes_29, bytes_35, bytes_36, bytes_37, bytes_40, bytes_46, bytes_50, bytes_51, bytes_52, bytes_59, bytes_63, bytes_66]; omega))
    | (refine NilB.mk fun b hb => Step.out ?_)
    | with_reducible trivial
    | exact noSh_bool _
    | exact noSh_lit _
    | exact noSh_int _ _
    | exact noSh_str _
    | with_reducible rfl
    | with_reducible exact ⟨rfl, fun _ _ => rfl⟩
    | (refine Wr.i64 ?_ ?_; omega)
    | (refine Wr.u8 ?_ ?_; omega)
    | (refine Wr.i32 ?_ ?_; omega)
    | (with_reducible refine Br.tt ?_)
    | (with_reducible refine Br.ff ?_)
    | (refine Br.dT ?_ ?_; omega)
    | (refine Br.dF ?_ ?_; omega)
    | (refine Met.by (rright_is s hs _ hr) ?_; rintro q outs ⟨rfl, rfl⟩)
    | (refine Met.by (rdigit_ct (s.getD 0 0) (hl 0 hp)) ?_; rintro q outs ⟨rfl, rfl⟩)
    | (refine Br.d (fun h => ?_) (fun h => ?_))
    | (refine Br.swap ?_)
    | (refine Br.bnot ?_)
    | (refine Br.mk (fun h => Step.out ?_) (fun h => Step.out ?_))
    | (refine Two.mk (Step.out ?_) (Step.out ?_))
    | (refine CallOK.of_ct (Step.out ?_))
    | (refine Met.by (g := 29) (rright_ct _ (by first | omega | decide | (simp; done) | (simp; omega))) ?_; rintro q outs ⟨rfl, rfl⟩)
    | (refine Vc.mk ?_ (Step.out ?_))
  refine CodeOK.loopW hΓ hm [] [] (by kernel_rfl) (α := Nat × Str × UInt8) (fun z => [(3, .str z.2.1), (4, u8 (rmap z.2.2).toNat), (0, .str s), (5, i64 z.1)]) (fun z => []) 0 (fun z => (1 ≤ z.1 ∧ z.1 ≤ s.length) ∧ (z.2.1.length ≤ z.1 ∧ Dg z.2.2) ∧ sdx s = pad4 (sdxL z.2.1 z.2.2 (s.drop z.1))) (fun z => s.length - z.1) ?_ ?_
  · refine Again.by (1, [s.getD 0 0], dig (s.getD 0 0)) ⟨⟨Nat.le_refl _, hp⟩, ⟨Nat.le_refl _, dg_dig (hl 0 hp)⟩, hx⟩ ?_
    dsimp only
    repeat' first
      | (refine Step.mk ?_; conv => whnf)
      | (refine Vc.om ?_ ?_; first | omega | with_reducible rfl | with_reducible exact ⟨rfl, fun _ _ => rfl⟩ | (simp only [bytes_2, bytes_3, bytes_4, bytes_5, bytes_9, bytes_12, bytes_21, bytes_22, bytes_26, bytes_29, bytes_35, bytes_36, bytes_37, bytes_40, bytes_46, bytes_50, bytes_51, bytes_52, bytes_59, bytes_63, bytes_66]; omega))
      | (refine NilB.mk fun b hb => Step.out ?_)
      | with_reducible trivial
      | exact noSh_bool _
      | exact noSh_lit _
      | exact noSh_int _ _
      | exact noSh_str _
      | with_reducible rfl
      | with_reducible exact ⟨rfl, fun _ _ => rfl⟩
      | (refine Wr.i64 ?_ ?_; omega)
      | (refine Wr.u8 ?_ ?_; omega)
      | (refine Wr.i32 ?_ ?_; omega)
      | (with_reducible refine Br.tt ?_)
      | (with_reducible refine Br.ff ?_)
      | (refine Br.dT ?_ ?_; omega)
      | (refine Br.dF ?_ ?_; omega)
      | (exact hc)
      | (rw [rdig_map])
      | (refine Br.d (fun h => ?_) (fun h => ?_))
      | (refine Br.swap ?_)
      | (refine Br.bnot ?_)
      | (refine Br.mk (fun h => Step.out ?_) (fun h => Step.out ?_))
      | (refine Two.mk (Step.out ?_) (Step.out ?_))
      | (refine CallOK.of_ct (Step.out ?_))
      | (refine Met.by (g := 29) (rright_ct _ (by first | omega | decide | (simp; done) | (simp; omega))) ?_; rintro q outs ⟨rfl, rfl⟩)
      | (refine Vc.mk ?_ (Step.out ?_))
  · intro ⟨i, o, e⟩ ⟨⟨h3, h4⟩, ⟨h5, hd⟩, h6⟩
    dsimp only at h3 h4 h5 h6 hd ⊢
    repeat' first
      | (refine Step.mk ?_; conv => whnf)
      | (refine Vc.om ?_ ?_; first | omega | with_reducible rfl | with_reducible exact ⟨rfl, fun _ _ => rfl⟩ | (simp only [bytes_2, bytes_3, bytes_4, bytes_5, bytes_9, bytes_12, bytes_21, bytes_22, bytes_26, bytes_29, bytes_35, bytes_36, bytes_37, bytes_40, bytes_46, bytes_50, bytes_51, bytes_52, bytes_59, bytes_63, bytes_66]; omega))
      | (refine NilB.mk fun b hb => Step.out ?_)
      | with_reducible trivial
      | exact noSh_bool _
      | exact noSh_lit _
      | exact noSh_int _ _
      | exact noSh_str _
      | with_reducible rfl
      | with_reducible exact ⟨rfl, fun _ _ => rfl⟩
      | (refine Wr.i64 ?_ ?_; omega)
      | (refine Wr.u8 ?_ ?_; omega)
      | (refine Wr.i32 ?_ ?_; omega)
      | (with_reducible refine Br.tt ?_)
      | (with_reducible refine Br.ff ?_)
      | (refine Br.dT ?_ ?_; omega)
      | (refine Br.dF ?_ ?_; omega)
      | (refine Met.by (rdigit_ct _ (hl i (by omega))) ?_; rintro q outs ⟨rfl, rfl⟩)
      | (refine Br.d (fun h => ?_) (fun h => ?_))
      | (refine Br.swap ?_)
      | (refine Br.bnot ?_)
      | (refine Br.mk (fun h => Step.out ?_) (fun h => Step.out ?_))
      | (refine Two.mk (Step.out ?_) (Step.out ?_))
      | (refine CallOK.of_ct (Step.out ?_))
      | (refine Met.by (g := 29) (rright_ct _ (by first | omega | decide | (simp; done) | (simp; omega))) ?_; rintro q outs ⟨rfl, rfl⟩)
      | (refine Vc.mk ?_ (Step.out ?_))
    all_goals try simp only [Int.toNat_natCast, rdig_map] at *
    · have g := dg_dig (hl i (by omega))
      rw [sdxL_step o e s i (by omega) (by omega), stepS_skip (dg_1 g ‹_›)] at h6
      refine Again.by (i + 1, o, e) ⟨⟨⟨by dsimp only; omega, by dsimp only; omega⟩, ⟨by dsimp only; omega, hd⟩, h6⟩, by dsimp only; omega⟩ ?_
      dsimp only
      repeat' first
        | (refine Step.mk ?_; conv => whnf)
        | (refine Vc.om ?_ ?_; first | omega | with_reducible rfl | with_reducible exact ⟨rfl, fun _ _ => rfl⟩ | (simp only [bytes_2, bytes_3, bytes_4, bytes_5, bytes_9, bytes_12, bytes_21, bytes_22, bytes_26, bytes_29, bytes_35, bytes_36, bytes_37, bytes_40, bytes_46, bytes_50, bytes_51, bytes_52, bytes_59, bytes_63, bytes_66]; omega))
        | (refine NilB.mk fun b hb => Step.out ?_)
        | with_reducible trivial
        | exact noSh_bool _
        | exact noSh_lit _
        | exact noSh_int _ _
        | exact noSh_str _
        | with_reducible rfl
        | with_reducible exact ⟨rfl, fun _ _ => rfl⟩
        | (refine Wr.i64 ?_ ?_; omega)
        | (refine Wr.u8 ?_ ?_; omega)
        | (refine Wr.i32 ?_ ?_; omega)
        | (with_reducible refine Br.tt ?_)
        | (with_reducible refine Br.ff ?_)
        | (refine Br.dT ?_ ?_; omega)
        | (refine Br.dF ?_ ?_; omega)
        | (refine Br.d (fun h => ?_) (fun h => ?_))
        | (refine Br.swap ?_)
        | (refine Br.bnot ?_)
        | (refine Br.mk (fun h => Step.out ?_) (fun h => Step.out ?_))
        | (refine Two.mk (Step.out ?_) (Step.out ?_))
        | (refine CallOK.of_ct (Step.out ?_))
        | (refine Met.by (g := 29) (rright_ct _ (by first | omega | decide | (simp; done) | (simp; omega))) ?_; rintro q outs ⟨rfl, rfl⟩)
        | (refine Vc.mk ?_ (Step.out ?_))
    · have g := dg_dig (hl i (by omega))
      rw [sdxL_step o e s i (by omega) (by omega), stepS_same (dg_n1 g ‹_›) (dg_eq (dg_n0 ‹_›) (dg_n1 g ‹_›) hd g ‹_›)] at h6
      refine Again.by (i + 1, o, dig (s.getD i 0)) ⟨⟨⟨by dsimp only; omega, by dsimp only; omega⟩, ⟨by dsimp only; omega, g⟩, h6⟩, by dsimp only; omega⟩ ?_
      dsimp only
      repeat' first
        | (refine Step.mk ?_; conv => whnf)
        | (refine Vc.om ?_ ?_; first | omega | with_reducible rfl | with_reducible exact ⟨rfl, fun _ _ => rfl⟩ | (simp only [bytes_2, bytes_3, bytes_4, bytes_5, bytes_9, bytes_12, bytes_21, bytes_22, bytes_26, bytes_29, bytes_35, bytes_36, bytes_37, bytes_40, bytes_46, bytes_50, bytes_51, bytes_52, bytes_59, bytes_63, bytes_66]; omega))
        | (refine NilB.mk fun b hb => Step.out ?_)
        | with_reducible trivial
        | exact noSh_bool _
        | exact noSh_lit _
        | exact noSh_int _ _
        | exact noSh_str _
        | with_reducible rfl
        | with_reducible exact ⟨rfl, fun _ _ => rfl⟩
        | (refine Wr.i64 ?_ ?_; omega)
        | (refine Wr.u8 ?_ ?_; omega)
        | (refine Wr.i32 ?_ ?_; omega)
        | (with_reducible refine Br.tt ?_)
        | (with_reducible refine Br.ff ?_)
        | (refine Br.dT ?_ ?_; omega)
        | (refine Br.dF ?_ ?_; omega)
        | (rw [rdig_map])
        | (refine Br.d (fun h => ?_) (fun h => ?_))
        | (refine Br.swap ?_)
        | (refine Br.bnot ?_)
        | (refine Br.mk (fun h => Step.out ?_) (fun h => Step.out ?_))
        | (refine Two.mk (Step.out ?_) (Step.out ?_))
        | (refine CallOK.of_ct (Step.out ?_))
        | (refine Met.by (g := 29) (rright_ct _ (by first | omega | decide | (simp; done) | (simp; omega))) ?_; rintro q outs ⟨rfl, rfl⟩)
        | (refine Vc.mk ?_ (Step.out ?_))
    · have g := dg_dig (hl i (by omega))
      have hn := dg_n0 ‹_›
      have hn' := dg_n1 g ‹_›
      rw [sdxL_step o e s i (by omega) (by omega), stepS_add hn' hn (dg_neq ‹_›)] at h6
      have hr : rmap (dig (s.getD i 0)) = dig (s.getD i 0) := rmap_T (u8_ne (y := 32) hn) (u8_ne (y := 45) hn')
      refine Lf.by [dig (s.getD i 0)] ⟨rfl, fun q hq => ?_⟩ ?_
      · obtain rfl : q = 0 := by omega
        simp only [selC, List.getD_cons_zero, hr]
      · repeat' first
          | (refine Step.mk ?_; conv => whnf)
          | (refine Vc.om ?_ ?_; first | omega | with_reducible rfl | with_reducible exact ⟨rfl, fun _ _ => rfl⟩ | (simp only [bytes_2, bytes_3, bytes_4, bytes_5, bytes_9, bytes_12, bytes_21, bytes_22, bytes_26, bytes_29, bytes_35, bytes_36, bytes_37, bytes_40, bytes_46, bytes_50, bytes_51, bytes_52, bytes_59, bytes_63, bytes_66]; omega))
          | (refine NilB.mk fun b hb => Step.out ?_)
          | with_reducible trivial
          | exact noSh_bool _
          | exact noSh_lit _
          | exact noSh_int _ _
          | exact noSh_str _
          | with_reducible rfl
          | with_reducible exact ⟨rfl, fun _ _ => rfl⟩
          | (refine Wr.i64 ?_ ?_; omega)
          | (refine Wr.u8 ?_ ?_; omega)
          | (refine Wr.i32 ?_ ?_; omega)
          | (with_reducible refine Br.tt ?_)
          | (with_reducible refine Br.ff ?_)
          | (refine Br.dT ?_ ?_; omega)
          | (refine Br.dF ?_ ?_; omega)
          | (refine Vc.om ?_ ?_; focus (simp; omega; done))
          | (refine Wr.i64 ?_ ?_; focus (simp; omega; done))
          | (refine Wr.u8 ?_ ?_; focus (simp; omega; done))
          | (refine Br.dT ?_ ?_; focus (simp; omega; done))
          | (refine Br.dF ?_ ?_; focus (simp; omega; done))
          | (refine Br.d (fun h => ?_) (fun h => ?_))
          | (refine Br.swap ?_)
          | (refine Br.bnot ?_)
          | (refine Br.mk (fun h => Step.out ?_) (fun h => Step.out ?_))
          | (refine Two.mk (Step.out ?_) (Step.out ?_))
          | (refine CallOK.of_ct (Step.out ?_))
          | (refine Met.by (g := 29) (rright_ct _ (by first | omega | decide | (simp; done) | (simp; omega))) ?_; rintro q outs ⟨rfl, rfl⟩)
          | (refine Vc.mk ?_ (Step.out ?_))
        refine Again.by (i + 1, o ++ [dig (s.getD i 0)], dig (s.getD i 0)) ⟨⟨⟨by dsimp only; omega, by dsimp only; omega⟩, ⟨by simp; omega, g⟩, h6⟩, by dsimp only; omega⟩ ?_
        dsimp only
        repeat' first
          | (refine Step.mk ?_; conv => whnf)
          | (refine Vc.om ?_ ?_; first | omega | with_reducible rfl | with_reducible exact ⟨rfl, fun _ _ => rfl⟩ | (simp only [bytes_2, bytes_3, bytes_4, bytes_5, bytes_9, bytes_12, bytes_21, bytes_22, bytes_26, bytes_29, bytes_35, bytes_36, bytes_37, bytes_40, bytes_46, bytes_50, bytes_51, bytes_52, bytes_59, bytes_63, bytes_66]; omega))
          | (refine NilB.mk fun b hb => Step.out ?_)
          | with_reducible trivial
          | exact noSh_bool _
          | exact noSh_lit _
          | exact noSh_int _ _
          | exact noSh_str _
          | with_reducible rfl
          | with_reducible exact ⟨rfl, fun _ _ => rfl⟩
          | (refine Wr.i64 ?_ ?_; omega)
          | (refine Wr.u8 ?_ ?_; omega)
          | (refine Wr.i32 ?_ ?_; omega)
          | (with_reducible refine Br.tt ?_)
          | (with_reducible refine Br.ff ?_)
          | (refine Br.dT ?_ ?_; omega)
          | (refine Br.dF ?_ ?_; omega)
          | (rw [rdig_map])
          | (refine Br.d (fun h => ?_) (fun h => ?_))
          | (refine Br.swap ?_)
          | (refine Br.bnot ?_)
          | (refine Br.mk (fun h => Step.out ?_) (fun h => Step.out ?_))
          | (refine Two.mk (Step.out ?_) (Step.out ?_))
          | (refine CallOK.of_ct (Step.out ?_))
          | (refine Met.by (g := 29) (rright_ct _ (by first | omega | decide | (simp; done) | (simp; omega))) ?_; rintro q outs ⟨rfl, rfl⟩)
          | (refine Vc.mk ?_ (Step.out ?_))
    · have g := dg_dig (hl i (by omega))
      rw [sdxL_step o e s i (by omega) (by omega), stepS_none (dg_0 g ‹_› ‹_›)] at h6
      refine Again.by (i + 1, o, dig (s.getD i 0)) ⟨⟨⟨by dsimp only; omega, by dsimp only; omega⟩, ⟨by dsimp only; omega, g⟩, h6⟩, by dsimp only; omega⟩ ?_
      dsimp only
      repeat' first
        | (refine Step.mk ?_; conv => whnf)
        | (refine Vc.om ?_ ?_; first | omega | with_reducible rfl | with_reducible exact ⟨rfl, fun _ _ => rfl⟩ | (simp only [bytes_2, bytes_3, bytes_4, bytes_5, bytes_9, bytes_12, bytes_21, bytes_22, bytes_26, bytes_29, bytes_35, bytes_36, bytes_37, bytes_40, bytes_46, bytes_50, bytes_51, bytes_52, bytes_59, bytes_63, bytes_66]; omega))
        | (refine NilB.mk fun b hb => Step.out ?_)
        | with_reducible trivial
        | exact noSh_bool _
        | exact noSh_lit _
        | exact noSh_int _ _
        | exact noSh_str _
        | with_reducible rfl
        | with_reducible exact ⟨rfl, fun _ _ => rfl⟩
        | (refine Wr.i64 ?_ ?_; omega)
        | (refine Wr.u8 ?_ ?_; omega)
        | (refine Wr.i32 ?_ ?_; omega)
        | (with_reducible refine Br.tt ?_)
        | (with_reducible refine Br.ff ?_)
        | (refine Br.dT ?_ ?_; omega)
        | (refine Br.dF ?_ ?_; omega)
        | (rw [rdig_map])
        | (refine Br.d (fun h => ?_) (fun h => ?_))
        | (refine Br.swap ?_)
        | (refine Br.bnot ?_)
        | (refine Br.mk (fun h => Step.out ?_) (fun h => Step.out ?_))
        | (refine Two.mk (Step.out ?_) (Step.out ?_))
        | (refine CallOK.of_ct (Step.out ?_))
        | (refine Met.by (g := 29) (rright_ct _ (by first | omega | decide | (simp; done) | (simp; omega))) ?_; rintro q outs ⟨rfl, rfl⟩)
        | (refine Vc.mk ?_ (Step.out ?_))
    all_goals
      rw [sdxL_end o e _ (by first | (left; exact List.drop_eq_nil_of_le (by omega)) | (right; omega))] at h6
      refine CodeOK.loopW hΓ hm [] [] (by kernel_rfl) (α := Str) (fun p => [(3, .str p)]) (fun p => []) 0 (fun p => p.length ≤ s.length + 4 ∧ sdx s = pad4 p) (fun p => 4 - p.length) ?_ ?_
      · refine Again.by o ⟨by omega, h6⟩ ?_
        repeat' first
          | (refine Step.mk ?_; conv => whnf)
          | (refine Vc.om ?_ ?_; first | omega | with_reducible rfl | with_reducible exact ⟨rfl, fun _ _ => rfl⟩ | (simp only [bytes_2, bytes_3, bytes_4, bytes_5, bytes_9, bytes_12, bytes_21, bytes_22, bytes_26, bytes_29, bytes_35, bytes_36, bytes_37, bytes_40, bytes_46, bytes_50, bytes_51, bytes_52, bytes_59, bytes_63, bytes_66]; omega))
          | (refine NilB.mk fun b hb => Step.out ?_)
          | with_reducible trivial
          | exact noSh_bool _
          | exact noSh_lit _
          | exact noSh_int _ _
          | exact noSh_str _
          | with_reducible rfl
          | with_reducible exact ⟨rfl, fun _ _ => rfl⟩
          | (refine Wr.i64 ?_ ?_; omega)
          | (refine Wr.u8 ?_ ?_; omega)
          | (refine Wr.i32 ?_ ?_; omega)
          | (with_reducible refine Br.tt ?_)
          | (with_reducible refine Br.ff ?_)
          | (refine Br.dT ?_ ?_; omega)
          | (refine Br.dF ?_ ?_; omega)
          | (refine Br.d (fun h => ?_) (fun h => ?_))
          | (refine Br.swap ?_)
          | (refine Br.bnot ?_)
          | (refine Br.mk (fun h => Step.out ?_) (fun h => Step.out ?_))
          | (refine Two.mk (Step.out ?_) (Step.out ?_))
          | (refine CallOK.of_ct (Step.out ?_))
          | (refine Met.by (g := 29) (rright_ct _ (by first | omega | decide | (simp; done) | (simp; omega))) ?_; rintro q outs ⟨rfl, rfl⟩)
          | (refine Vc.mk ?_ (Step.out ?_))
      · intro p ⟨h7, h8⟩
        repeat' first
          | (refine Step.mk ?_; conv => whnf)
          | (refine Vc.om ?_ ?_; first | omega | with_reducible rfl | with_reducible exact ⟨rfl, fun _ _ => rfl⟩ | (simp only [bytes_2, bytes_3, bytes_4, bytes_5, bytes_9, bytes_12, bytes_21, bytes_22, bytes_26, bytes_29, bytes_35, bytes_36, bytes_37, bytes_40, bytes_46, bytes_50, bytes_51, bytes_52, bytes_59, bytes_63, bytes_66]; omega))
          | (refine NilB.mk fun b hb => Step.out ?_)
          | with_reducible trivial
          | exact noSh_bool _
          | exact noSh_lit _
          | exact noSh_int _ _
          | exact noSh_str _
          | with_reducible rfl
          | with_reducible exact ⟨rfl, fun _ _ => rfl⟩
          | (refine Wr.i64 ?_ ?_; omega)
          | (refine Wr.u8 ?_ ?_; omega)
          | (refine Wr.i32 ?_ ?_; omega)
          | (with_reducible refine Br.tt ?_)
          | (with_reducible refine Br.ff ?_)
          | (refine Br.dT ?_ ?_; omega)
          | (refine Br.dF ?_ ?_; omega)
          | (refine Vc.om ?_ ?_; focus (simp; omega; done))
          | (refine Wr.i64 ?_ ?_; focus (simp; omega; done))
          | (refine Wr.u8 ?_ ?_; focus (simp; omega; done))
          | (refine Br.dT ?_ ?_; focus (simp; omega; done))
          | (refine Br.dF ?_ ?_; focus (simp; omega; done))
          | (refine Br.d (fun h => ?_) (fun h => ?_))
          | (refine Br.swap ?_)
          | (refine Br.bnot ?_)
          | (refine Br.mk (fun h => Step.out ?_) (fun h => Step.out ?_))
          | (refine Two.mk (Step.out ?_) (Step.out ?_))
          | (refine CallOK.of_ct (Step.out ?_))
          | (refine Met.by (g := 29) (rright_ct _ (by first | omega | decide | (simp; done) | (simp; omega))) ?_; rintro q outs ⟨rfl, rfl⟩)
          | (refine Vc.mk ?_ (Step.out ?_))
        · refine Again.by (p ++ [48]) ⟨⟨by simp; omega, by rw [h8, pad_step p (by omega)]⟩, by simp; omega⟩ ?_
          repeat' first
            | (refine Step.mk ?_; conv => whnf)
            | (refine Vc.om ?_ ?_; first | omega | with_reducible rfl | with_reducible exact ⟨rfl, fun _ _ => rfl⟩ | (simp only [bytes_2, bytes_3, bytes_4, bytes_5, bytes_9, bytes_12, bytes_21, bytes_22, bytes_26, bytes_29, bytes_35, bytes_36, bytes_37, bytes_40, bytes_46, bytes_50, bytes_51, bytes_52, bytes_59, bytes_63, bytes_66]; omega))
            | (refine NilB.mk fun b hb => Step.out ?_)
            | with_reducible trivial
            | exact noSh_bool _
            | exact noSh_lit _
            | exact noSh_int _ _
            | exact noSh_str _
            | with_reducible rfl
            | with_reducible exact ⟨rfl, fun _ _ => rfl⟩
            | (refine Wr.i64 ?_ ?_; omega)
            | (refine Wr.u8 ?_ ?_; omega)
            | (refine Wr.i32 ?_ ?_; omega)
            | (with_reducible refine Br.tt ?_)
            | (with_reducible refine Br.ff ?_)
            | (refine Br.dT ?_ ?_; omega)
            | (refine Br.dF ?_ ?_; omega)
            | (refine Br.d (fun h => ?_) (fun h => ?_))
            | (refine Br.swap ?_)
            | (refine Br.bnot ?_)
            | (refine Br.mk (fun h => Step.out ?_) (fun h => Step.out ?_))
            | (refine Two.mk (Step.out ?_) (Step.out ?_))
            | (refine CallOK.of_ct (Step.out ?_))
            | (refine Met.by (g := 29) (rright_ct _ (by first | omega | decide | (simp; done) | (simp; omega))) ?_; rintro q outs ⟨rfl, rfl⟩)
            | (refine Vc.mk ?_ (Step.out ?_))
        · rw [pad_end p (by omega)] at h8
          exact h8.symm
theorem rskeleton_ct (s : Str) (hs : s.length ≤ 1000000000) : Ct Try.prog 18 [.str s] fun r outs => r = .str (skl s) ∧ outs = [] := by
  cases hr : rightB s
  · refine .det (.of_W (fn := Try.f18) hΓ hm (by rfl) ord18 [] (by kernel_rfl) (Step.out ?_))
    repeat' first
      | (refine Step.mk ?_; conv => whnf)
      | (refine Vc.om ?_ ?_; first | omega | with_reducible rfl | with_reducible exact ⟨rfl, fun _ _ => rfl⟩ | (simp only [bytes_2, bytes_3, bytes_4, bytes_5, bytes_9, bytes_12, bytes_21, bytes_22, bytes_26, bytes_29, bytes_35, bytes_36, bytes_37, bytes_40, bytes_46, bytes_50, bytes_51, bytes_52, bytes_59, bytes_63, bytes_66]; omega))
      | (refine NilB.mk fun b hb => Step.out ?_)
      | with_reducible trivial
      | exact noSh_bool _
      | exact noSh_lit _
      | exact noSh_int _ _
      | exact noSh_str _
      | with_reducible rfl
      | with_reducible exact ⟨rfl, fun _ _ => rfl⟩
      | (refine Wr.i64 ?_ ?_; omega)
      | (refine Wr.u8 ?_ ?_; omega)
      | (refine Wr.i32 ?_ ?_; omega)
      | (with_reducible refine Br.tt ?_)
      | (with_reducible refine Br.ff ?_)
      | (refine Br.dT ?_ ?_; omega)
      | (refine Br.dF ?_ ?_; omega)
      | (refine Met.by (rright_is s hs _ hr) ?_; rintro q outs ⟨rfl, rfl⟩)
      | (refine Br.d (fun h => ?_) (fun h => ?_))
      | (refine Br.swap ?_)
      | (refine Br.bnot ?_)
      | (refine Br.mk (fun h => Step.out ?_) (fun h => Step.out ?_))
      | (refine Two.mk (Step.out ?_) (Step.out ?_))
      | (refine CallOK.of_ct (Step.out ?_))
      | (refine Met.by (g := 29) (rright_ct _ (by first | omega | decide | (simp; done) | (simp; omega))) ?_; rintro q outs ⟨rfl, rfl⟩)
      | (refine Vc.mk ?_ (Step.out ?_))
    all_goals first
      | trivial
      | exact hb h
      | with_reducible rfl
      | with_reducible exact ⟨rfl, fun _ _ => rfl⟩
      | omega
      | ((rw [skl, hr]; rfl))
  obtain ⟨h0, h1, h2⟩ := right_of hr
  have hp : 1 ≤ s.length := List.length_pos_iff.2 h0
  have hl : ∀ i, i < s.length → isLet (s.getD i 0) = true := fun i hi => h2 _ (getD_in hi)
  have hx : skl s = sklL [s.getD 0 0] (s.drop 1) := by rw [skl, if_pos hr]
  have hc : (s.take 1) = [s.getD 0 0] := cut_step s 0 0 hp
  refine .det (.of_W (fn := Try.f18) hΓ hm (by rfl) ord18 [] (by kernel_rfl) (Step.out ?_))
  repeat' first
    | (refine Step.mk ?_; conv => whnf)
    | (refine Vc.om ?_ ?_; first | omega | with_reducible rfl | with_reducible exact ⟨rfl, fun _ _ => rfl⟩ | (simp only [bytes_2, bytes_3, bytes_4, bytes_5, bytes_9, bytes_12, bytes_21, bytes_22, bytes_26, bytes_29, bytes_35, bytes_36, bytes_37, bytes_40, bytes_46, bytes_50, bytes_51, bytes_52, bytes_59, bytes_63, bytes_66]; omega))
    | (refine NilB.mk fun b hb => Step.out ?_)
    | with_reducible trivial
    | exact noSh_bool _
    | exact noSh_lit _
    | exact noSh_int _ _
    | exact noSh_str _
    | with_reducible rfl
    | with_reducible exact ⟨rfl, fun _ _ => rfl⟩
    | (refine Wr.i64 ?_ ?_; omega)
    | (refine Wr.u8 ?_ ?_; omega)
    | (refine Wr.i32 ?_ ?_; omega)
    | (with_reducible refine Br.tt ?_)
    | (with_reducible refine Br.ff ?_)
    | (refine Br.dT ?_ ?_; omega)
    | (refine Br.dF ?_ ?_; omega)
    | (refine Met.by (rright_is s hs _ hr) ?_; rintro q outs ⟨rfl, rfl⟩)
    | (refine Br.d (fun h => ?_) (fun h => ?_))
    | (refine Br.swap ?_)
    | (refine Br.bnot ?_)
    | (refine Br.mk (fun h => Step.out ?_) (fun h => Step.out ?_))
    | (refine Two.mk (Step.out ?_) (Step.out ?_))
    | (refine CallOK.of_ct (Step.out ?_))
    | (refine Met.by (g := 29) (rright_ct _ (by first | omega | decide | (simp; done) | (simp; omega))) ?_; rintro q outs ⟨rfl, rfl⟩)
    | (refine Vc.mk ?_ (Step.out ?_))
  refine CodeOK.loopW hΓ hm ord18 [] (by kernel_rfl) (α := Nat × Str) (fun z => [(3, .str z.2), (0, .str s), (4, i64 z.1)]) (fun z => []) 0 (fun z => (1 ≤ z.1 ∧ z.1 ≤ s.length) ∧ (1 ≤ z.2.length ∧ z.2.length ≤ z.1) ∧ skl s = sklL z.2 (s.drop z.1)) (fun z => s.length - z.1) ?_ ?_
  · refine Again.by (1, [s.getD 0 0]) ⟨⟨Nat.le_refl _, hp⟩, ⟨Nat.le_refl _, Nat.le_refl _⟩, hx⟩ ?_
    dsimp only
    repeat' first
      | (refine Step.mk ?_; conv => whnf)
      | (refine Vc.om ?_ ?_; first | omega | with_reducible rfl | with_reducible exact ⟨rfl, fun _ _ => rfl⟩ | (simp only [bytes_2, bytes_3, bytes_4, bytes_5, bytes_9, bytes_12, bytes_21, bytes_22, bytes_26, bytes_29, bytes_35, bytes_36, bytes_37, bytes_40, bytes_46, bytes_50, bytes_51, bytes_52, bytes_59, bytes_63, bytes_66]; omega))
      | (refine NilB.mk fun b hb => Step.out ?_)
      | with_reducible trivial
      | exact noSh_bool _
      | exact noSh_lit _
      | exact noSh_int _ _
      | exact noSh_str _
      | with_reducible rfl
      | with_reducible exact ⟨rfl, fun _ _ => rfl⟩
      | (refine Wr.i64 ?_ ?_; omega)
      | (refine Wr.u8 ?_ ?_; omega)
      | (refine Wr.i32 ?_ ?_; omega)
      | (with_reducible refine Br.tt ?_)
      | (with_reducible refine Br.ff ?_)
      | (refine Br.dT ?_ ?_; omega)
      | (refine Br.dF ?_ ?_; omega)
      | (exact hc)
      | (refine Br.d (fun h => ?_) (fun h => ?_))
      | (refine Br.swap ?_)
      | (refine Br.bnot ?_)
      | (refine Br.mk (fun h => Step.out ?_) (fun h => Step.out ?_))
      | (refine Two.mk (Step.out ?_) (Step.out ?_))
      | (refine CallOK.of_ct (Step.out ?_))
      | (refine Met.by (g := 29) (rright_ct _ (by first | omega | decide | (simp; done) | (simp; omega))) ?_; rintro q outs ⟨rfl, rfl⟩)
      | (refine Vc.mk ?_ (Step.out ?_))
  · intro ⟨i, o⟩ ⟨⟨h3, h4⟩, ⟨h5, h7⟩, h6⟩
    dsimp only at h3 h4 h5 h6 h7 ⊢
    have hcut : i < s.length → List.drop i (List.take ((i : Int) + 1).toNat s) = [s.getD i 0] := cut_step s 0 i
    repeat' first
      | (refine Step.mk ?_; conv => whnf)
      | (refine Vc.om ?_ ?_; first | omega | with_reducible rfl | with_reducible exact ⟨rfl, fun _ _ => rfl⟩ | (simp only [bytes_2, bytes_3, bytes_4, bytes_5, bytes_9, bytes_12, bytes_21, bytes_22, bytes_26, bytes_29, bytes_35, bytes_36, bytes_37, bytes_40, bytes_46, bytes_50, bytes_51, bytes_52, bytes_59, bytes_63, bytes_66]; omega))
      | (refine NilB.mk fun b hb => Step.out ?_)
      | with_reducible trivial
      | exact noSh_bool _
      | exact noSh_lit _
      | exact noSh_int _ _
      | exact noSh_str _
      | with_reducible rfl
      | with_reducible exact ⟨rfl, fun _ _ => rfl⟩
      | (refine Wr.i64 ?_ ?_; omega)
      | (refine Wr.u8 ?_ ?_; omega)
      | (refine Wr.i32 ?_ ?_; omega)
      | (with_reducible refine Br.tt ?_)
      | (with_reducible refine Br.ff ?_)
      | (refine Br.dT ?_ ?_; omega)
      | (refine Br.dF ?_ ?_; omega)
      | (refine Met.by (rdigit_ct _ (hl i (by omega))) ?_; rintro q outs ⟨rfl, rfl⟩)
      | (refine Vc.om ?_ ?_; focus (simp; omega; done))
      | (refine Wr.i64 ?_ ?_; focus (simp; omega; done))
      | (refine Wr.u8 ?_ ?_; focus (simp; omega; done))
      | (refine Br.dT ?_ ?_; focus (simp; omega; done))
      | (refine Br.dF ?_ ?_; focus (simp; omega; done))
      | (refine Br.d (fun h => ?_) (fun h => ?_))
      | (refine Br.swap ?_)
      | (refine Br.bnot ?_)
      | (refine Br.mk (fun h => Step.out ?_) (fun h => Step.out ?_))
      | (refine Two.mk (Step.out ?_) (Step.out ?_))
      | (refine CallOK.of_ct (Step.out ?_))
      | (refine Met.by (g := 29) (rright_ct _ (by first | omega | decide | (simp; done) | (simp; omega))) ?_; rintro q outs ⟨rfl, rfl⟩)
      | (refine Vc.mk ?_ (Step.out ?_))
    all_goals try simp only [Int.toNat_natCast, rdig_map, show ((o.length : Int) - 1).toNat = o.length - 1 by omega] at *
    · have g := dg_dig (hl i (by omega))
      rw [sklL_step o s i (by omega) (by omega), addK_3 ‹_›] at h6
      refine Again.by (i + 1, o) ⟨⟨⟨by dsimp only; omega, by dsimp only; omega⟩, ⟨by dsimp only; omega, by dsimp only; omega⟩, h6⟩, by dsimp only; omega⟩ ?_
      dsimp only
      repeat' first
        | (refine Step.mk ?_; conv => whnf)
        | (refine Vc.om ?_ ?_; first | omega | with_reducible rfl | with_reducible exact ⟨rfl, fun _ _ => rfl⟩ | (simp only [bytes_2, bytes_3, bytes_4, bytes_5, bytes_9, bytes_12, bytes_21, bytes_22, bytes_26, bytes_29, bytes_35, bytes_36, bytes_37, bytes_40, bytes_46, bytes_50, bytes_51, bytes_52, bytes_59, bytes_63, bytes_66]; omega))
        | (refine NilB.mk fun b hb => Step.out ?_)
        | with_reducible trivial
        | exact noSh_bool _
        | exact noSh_lit _
        | exact noSh_int _ _
        | exact noSh_str _
        | with_reducible rfl
        | with_reducible exact ⟨rfl, fun _ _ => rfl⟩
        | (refine Wr.i64 ?_ ?_; omega)
        | (refine Wr.u8 ?_ ?_; omega)
        | (refine Wr.i32 ?_ ?_; omega)
        | (with_reducible refine Br.tt ?_)
        | (with_reducible refine Br.ff ?_)
        | (refine Br.dT ?_ ?_; omega)
        | (refine Br.dF ?_ ?_; omega)
        | (refine Br.d (fun h => ?_) (fun h => ?_))
        | (refine Br.swap ?_)
        | (refine Br.bnot ?_)
        | (refine Br.mk (fun h => Step.out ?_) (fun h => Step.out ?_))
        | (refine Two.mk (Step.out ?_) (Step.out ?_))
        | (refine CallOK.of_ct (Step.out ?_))
        | (refine Met.by (g := 29) (rright_ct _ (by first | omega | decide | (simp; done) | (simp; omega))) ?_; rintro q outs ⟨rfl, rfl⟩)
        | (refine Vc.mk ?_ (Step.out ?_))
    · have g := dg_dig (hl i (by omega))
      have hn := dg_n0 ‹_›
      have hn' := dg_n45 ‹_›
      rw [sklL_step o s i (by omega) (by omega), addK_4 hn hn' ‹_›] at h6
      refine Again.by (i + 1, o ++ [s.getD i 0]) ⟨⟨⟨by dsimp only; omega, by dsimp only; omega⟩, ⟨by simp, by simp; omega⟩, h6⟩, by dsimp only; omega⟩ ?_
      dsimp only
      rw [hcut (by omega)]
      repeat' first
        | (refine Step.mk ?_; conv => whnf)
        | (refine Vc.om ?_ ?_; first | omega | with_reducible rfl | with_reducible exact ⟨rfl, fun _ _ => rfl⟩ | (simp only [bytes_2, bytes_3, bytes_4, bytes_5, bytes_9, bytes_12, bytes_21, bytes_22, bytes_26, bytes_29, bytes_35, bytes_36, bytes_37, bytes_40, bytes_46, bytes_50, bytes_51, bytes_52, bytes_59, bytes_63, bytes_66]; omega))
        | (refine NilB.mk fun b hb => Step.out ?_)
        | with_reducible trivial
        | exact noSh_bool _
        | exact noSh_lit _
        | exact noSh_int _ _
        | exact noSh_str _
        | with_reducible rfl
        | with_reducible exact ⟨rfl, fun _ _ => rfl⟩
        | (refine Wr.i64 ?_ ?_; omega)
        | (refine Wr.u8 ?_ ?_; omega)
        | (refine Wr.i32 ?_ ?_; omega)
        | (with_reducible refine Br.tt ?_)
        | (with_reducible refine Br.ff ?_)
        | (refine Br.dT ?_ ?_; omega)
        | (refine Br.dF ?_ ?_; omega)
        | (refine Br.d (fun h => ?_) (fun h => ?_))
        | (refine Br.swap ?_)
        | (refine Br.bnot ?_)
        | (refine Br.mk (fun h => Step.out ?_) (fun h => Step.out ?_))
        | (refine Two.mk (Step.out ?_) (Step.out ?_))
        | (refine CallOK.of_ct (Step.out ?_))
        | (refine Met.by (g := 29) (rright_ct _ (by first | omega | decide | (simp; done) | (simp; omega))) ?_; rintro q outs ⟨rfl, rfl⟩)
        | (refine Vc.mk ?_ (Step.out ?_))
    · have g := dg_dig (hl i (by omega))
      have hk : addK o (s.getD i 0) = o := by
        by_cases e : ((rmap (dig (s.getD i 0))).toNat : Int) = 1
        · exact addK_2 (dg_1 g e)
        · exact addK_1 (dg_0 g e ‹_›)
      rw [sklL_step o s i (by omega) (by omega), hk] at h6
      refine Again.by (i + 1, o) ⟨⟨⟨by dsimp only; omega, by dsimp only; omega⟩, ⟨by dsimp only; omega, by dsimp only; omega⟩, h6⟩, by dsimp only; omega⟩ ?_
      dsimp only
      repeat' first
        | (refine Step.mk ?_; conv => whnf)
        | (refine Vc.om ?_ ?_; first | omega | with_reducible rfl | with_reducible exact ⟨rfl, fun _ _ => rfl⟩ | (simp only [bytes_2, bytes_3, bytes_4, bytes_5, bytes_9, bytes_12, bytes_21, bytes_22, bytes_26, bytes_29, bytes_35, bytes_36, bytes_37, bytes_40, bytes_46, bytes_50, bytes_51, bytes_52, bytes_59, bytes_63, bytes_66]; omega))
        | (refine NilB.mk fun b hb => Step.out ?_)
        | with_reducible trivial
        | exact noSh_bool _
        | exact noSh_lit _
        | exact noSh_int _ _
        | exact noSh_str _
        | with_reducible rfl
        | with_reducible exact ⟨rfl, fun _ _ => rfl⟩
        | (refine Wr.i64 ?_ ?_; omega)
        | (refine Wr.u8 ?_ ?_; omega)
        | (refine Wr.i32 ?_ ?_; omega)
        | (with_reducible refine Br.tt ?_)
        | (with_reducible refine Br.ff ?_)
        | (refine Br.dT ?_ ?_; omega)
        | (refine Br.dF ?_ ?_; omega)
        | (refine Br.d (fun h => ?_) (fun h => ?_))
        | (refine Br.swap ?_)
        | (refine Br.bnot ?_)
        | (refine Br.mk (fun h => Step.out ?_) (fun h => Step.out ?_))
        | (refine Two.mk (Step.out ?_) (Step.out ?_))
        | (refine CallOK.of_ct (Step.out ?_))
        | (refine Met.by (g := 29) (rright_ct _ (by first | omega | decide | (simp; done) | (simp; omega))) ?_; rintro q outs ⟨rfl, rfl⟩)
        | (refine Vc.mk ?_ (Step.out ?_))
    all_goals
      rw [sklL_end o _ (by first | (left; exact List.drop_eq_nil_of_le (by omega)) | (right; omega))] at h6
      exact h6.symm
def key (s : Str) : Str := if (toks s).length = 0 then [] else sdx ((toks s).getD 0 [])
theorem toksF_len : ∀ (l part : Str) (t : Str), t ∈ toksF part l → t.length ≤ part.length + l.length
  | [], part, t, h => by
    simp only [toksF] at h
    split at h
    · cases h
    · rw [List.mem_singleton.1 h]; simp
  | x :: l, part, t, h => by
    simp only [toksF] at h
    split at h
    · split at h
      · have := toksF_len l [] t h; simp at this ⊢; omega
      · rcases List.mem_cons.1 h with rfl | h
        · simp
        · have := toksF_len l [] t h; simp at this ⊢; omega
    · have := toksF_len l _ t h; simp at this ⊢; omega
theorem toks_len {s t : Str} (h : t ∈ toks s) : t.length ≤ s.length := by have := toksF_len s [] t h; simpa using this
theorem tok0_len {s : Str} (h : ¬((toks s).length : Int) = 0) : ((toks s).getD 0 []).length ≤ s.length := toks_len (getD_in (by omega))
theorem key_ct (s : Str) (hs : s.length ≤ 1000000000) : Ct Try.prog 19 [.str s] fun r outs => r = .str (key s) ∧ outs = [] := by
  refine .det (.of_W (fn := Try.f19) hΓ hm (by rfl) [] [] (by kernel_rfl) (Step.out ?_))
  repeat' first
    | (refine Step.mk ?_; conv => whnf)
    | (refine Vc.om ?_ ?_; first | omega | with_reducible rfl | with_reducible exact ⟨rfl, fun _ _ => rfl⟩ | (simp only [bytes_2, bytes_3, bytes_4, bytes_5, bytes_9, bytes_12, bytes_21, bytes_22, bytes_26, bytes_29, bytes_35, bytes_36, bytes_37, bytes_40, bytes_46, bytes_50, bytes_51, bytes_52, bytes_59, bytes_63, bytes_66]; omega))
    | (refine NilB.mk fun b hb => Step.out ?_)
    | with_reducible trivial
    | exact noSh_bool _
    | exact noSh_lit _
    | exact noSh_int _ _
    | exact noSh_str _
    | with_reducible rfl
    | with_reducible exact ⟨rfl, fun _ _ => rfl⟩
    | (refine Wr.i64 ?_ ?_; omega)
    | (refine Wr.u8 ?_ ?_; omega)
    | (refine Wr.i32 ?_ ?_; omega)
    | (with_reducible refine Br.tt ?_)
    | (with_reducible refine Br.ff ?_)
    | (refine Br.dT ?_ ?_; omega)
    | (refine Br.dF ?_ ?_; omega)
    | (refine Met.by (soundex_ct _ (Nat.le_trans (tok0_len ‹_›) hs)) ?_; rintro q outs ⟨rfl, rfl⟩)
    | (refine Br.d (fun h => ?_) (fun h => ?_))
    | (refine Br.swap ?_)
    | (refine Br.bnot ?_)
    | (refine Br.mk (fun h => Step.out ?_) (fun h => Step.out ?_))
    | (refine Two.mk (Step.out ?_) (Step.out ?_))
    | (refine CallOK.of_ct (Step.out ?_))
    | (refine Met.by (g := 15) (soundex_ct _ (by first | omega | decide | (simp; done) | (simp; omega))) ?_; rintro q outs ⟨rfl, rfl⟩)
    | (refine Met.by (g := 31) (tokens_ct _ (by first | omega | decide | (simp; done) | (simp; omega))) ?_; rintro q outs ⟨rfl, rfl⟩)
    | (refine Vc.mk ?_ (Step.out ?_))
  all_goals first
    | trivial
    | exact hb h
    | with_reducible rfl
    | with_reducible exact ⟨rfl, fun _ _ => rfl⟩
    | omega
    | ((exact (if_pos (by omega)).symm))
    | ((exact (if_neg (by omega)).symm))
theorem rkey_ct (s : Str) (hs : s.length ≤ 1000000000) : Ct Try.prog 20 [.str s] fun r outs => r = .str (key s) ∧ outs = [] := by
  refine .det (.of_W (fn := Try.f20) hΓ hm (by rfl) [] [] (by kernel_rfl) (Step.out ?_))
  repeat' first
    | (refine Step.mk ?_; conv => whnf)
    | (refine Vc.om ?_ ?_; first | omega | with_reducible rfl | with_reducible exact ⟨rfl, fun _ _ => rfl⟩ | (simp only [bytes_2, bytes_3, bytes_4, bytes_5, bytes_9, bytes_12, bytes_21, bytes_22, bytes_26, bytes_29, bytes_35, bytes_36, bytes_37, bytes_40, bytes_46, bytes_50, bytes_51, bytes_52, bytes_59, bytes_63, bytes_66]; omega))
    | (refine NilB.mk fun b hb => Step.out ?_)
    | with_reducible trivial
    | exact noSh_bool _
    | exact noSh_lit _
    | exact noSh_int _ _
    | exact noSh_str _
    | with_reducible rfl
    | with_reducible exact ⟨rfl, fun _ _ => rfl⟩
    | (refine Wr.i64 ?_ ?_; omega)
    | (refine Wr.u8 ?_ ?_; omega)
    | (refine Wr.i32 ?_ ?_; omega)
    | (with_reducible refine Br.tt ?_)
    | (with_reducible refine Br.ff ?_)
    | (refine Br.dT ?_ ?_; omega)
    | (refine Br.dF ?_ ?_; omega)
    | (refine Met.by (rsoundex_ct _ (Nat.le_trans (tok0_len ‹_›) hs)) ?_; rintro q outs ⟨rfl, rfl⟩)
    | (refine Br.d (fun h => ?_) (fun h => ?_))
    | (refine Br.swap ?_)
    | (refine Br.bnot ?_)
    | (refine Br.mk (fun h => Step.out ?_) (fun h => Step.out ?_))
    | (refine Two.mk (Step.out ?_) (Step.out ?_))
    | (refine CallOK.of_ct (Step.out ?_))
    | (refine Met.by (g := 16) (rsoundex_ct _ (by first | omega | decide | (simp; done) | (simp; omega))) ?_; rintro q outs ⟨rfl, rfl⟩)
    | (refine Met.by (g := 32) (rtokens_ct _ (by first | omega | decide | (simp; done) | (simp; omega))) ?_; rintro q outs ⟨rfl, rfl⟩)
    | (refine Vc.mk ?_ (Step.out ?_))
  all_goals first
    | trivial
    | exact hb h
    | with_reducible rfl
    | with_reducible exact ⟨rfl, fun _ _ => rfl⟩
    | omega
    | ((exact (if_pos (by omega)).symm))
    | ((exact (if_neg (by omega)).symm))
def same (a b : Str) : Bool := !decide (key a = []) && decide (key a = key b)
theorem same_ct (a b : Str) (ha : a.length ≤ 1000000000) (hb : b.length ≤ 1000000000) : Ct Try.prog 13 [.str a, .str b] fun r outs => r = .bool (same a b) ∧ outs = [] := by
  refine .det (.of_W (fn := Try.f13) hΓ hm (by rfl) [] [] (by kernel_rfl) (Step.out ?_))
  repeat' first
    | (refine Step.mk ?_; conv => whnf)
    | (refine Vc.om ?_ ?_; first | omega | with_reducible rfl | with_reducible exact ⟨rfl, fun _ _ => rfl⟩ | (simp only [bytes_2, bytes_3, bytes_4, bytes_5, bytes_9, bytes_12, bytes_21, bytes_22, bytes_26, bytes_29, bytes_35, bytes_36, bytes_37, bytes_40, bytes_46, bytes_50, bytes_51, bytes_52, bytes_59, bytes_63, bytes_66]; omega))
    | (refine NilB.mk fun b hb => Step.out ?_)
    | with_reducible trivial
    | exact noSh_bool _
    | exact noSh_lit _
    | exact noSh_int _ _
    | exact noSh_str _
    | with_reducible rfl
    | with_reducible exact ⟨rfl, fun _ _ => rfl⟩
    | (refine Wr.i64 ?_ ?_; omega)
    | (refine Wr.u8 ?_ ?_; omega)
    | (refine Wr.i32 ?_ ?_; omega)
    | (with_reducible refine Br.tt ?_)
    | (with_reducible refine Br.ff ?_)
    | (refine Br.dT ?_ ?_; omega)
    | (refine Br.dF ?_ ?_; omega)
    | (refine Br.d (fun h => ?_) (fun h => ?_))
    | (refine Br.swap ?_)
    | (refine Br.bnot ?_)
    | (refine Br.mk (fun h => Step.out ?_) (fun h => Step.out ?_))
    | (refine Two.mk (Step.out ?_) (Step.out ?_))
    | (refine CallOK.of_ct (Step.out ?_))
    | (refine Met.by (g := 19) (key_ct _ (by first | omega | decide | (simp; done) | (simp; omega))) ?_; rintro q outs ⟨rfl, rfl⟩)
    | (refine Vc.mk ?_ (Step.out ?_))
  all_goals first
    | trivial
    | exact hb h
    | with_reducible rfl
    | with_reducible exact ⟨rfl, fun _ _ => rfl⟩
    | omega
    | ((simp_all [same]; done))
theorem rsame_ct (a b : Str) (ha : a.length ≤ 1000000000) (hb : b.length ≤ 1000000000) : Ct Try.prog 14 [.str a, .str b] fun r outs => r = .bool (same a b) ∧ outs = [] := by
  refine .det (.of_W (fn := Try.f14) hΓ hm (by rfl) [] [] (by kernel_rfl) (Step.out ?_))
  repeat' first
    | (refine Step.mk ?_; conv => whnf)
    | (refine Vc.om ?_ ?_; first | omega | with_reducible rfl | with_reducible exact ⟨rfl, fun _ _ => rfl⟩ | (simp only [bytes_2, bytes_3, bytes_4, bytes_5, bytes_9, bytes_12, bytes_21, bytes_22, bytes_26, bytes_29, bytes_35, bytes_36, bytes_37, bytes_40, bytes_46, bytes_50, bytes_51, bytes_52, bytes_59, bytes_63, bytes_66]; omega))
    | (refine NilB.mk fun b hb => Step.out ?_)
    | with_reducible trivial
    | exact noSh_bool _
    | exact noSh_lit _
    | exact noSh_int _ _
    | exact noSh_str _
    | with_reducible rfl
    | with_reducible exact ⟨rfl, fun _ _ => rfl⟩
    | (refine Wr.i64 ?_ ?_; omega)
    | (refine Wr.u8 ?_ ?_; omega)
    | (refine Wr.i32 ?_ ?_; omega)
    | (with_reducible refine Br.tt ?_)
    | (with_reducible refine Br.ff ?_)
    | (refine Br.dT ?_ ?_; omega)
    | (refine Br.dF ?_ ?_; omega)
    | (refine Br.d (fun h => ?_) (fun h => ?_))
    | (refine Br.swap ?_)
    | (refine Br.bnot ?_)
    | (refine Br.mk (fun h => Step.out ?_) (fun h => Step.out ?_))
    | (refine Two.mk (Step.out ?_) (Step.out ?_))
    | (refine CallOK.of_ct (Step.out ?_))
    | (refine Met.by (g := 20) (rkey_ct _ (by first | omega | decide | (simp; done) | (simp; omega))) ?_; rintro q outs ⟨rfl, rfl⟩)
    | (refine Vc.mk ?_ (Step.out ?_))
  all_goals first
    | trivial
    | exact hb h
    | with_reducible rfl
    | with_reducible exact ⟨rfl, fun _ _ => rfl⟩
    | omega
    | ((simp_all [same]; done))
end Kx
