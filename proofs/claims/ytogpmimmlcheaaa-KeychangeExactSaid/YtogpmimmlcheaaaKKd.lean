/-
  The rest of the references; lists compared.
  No condition beyond those written in each theorem.
-/
import Derived.Test.YtogpmimmlcheaaaKKc
open Go Sx Go.Proofs
set_option linter.unusedSimpArgs false
set_option linter.unusedVariables false
namespace Kx
theorem list_ext {α : Type} {a b : List α} {z : α} (hl : a.length = b.length) (h : ∀ j, j < a.length → a.getD j z = b.getD j z) : a = b := by
  refine List.ext_getElem hl fun j h1 h2 => ?_
  have := h j h1
  rw [List.getD_eq_getElem?_getD, List.getD_eq_getElem?_getD, List.getElem?_eq_getElem h1, List.getElem?_eq_getElem h2] at this
  simpa using this
theorem ints_ct (a b : List Int) (ha : a.length ≤ 1000000) (hb : b.length ≤ 1000000) : Ct Try.prog 15 [ints a, ints b] fun q outs => q = .bool (decide (a = b)) ∧ outs = [] := by
  refine .det (.of_W (fn := Try.f15) hΓ hm (by rfl) ord15 [] (by kernel_rfl) (Step.out ?_))
  repeat' first
    | (refine Step.mk ?_; conv => whnf)
    | (refine Vc.om ?_ ?_; first | omega | with_reducible rfl | with_reducible exact ⟨rfl, fun _ _ => rfl⟩ | (simp only [bytes_2, bytes_3, bytes_4, bytes_5, bytes_9, bytes_12, bytes_21, bytes_22, bytes_25, bytes_27, bytes_28, bytes_31, bytes_41, bytes_43, bytes_44, bytes_45, bytes_49, bytes_51, bytes_62, bytes_71, bytes_75, bytes_78]; omega))
    | (refine NilB.mk fun b hb => Step.out ?_)
    | trivial
    | with_reducible rfl
    | with_reducible exact ⟨rfl, fun _ _ => rfl⟩
    | (refine Wr.i64 ?_ ?_; omega)
    | (refine Wr.u8 ?_ ?_; omega)
    | (refine Wr.i32 ?_ ?_; omega)
    | (refine Br.tt ?_)
    | (refine Br.ff ?_)
    | (refine Br.dT ?_ ?_; omega)
    | (refine Br.dF ?_ ?_; omega)
    | (refine Br.d (fun h => ?_) (fun h => ?_))
    | (refine Br.swap ?_)
    | (refine Br.bnot ?_)
    | (refine Br.mk (fun h => Step.out ?_) (fun h => Step.out ?_))
    | (refine Two.mk (Step.out ?_) (Step.out ?_))
    | (refine CallOK.of_ct (Step.out ?_))
    | (refine Vc.mk ?_ (Step.out ?_))
  · refine CodeOK.loopW hΓ hm ord15 [] (by kernel_rfl) (α := Nat) (fun i => [(0, ints a), (1, ints b), (5, i64 i)]) (fun i => []) 0 (fun i => i ≤ a.length ∧ ∀ j, j < i → a.getD j 0 = b.getD j 0) (fun i => a.length - i) ?_ ?_
    · refine Again.by 0 ⟨Nat.zero_le _, fun j hj => by omega⟩ ?_
      repeat' first
        | (refine Step.mk ?_; conv => whnf)
        | (refine Vc.om ?_ ?_; first | omega | with_reducible rfl | with_reducible exact ⟨rfl, fun _ _ => rfl⟩ | (simp only [bytes_2, bytes_3, bytes_4, bytes_5, bytes_9, bytes_12, bytes_21, bytes_22, bytes_25, bytes_27, bytes_28, bytes_31, bytes_41, bytes_43, bytes_44, bytes_45, bytes_49, bytes_51, bytes_62, bytes_71, bytes_75, bytes_78]; omega))
        | (refine NilB.mk fun b hb => Step.out ?_)
        | trivial
        | with_reducible rfl
        | with_reducible exact ⟨rfl, fun _ _ => rfl⟩
        | (refine Wr.i64 ?_ ?_; omega)
        | (refine Wr.u8 ?_ ?_; omega)
        | (refine Wr.i32 ?_ ?_; omega)
        | (refine Br.tt ?_)
        | (refine Br.ff ?_)
        | (refine Br.dT ?_ ?_; omega)
        | (refine Br.dF ?_ ?_; omega)
        | (refine Br.d (fun h => ?_) (fun h => ?_))
        | (refine Br.swap ?_)
        | (refine Br.bnot ?_)
        | (refine Br.mk (fun h => Step.out ?_) (fun h => Step.out ?_))
        | (refine Two.mk (Step.out ?_) (Step.out ?_))
        | (refine CallOK.of_ct (Step.out ?_))
        | (refine Vc.mk ?_ (Step.out ?_))
    · intro i ⟨hi, hI⟩
      repeat' first
        | (refine Step.mk ?_; conv => whnf)
        | (refine Vc.om ?_ ?_; first | omega | with_reducible rfl | with_reducible exact ⟨rfl, fun _ _ => rfl⟩ | (simp only [bytes_2, bytes_3, bytes_4, bytes_5, bytes_9, bytes_12, bytes_21, bytes_22, bytes_25, bytes_27, bytes_28, bytes_31, bytes_41, bytes_43, bytes_44, bytes_45, bytes_49, bytes_51, bytes_62, bytes_71, bytes_75, bytes_78]; omega))
        | (refine NilB.mk fun b hb => Step.out ?_)
        | trivial
        | with_reducible rfl
        | with_reducible exact ⟨rfl, fun _ _ => rfl⟩
        | (refine Wr.i64 ?_ ?_; omega)
        | (refine Wr.u8 ?_ ?_; omega)
        | (refine Wr.i32 ?_ ?_; omega)
        | (refine Br.tt ?_)
        | (refine Br.ff ?_)
        | (refine Br.dT ?_ ?_; omega)
        | (refine Br.dF ?_ ?_; omega)
        | (refine Br.d (fun h => ?_) (fun h => ?_))
        | (refine Br.swap ?_)
        | (refine Br.bnot ?_)
        | (refine Br.mk (fun h => Step.out ?_) (fun h => Step.out ?_))
        | (refine Two.mk (Step.out ?_) (Step.out ?_))
        | (refine CallOK.of_ct (Step.out ?_))
        | (refine Vc.mk ?_ (Step.out ?_))
      all_goals try simp only [Int.toNat_natCast] at *
      · refine Again.by (i + 1) ⟨⟨by omega, fun j hj => ?_⟩, by omega⟩ ?_
        · by_cases e : j = i
          · subst e; assumption
          · exact hI j (by omega)
        · repeat' first
            | (refine Step.mk ?_; conv => whnf)
            | (refine Vc.om ?_ ?_; first | omega | with_reducible rfl | with_reducible exact ⟨rfl, fun _ _ => rfl⟩ | (simp only [bytes_2, bytes_3, bytes_4, bytes_5, bytes_9, bytes_12, bytes_21, bytes_22, bytes_25, bytes_27, bytes_28, bytes_31, bytes_41, bytes_43, bytes_44, bytes_45, bytes_49, bytes_51, bytes_62, bytes_71, bytes_75, bytes_78]; omega))
            | (refine NilB.mk fun b hb => Step.out ?_)
            | trivial
            | with_reducible rfl
            | with_reducible exact ⟨rfl, fun _ _ => rfl⟩
            | (refine Wr.i64 ?_ ?_; omega)
            | (refine Wr.u8 ?_ ?_; omega)
            | (refine Wr.i32 ?_ ?_; omega)
            | (refine Br.tt ?_)
            | (refine Br.ff ?_)
            | (refine Br.dT ?_ ?_; omega)
            | (refine Br.dF ?_ ?_; omega)
            | (refine Br.d (fun h => ?_) (fun h => ?_))
            | (refine Br.swap ?_)
            | (refine Br.bnot ?_)
            | (refine Br.mk (fun h => Step.out ?_) (fun h => Step.out ?_))
            | (refine Two.mk (Step.out ?_) (Step.out ?_))
            | (refine CallOK.of_ct (Step.out ?_))
            | (refine Vc.mk ?_ (Step.out ?_))
      · exact (decide_eq_false fun e => h (by rw [e])).symm
      · exact (decide_eq_true (list_ext (by omega) fun j hj => hI j (by omega))).symm
  · exact (decide_eq_false fun e => h (by rw [e])).symm
def Cu.same (a b : Cu) : Bool := decide (a.now = b.now) && (decide (a.next = b.next) && (decide (a.holds = b.holds) && decide (a.arrays = b.arrays)))
theorem same_ct (a b : Cu) (ha : a.ok) (hb : b.ok) : Ct Try.prog 24 [a.d, b.d] fun q outs => q = .bool (a.same b) ∧ outs = [] := by
  obtain ⟨ha1, ha2⟩ := ha
  obtain ⟨hb1, hb2⟩ := hb
  refine .det (.of_W (fn := Try.f24) hΓ hm (by rfl) ord24 [] (by kernel_rfl) (Step.out ?_))
  repeat' first
    | (refine Step.mk ?_; conv => whnf)
    | (refine Vc.om ?_ ?_; first | omega | with_reducible rfl | with_reducible exact ⟨rfl, fun _ _ => rfl⟩ | (simp only [bytes_2, bytes_3, bytes_4, bytes_5, bytes_9, bytes_12, bytes_21, bytes_22, bytes_25, bytes_27, bytes_28, bytes_31, bytes_41, bytes_43, bytes_44, bytes_45, bytes_49, bytes_51, bytes_62, bytes_71, bytes_75, bytes_78]; omega))
    | (refine NilB.mk fun b hb => Step.out ?_)
    | trivial
    | with_reducible rfl
    | with_reducible exact ⟨rfl, fun _ _ => rfl⟩
    | (refine Wr.i64 ?_ ?_; omega)
    | (refine Wr.u8 ?_ ?_; omega)
    | (refine Wr.i32 ?_ ?_; omega)
    | (refine Br.tt ?_)
    | (refine Br.ff ?_)
    | (refine Br.dT ?_ ?_; omega)
    | (refine Br.dF ?_ ?_; omega)
    | (refine Br.d (fun h => ?_) (fun h => ?_))
    | (refine Br.swap ?_)
    | (refine Br.bnot ?_)
    | (refine Br.mk (fun h => Step.out ?_) (fun h => Step.out ?_))
    | (refine Two.mk (Step.out ?_) (Step.out ?_))
    | (refine CallOK.of_ct (Step.out ?_))
    | (refine Vc.mk ?_ (Step.out ?_))
  · refine CodeOK.loopW hΓ hm ord24 [] (by kernel_rfl) (α := Nat) (fun i => [(2, .loc 0 0), (3, .loc 1 0), (5, i64 i)]) (fun i => [(0, .var a.l), (1, .var b.l)]) 2 (fun i => i ≤ a.holds.length ∧ ∀ j, j < i → a.holds.getD j 0 = b.holds.getD j 0) (fun i => a.holds.length - i) ?_ ?_
    · refine Again.by 0 ⟨Nat.zero_le _, fun j hj => by omega⟩ ?_
      repeat' first
        | (refine Step.mk ?_; conv => whnf)
        | (refine Vc.om ?_ ?_; first | omega | with_reducible rfl | with_reducible exact ⟨rfl, fun _ _ => rfl⟩ | (simp only [bytes_2, bytes_3, bytes_4, bytes_5, bytes_9, bytes_12, bytes_21, bytes_22, bytes_25, bytes_27, bytes_28, bytes_31, bytes_41, bytes_43, bytes_44, bytes_45, bytes_49, bytes_51, bytes_62, bytes_71, bytes_75, bytes_78]; omega))
        | (refine NilB.mk fun b hb => Step.out ?_)
        | trivial
        | with_reducible rfl
        | with_reducible exact ⟨rfl, fun _ _ => rfl⟩
        | (refine Wr.i64 ?_ ?_; omega)
        | (refine Wr.u8 ?_ ?_; omega)
        | (refine Wr.i32 ?_ ?_; omega)
        | (refine Br.tt ?_)
        | (refine Br.ff ?_)
        | (refine Br.dT ?_ ?_; omega)
        | (refine Br.dF ?_ ?_; omega)
        | (refine Br.d (fun h => ?_) (fun h => ?_))
        | (refine Br.swap ?_)
        | (refine Br.bnot ?_)
        | (refine Br.mk (fun h => Step.out ?_) (fun h => Step.out ?_))
        | (refine Two.mk (Step.out ?_) (Step.out ?_))
        | (refine CallOK.of_ct (Step.out ?_))
        | (refine Vc.mk ?_ (Step.out ?_))
    · intro i ⟨hi, hI⟩
      repeat' first
        | (refine Step.mk ?_; conv => whnf)
        | (refine Vc.om ?_ ?_; first | omega | with_reducible rfl | with_reducible exact ⟨rfl, fun _ _ => rfl⟩ | (simp only [bytes_2, bytes_3, bytes_4, bytes_5, bytes_9, bytes_12, bytes_21, bytes_22, bytes_25, bytes_27, bytes_28, bytes_31, bytes_41, bytes_43, bytes_44, bytes_45, bytes_49, bytes_51, bytes_62, bytes_71, bytes_75, bytes_78]; omega))
        | (refine NilB.mk fun b hb => Step.out ?_)
        | trivial
        | with_reducible rfl
        | with_reducible exact ⟨rfl, fun _ _ => rfl⟩
        | (refine Wr.i64 ?_ ?_; omega)
        | (refine Wr.u8 ?_ ?_; omega)
        | (refine Wr.i32 ?_ ?_; omega)
        | (refine Br.tt ?_)
        | (refine Br.ff ?_)
        | (refine Br.dT ?_ ?_; omega)
        | (refine Br.dF ?_ ?_; omega)
        | (refine Br.d (fun h => ?_) (fun h => ?_))
        | (refine Br.swap ?_)
        | (refine Br.bnot ?_)
        | (refine Br.mk (fun h => Step.out ?_) (fun h => Step.out ?_))
        | (refine Two.mk (Step.out ?_) (Step.out ?_))
        | (refine CallOK.of_ct (Step.out ?_))
        | (refine Vc.mk ?_ (Step.out ?_))
      all_goals try simp only [Int.toNat_natCast] at *
      · refine Again.by (i + 1) ⟨⟨by omega, fun j hj => ?_⟩, by omega⟩ ?_
        · by_cases e : j = i
          · subst e; assumption
          · exact hI j (by omega)
        · repeat' first
            | (refine Step.mk ?_; conv => whnf)
            | (refine Vc.om ?_ ?_; first | omega | with_reducible rfl | with_reducible exact ⟨rfl, fun _ _ => rfl⟩ | (simp only [bytes_2, bytes_3, bytes_4, bytes_5, bytes_9, bytes_12, bytes_21, bytes_22, bytes_25, bytes_27, bytes_28, bytes_31, bytes_41, bytes_43, bytes_44, bytes_45, bytes_49, bytes_51, bytes_62, bytes_71, bytes_75, bytes_78]; omega))
            | (refine NilB.mk fun b hb => Step.out ?_)
            | trivial
            | with_reducible rfl
            | with_reducible exact ⟨rfl, fun _ _ => rfl⟩
            | (refine Wr.i64 ?_ ?_; omega)
            | (refine Wr.u8 ?_ ?_; omega)
            | (refine Wr.i32 ?_ ?_; omega)
            | (refine Br.tt ?_)
            | (refine Br.ff ?_)
            | (refine Br.dT ?_ ?_; omega)
            | (refine Br.dF ?_ ?_; omega)
            | (refine Br.d (fun h => ?_) (fun h => ?_))
            | (refine Br.swap ?_)
            | (refine Br.bnot ?_)
            | (refine Br.mk (fun h => Step.out ?_) (fun h => Step.out ?_))
            | (refine Two.mk (Step.out ?_) (Step.out ?_))
            | (refine CallOK.of_ct (Step.out ?_))
            | (refine Vc.mk ?_ (Step.out ?_))
      · unfold Cu.same
        rw [decide_eq_false (p := a.holds = b.holds) fun e => h (by rw [e])]; simp
      · have eh : a.holds = b.holds := list_ext (by omega) fun j hj => hI j (by omega)
        refine CodeOK.loopW hΓ hm ord24 [] (by kernel_rfl) (α := Nat) (fun i => [(2, .loc 0 0), (3, .loc 1 0), (6, i64 i)]) (fun i => [(0, .var a.l), (1, .var b.l)]) 2 (fun i => i ≤ a.arrays.length ∧ ∀ j, j < i → a.arrays.getD j 0 = b.arrays.getD j 0) (fun i => a.arrays.length - i) ?_ ?_
        · refine Again.by 0 ⟨Nat.zero_le _, fun j hj => by omega⟩ ?_
          repeat' first
            | (refine Step.mk ?_; conv => whnf)
            | (refine Vc.om ?_ ?_; first | omega | with_reducible rfl | with_reducible exact ⟨rfl, fun _ _ => rfl⟩ | (simp only [bytes_2, bytes_3, bytes_4, bytes_5, bytes_9, bytes_12, bytes_21, bytes_22, bytes_25, bytes_27, bytes_28, bytes_31, bytes_41, bytes_43, bytes_44, bytes_45, bytes_49, bytes_51, bytes_62, bytes_71, bytes_75, bytes_78]; omega))
            | (refine NilB.mk fun b hb => Step.out ?_)
            | trivial
            | with_reducible rfl
            | with_reducible exact ⟨rfl, fun _ _ => rfl⟩
            | (refine Wr.i64 ?_ ?_; omega)
            | (refine Wr.u8 ?_ ?_; omega)
            | (refine Wr.i32 ?_ ?_; omega)
            | (refine Br.tt ?_)
            | (refine Br.ff ?_)
            | (refine Br.dT ?_ ?_; omega)
            | (refine Br.dF ?_ ?_; omega)
            | (refine Br.d (fun h => ?_) (fun h => ?_))
            | (refine Br.swap ?_)
            | (refine Br.bnot ?_)
            | (refine Br.mk (fun h => Step.out ?_) (fun h => Step.out ?_))
            | (refine Two.mk (Step.out ?_) (Step.out ?_))
            | (refine CallOK.of_ct (Step.out ?_))
            | (refine Vc.mk ?_ (Step.out ?_))
        · intro i ⟨hi, hI⟩
          repeat' first
            | (refine Step.mk ?_; conv => whnf)
            | (refine Vc.om ?_ ?_; first | omega | with_reducible rfl | with_reducible exact ⟨rfl, fun _ _ => rfl⟩ | (simp only [bytes_2, bytes_3, bytes_4, bytes_5, bytes_9, bytes_12, bytes_21, bytes_22, bytes_25, bytes_27, bytes_28, bytes_31, bytes_41, bytes_43, bytes_44, bytes_45, bytes_49, bytes_51, bytes_62, bytes_71, bytes_75, bytes_78]; omega))
            | (refine NilB.mk fun b hb => Step.out ?_)
            | trivial
            | with_reducible rfl
            | with_reducible exact ⟨rfl, fun _ _ => rfl⟩
            | (refine Wr.i64 ?_ ?_; omega)
            | (refine Wr.u8 ?_ ?_; omega)
            | (refine Wr.i32 ?_ ?_; omega)
            | (refine Br.tt ?_)
            | (refine Br.ff ?_)
            | (refine Br.dT ?_ ?_; omega)
            | (refine Br.dF ?_ ?_; omega)
            | (refine Br.d (fun h => ?_) (fun h => ?_))
            | (refine Br.swap ?_)
            | (refine Br.bnot ?_)
            | (refine Br.mk (fun h => Step.out ?_) (fun h => Step.out ?_))
            | (refine Two.mk (Step.out ?_) (Step.out ?_))
            | (refine CallOK.of_ct (Step.out ?_))
            | (refine Vc.mk ?_ (Step.out ?_))
          all_goals try simp only [Int.toNat_natCast] at *
          · refine Again.by (i + 1) ⟨⟨by omega, fun j hj => ?_⟩, by omega⟩ ?_
            · by_cases e : j = i
              · subst e; assumption
              · exact hI j (by omega)
            · repeat' first
                | (refine Step.mk ?_; conv => whnf)
                | (refine Vc.om ?_ ?_; first | omega | with_reducible rfl | with_reducible exact ⟨rfl, fun _ _ => rfl⟩ | (simp only [bytes_2, bytes_3, bytes_4, bytes_5, bytes_9, bytes_12, bytes_21, bytes_22, bytes_25, bytes_27, bytes_28, bytes_31, bytes_41, bytes_43, bytes_44, bytes_45, bytes_49, bytes_51, bytes_62, bytes_71, bytes_75, bytes_78]; omega))
                | (refine NilB.mk fun b hb => Step.out ?_)
                | trivial
                | with_reducible rfl
                | with_reducible exact ⟨rfl, fun _ _ => rfl⟩
                | (refine Wr.i64 ?_ ?_; omega)
                | (refine Wr.u8 ?_ ?_; omega)
                | (refine Wr.i32 ?_ ?_; omega)
                | (refine Br.tt ?_)
                | (refine Br.ff ?_)
                | (refine Br.dT ?_ ?_; omega)
                | (refine Br.dF ?_ ?_; omega)
                | (refine Br.d (fun h => ?_) (fun h => ?_))
                | (refine Br.swap ?_)
                | (refine Br.bnot ?_)
                | (refine Br.mk (fun h => Step.out ?_) (fun h => Step.out ?_))
                | (refine Two.mk (Step.out ?_) (Step.out ?_))
                | (refine CallOK.of_ct (Step.out ?_))
                | (refine Vc.mk ?_ (Step.out ?_))
          · unfold Cu.same
            rw [decide_eq_false (p := a.arrays = b.arrays) fun e => h (by rw [e])]; simp
          · have ea : a.arrays = b.arrays := list_ext (by omega) fun j hj => hI j (by omega)
            simp [Cu.same, *]
  · unfold Cu.same
    rw [decide_eq_false (p := a.arrays = b.arrays) fun e => h (by rw [e])]; simp
  · unfold Cu.same
    rw [decide_eq_false (p := a.holds = b.holds) fun e => h (by rw [e])]; simp
  · simp [Cu.same, *]
  · simp [Cu.same, *]
end Kx
