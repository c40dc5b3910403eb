/-
  The plain law of KeychangeEnds.
  No condition beyond those written in each theorem.
-/
import Derived.Test.YtogpmimmlcheaaaKKp
import Derived.Test.YtogpmimmlcheaaaKKc
open Go Sx Go.Proofs
set_option linter.unusedSimpArgs false
set_option linter.unusedVariables false
namespace Kx
/-- x is c, and the registry r holds the next key and has sent with it. -/
structure Done (c : Cu) (r : Nat) (x : Cu) : Prop where
  val : x.val
  now : x.now = c.now
  next : x.next = c.next
  len : x.holds.length = c.holds.length
  h : x.holds.getD r 0 = c.next
  a : x.arrays.getD r 0 = c.next
  oh : ∀ j, j < c.holds.length → j ≠ r → x.holds.getD j 0 = c.holds.getD j 0
  oa : ∀ j, j < c.holds.length → j ≠ r → x.arrays.getD j 0 = c.arrays.getD j 0
theorem ends_C {c : Cu} {r : Nat} (hv : c.val) (hn : c.next ≠ 0) (hr : r < c.holds.length) (hh : c.holds.getD r 0 = c.next) : (c.send r).2 = 0 ∧ Done c r (c.send r).1 := by
  have hl := chk_len hv
  have hb : c.bars r = false := by
    unfold Cu.bars
    rw [Int.toNat_natCast, hh, decide_eq_false hn, decide_eq_false (show ¬c.next = c.now by omega)]
    simp
  have hs := send_go (r := (r : Int)) hv (by omega) (by omega) hb
  have hx := (send_nxt (c := c) (r := r) (by rw [hs])).1.val
  rw [hs] at hx ⊢
  refine ⟨rfl, ⟨hx, rfl, rfl, rfl, hh, ?_, fun j _ _ => rfl, fun j hj hne => ?_⟩⟩
  · show (c.arrays.set (r : Int).toNat (c.holds.getD (r : Int).toNat 0)).getD r 0 = c.next
    rw [Int.toNat_natCast, getD_setI _ _ _ _ _ (by omega), if_pos rfl, hh]
  · show (c.arrays.set (r : Int).toNat (c.holds.getD (r : Int).toNat 0)).getD j 0 = _
    rw [Int.toNat_natCast, getD_setI _ _ _ _ _ (by omega), if_neg hne]
theorem ends_U {c u : Cu} {r : Nat} (hv : u.val) (hn : c.next ≠ 0) (hr : r < c.holds.length) (hu : u = { c with holds := c.holds.set r c.next }) : (u.send r).2 = 0 ∧ Done c r (u.send r).1 := by
  have hg : u.holds.getD r 0 = c.next := by
    subst hu
    show (c.holds.set r c.next).getD r 0 = c.next
    rw [getD_setI _ _ _ _ _ hr, if_pos rfl]
  have E := ends_C (c := u) (r := r) hv (by subst hu; exact hn) (by subst hu; simpa using hr) (by rw [hg]; subst hu; rfl)
  refine ⟨E.1, ⟨E.2.val, E.2.now.trans (by subst hu; rfl), E.2.next.trans (by subst hu; rfl), E.2.len.trans (by subst hu; simp), E.2.h.trans (by subst hu; rfl), E.2.a.trans (by subst hu; rfl), fun j hj hne => ?_, fun j hj hne => ?_⟩⟩
  · rw [E.2.oh j (by subst hu; simpa using hj) hne]
    subst hu
    show (c.holds.set r c.next).getD j 0 = _
    rw [getD_setI _ _ _ _ _ hj, if_neg hne]
  · rw [E.2.oa j (by subst hu; simpa using hj) hne]
    subst hu; rfl
theorem ends_B {c : Cu} {r : Nat} (hv : c.val) (hn : c.next ≠ 0) (hr : r < c.holds.length) (hh : c.holds.getD r 0 = 0) : (c.hand r).2 = 0 ∧ (c.hand r).1.holds.length = c.holds.length ∧ ((c.hand r).1.send r).2 = 0 ∧ Done c r ((c.hand r).1.send r).1 := by
  have hs := hand_go (r := (r : Int)) hv (by omega) (by omega) (by rw [Int.toNat_natCast]; exact hh)
  have hx := (hand_nxt (c := c) (r := r) (by rw [hs])).1.val
  have hu : (c.hand r).1 = { c with holds := c.holds.set r c.next } := by
    rw [hs]; simp [Cu.key, hn]
  have E := ends_U hx hn hr hu
  exact ⟨by rw [hs], by rw [hu]; simp, E.1, E.2⟩
theorem ends_A {c : Cu} {r : Nat} (hv : c.val) (hn : c.next ≠ 0) (hr : r < c.holds.length) (hh : c.holds.getD r 0 = c.now) :
    (c.erase r).2 = 0 ∧ (c.erase r).1.holds.length = c.holds.length ∧ (c.erase r).1.holds.getD r 0 = 0 ∧ ((c.erase r).1.hand r).2 = 0 ∧ ((c.erase r).1.hand r).1.holds.length = c.holds.length ∧ (((c.erase r).1.hand r).1.send r).2 = 0 ∧ Done c r (((c.erase r).1.hand r).1.send r).1 := by
  have hl := chk_len hv
  have hz : ¬c.holds.getD (r : Int).toNat 0 = 0 := by rw [Int.toNat_natCast, hh]; omega
  have he := erase_go (r := (r : Int)) hv (by omega) (by omega) hz
  have hev := (erase_nxt (c := c) (r := r) (by rw [he])).1.val
  have hs := lost_hand (r := (r : Int)) hv (by omega) (by omega) hz
  have hx := (hand_nxt (c := (c.erase r).1) (r := r) (by rw [hs])).1.val
  have hu : ((c.erase r).1.hand r).1 = { c with holds := c.holds.set r c.next } := by
    rw [hs]; simp [Cu.key, hn]
  have E := ends_U hx hn hr hu
  refine ⟨by rw [he], by rw [he]; simp, ?_, by rw [hs], by rw [hu]; simp, E.1, E.2⟩
  rw [he]
  show (c.holds.set (r : Int).toNat 0).getD r 0 = 0
  rw [Int.toNat_natCast, getD_setI _ _ _ _ _ hr, if_pos rfl]
theorem ends_fin {c : Cu} (hv : c.val) (hn : c.next ≠ 0) (hh : ∀ j, j < c.holds.length → c.holds.getD j 0 = c.next ∧ c.arrays.getD j 0 = c.next) : c.finish.2 = 0 ∧ c.finish.1.now = c.next ∧ c.finish.1.next = 0 ∧ c.finish.1.ready = true := by
  have hl := chk_len hv
  have hlate : c.late = false := by
    unfold Cu.late
    rw [List.any_append, any_F (z := 0) fun j hj => by rw [(hh j hj).1]; simp, any_F (z := 0) fun j hj => by rw [(hh j (by omega)).2]; simp]
    rfl
  have hf : c.finish = ({ c with now := c.next, next := 0 }, 0) := by
    unfold Cu.finish
    rw [if_neg (@not_not_intro (c.chk = 0) hv), if_neg (by rw [hlate]; simpa using hn)]
  have hx := (finish_nxt (c := c) (by rw [hf])).1.val
  rw [hf] at hx ⊢
  refine ⟨rfl, rfl, rfl, ?_⟩
  unfold Cu.ready
  rw [decide_eq_true (show Cu.chk { c with now := c.next, next := 0 } = 0 from hx)]
  have h0 := (hh 0 (by omega)).2
  show (true && (!decide (c.arrays.getD 0 0 = 0) && !(c.arrays.any fun x => !decide (x = c.arrays.getD 0 0)))) = true
  rw [any_F (z := 0) fun j hj => by rw [(hh j (by omega)).2, h0]; simp, h0, decide_eq_false hn]
  rfl
theorem begin_go {c : Cu} (hv : c.val) (hn : c.next = 0) : (c.begin_.2 = 0 ∧ c.begin_.1 = { c with next := c.now + 1 }) ∨ c.begin_.2 = 1 := by
  unfold Cu.begin_
  rw [if_neg (@not_not_intro (c.chk = 0) hv), if_neg (by simpa using hn)]
  split
  · exact .inr rfl
  · exact .inl ⟨rfl, rfl⟩
end Kx
