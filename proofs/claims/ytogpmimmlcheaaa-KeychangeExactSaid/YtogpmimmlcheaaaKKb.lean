/-
  keychange: the steps.
  No condition beyond those written in each theorem.
-/
import Derived.Test.YtogpmimmlcheaaaKKa
open Go Sx Go.Proofs
set_option linter.unusedSimpArgs false
set_option linter.unusedVariables false
namespace Kx
def Cu.key (c : Cu) : Int := if c.next = 0 then c.now else c.next
def Cu.erase (c : Cu) (r : Int) : Cu × Int := stepS c r (decide (c.holds.getD r.toNat 0 = 0)) { c with holds := c.holds.set r.toNat 0 }
def Cu.hand (c : Cu) (r : Int) : Cu × Int := stepS c r (!decide (c.holds.getD r.toNat 0 = 0)) { c with holds := c.holds.set r.toNat c.key }
def Cu.bars (c : Cu) (r : Int) : Bool := decide (c.holds.getD r.toNat 0 = 0) || (!decide (c.next = 0) && (decide (c.holds.getD r.toNat 0 = c.now) && decide (c.arrays.getD r.toNat 0 = c.next)))
def Cu.send (c : Cu) (r : Int) : Cu × Int := stepS c r (c.bars r) { c with arrays := c.arrays.set r.toNat (c.holds.getD r.toNat 0) }
theorem chk_len {c : Cu} (h : c.chk = 0) : c.arrays.length = c.holds.length ∧ c.holds.length ≤ 4 ∧ 1 ≤ c.holds.length ∧ 1 ≤ c.now ∧ c.now ≤ 65536 ∧ (c.next = 0 ∨ (c.next = c.now + 1 ∧ c.next ≤ 65536)) := by
  unfold Cu.chk at h
  split at h
  · omega
  · split at h
    · omega
    · omega
theorem erase1_ct (c : Cu) (r : Int) (h0 : 0 ≤ r) (h1 : r < c.holds.length) : Ct Try.prog 37 [c.d, .ref [i64 r]] fun q _ => q = .bool (decide (c.holds.getD r.toNat 0 = 0)) := by
  refine Ct.mono (R := fun q outs => q = .bool (decide (c.holds.getD r.toNat 0 = 0)) ∧ outs = []) ?_ (fun _ _ h => h.1)
  refine .det (.of_W (fn := Try.f37) hΓ hm (by rfl) [] [] (by kernel_rfl) (Step.out ?_))
  repeat' first
    | (refine Step.mk ?_; conv => whnf)
    | (refine Vc.om ?_ ?_; first | omega | with_reducible rfl | with_reducible exact ⟨rfl, fun _ _ => rfl⟩ | (simp only [bytes_2, bytes_3, bytes_4, bytes_5, bytes_9, bytes_12, bytes_21, bytes_22, bytes_25, bytes_27, bytes_28, bytes_31, bytes_41, bytes_43, bytes_44, bytes_45, bytes_49, bytes_51, bytes_62, bytes_71, bytes_75, bytes_78]; omega))
    | (refine NilB.mk fun b hb => Step.out ?_)
    | trivial
    | with_reducible rfl
    | with_reducible exact ⟨rfl, fun _ _ => rfl⟩
    | (refine Wr.i64 ?_ ?_; omega)
    | (refine Wr.u8 ?_ ?_; omega)
    | (refine Wr.i32 ?_ ?_; omega)
    | (refine Br.tt ?_)
    | (refine Br.ff ?_)
    | (refine Br.dT ?_ ?_; omega)
    | (refine Br.dF ?_ ?_; omega)
    | (refine Br.d (fun h => ?_) (fun h => ?_))
    | (refine Br.swap ?_)
    | (refine Br.bnot ?_)
    | (refine Br.mk (fun h => Step.out ?_) (fun h => Step.out ?_))
    | (refine Two.mk (Step.out ?_) (Step.out ?_))
    | (refine CallOK.of_ct (Step.out ?_))
    | (refine Vc.mk ?_ (Step.out ?_))
theorem set_tab (l : List Int) (k : Nat) (x : Int) : l.length = (l.set k x).length ∧ ∀ i, i < (l.set k x).length → (fun j => iteL (j = k) [D.int .i64 x] [D.int .i64 (l.getD j 0)]) i = (fun i => [D.int .i64 ((l.set k x).getD i 0)]) i := by
  refine ⟨by simp, fun i hi => ?_⟩
  have hs := getD_setI l k i x 0 (by simpa using hi)
  simp only [iteL_int, hs]
theorem erase2_ct (c : Cu) (r : Int) (h0 : 0 ≤ r) (h1 : r < c.holds.length) : Ct Try.prog 38 [.fbox c.lo, .ref [i64 r]] fun q outs => q = .tup [] ∧ outs = [.fbox { c with holds := c.holds.set r.toNat 0 : Cu }.lo] := by
  refine .det (.of_W (fn := Try.f38) hΓ hm (by rfl) ord38 [] (by kernel_rfl) (Step.out ?_))
  repeat' first
    | (refine Step.mk ?_; conv => whnf)
    | (refine Vc.om ?_ ?_; first | omega | with_reducible rfl | with_reducible exact ⟨rfl, fun _ _ => rfl⟩ | (simp only [bytes_2, bytes_3, bytes_4, bytes_5, bytes_9, bytes_12, bytes_21, bytes_22, bytes_25, bytes_27, bytes_28, bytes_31, bytes_41, bytes_43, bytes_44, bytes_45, bytes_49, bytes_51, bytes_62, bytes_71, bytes_75, bytes_78]; omega))
    | (refine NilB.mk fun b hb => Step.out ?_)
    | trivial
    | with_reducible rfl
    | with_reducible exact ⟨rfl, fun _ _ => rfl⟩
    | (refine Wr.i64 ?_ ?_; omega)
    | (refine Wr.u8 ?_ ?_; omega)
    | (refine Wr.i32 ?_ ?_; omega)
    | (refine Br.tt ?_)
    | (refine Br.ff ?_)
    | (refine Br.dT ?_ ?_; omega)
    | (refine Br.dF ?_ ?_; omega)
    | (exact set_tab _ _ _)
    | (refine Br.d (fun h => ?_) (fun h => ?_))
    | (refine Br.swap ?_)
    | (refine Br.bnot ?_)
    | (refine Br.mk (fun h => Step.out ?_) (fun h => Step.out ?_))
    | (refine Two.mk (Step.out ?_) (Step.out ?_))
    | (refine CallOK.of_ct (Step.out ?_))
    | (refine Vc.mk ?_ (Step.out ?_))
theorem erase_ct (c : Cu) (hc : c.ok) (r : Int) : Ct Try.prog 13 [c.d, i64 r] fun q outs => q = res (c.erase r).1 (c.erase r).2 ∧ outs = [] := by
  refine .det (.of_W (fn := Try.f13) hΓ hm (by rfl) [] [] (by kernel_rfl) (Step.out ?_))
  repeat' first
    | (refine Step.mk ?_; conv => whnf)
    | (refine Vc.om ?_ ?_; first | omega | with_reducible rfl | with_reducible exact ⟨rfl, fun _ _ => rfl⟩ | (simp only [bytes_2, bytes_3, bytes_4, bytes_5, bytes_9, bytes_12, bytes_21, bytes_22, bytes_25, bytes_27, bytes_28, bytes_31, bytes_41, bytes_43, bytes_44, bytes_45, bytes_49, bytes_51, bytes_62, bytes_71, bytes_75, bytes_78]; omega))
    | (refine NilB.mk fun b hb => Step.out ?_)
    | trivial
    | with_reducible rfl
    | with_reducible exact ⟨rfl, fun _ _ => rfl⟩
    | (refine Wr.i64 ?_ ?_; omega)
    | (refine Wr.u8 ?_ ?_; omega)
    | (refine Wr.i32 ?_ ?_; omega)
    | (refine Br.tt ?_)
    | (refine Br.ff ?_)
    | (refine Br.dT ?_ ?_; omega)
    | (refine Br.dF ?_ ?_; omega)
    | (refine Met.by (step_ct c hc r 37 38 [.ref [i64 r]] [.ref [i64 r]] (decide (c.holds.getD r.toNat 0 = 0)) { c with holds := c.holds.set r.toNat 0 } rfl rfl (fun h0 h1 _ => erase1_ct c r h0 h1) (fun h0 h1 _ _ => erase2_ct c r h0 h1)) ?_; rintro q outs ⟨rfl, rfl⟩)
    | (exact noSh_res _ _)
    | (refine Br.d (fun h => ?_) (fun h => ?_))
    | (refine Br.swap ?_)
    | (refine Br.bnot ?_)
    | (refine Br.mk (fun h => Step.out ?_) (fun h => Step.out ?_))
    | (refine Two.mk (Step.out ?_) (Step.out ?_))
    | (refine CallOK.of_ct (Step.out ?_))
    | (refine Vc.mk ?_ (Step.out ?_))
theorem hand1_ct (c : Cu) (r : Int) (h0 : 0 ≤ r) (h1 : r < c.holds.length) : Ct Try.prog 39 [c.d, .ref [i64 r]] fun q _ => q = .bool (!decide (c.holds.getD r.toNat 0 = 0)) := by
  refine Ct.mono (R := fun q outs => q = .bool (!decide (c.holds.getD r.toNat 0 = 0)) ∧ outs = []) ?_ (fun _ _ h => h.1)
  refine .det (.of_W (fn := Try.f39) hΓ hm (by rfl) [] [] (by kernel_rfl) (Step.out ?_))
  repeat' first
    | (refine Step.mk ?_; conv => whnf)
    | (refine Vc.om ?_ ?_; first | omega | with_reducible rfl | with_reducible exact ⟨rfl, fun _ _ => rfl⟩ | (simp only [bytes_2, bytes_3, bytes_4, bytes_5, bytes_9, bytes_12, bytes_21, bytes_22, bytes_25, bytes_27, bytes_28, bytes_31, bytes_41, bytes_43, bytes_44, bytes_45, bytes_49, bytes_51, bytes_62, bytes_71, bytes_75, bytes_78]; omega))
    | (refine NilB.mk fun b hb => Step.out ?_)
    | trivial
    | with_reducible rfl
    | with_reducible exact ⟨rfl, fun _ _ => rfl⟩
    | (refine Wr.i64 ?_ ?_; omega)
    | (refine Wr.u8 ?_ ?_; omega)
    | (refine Wr.i32 ?_ ?_; omega)
    | (refine Br.tt ?_)
    | (refine Br.ff ?_)
    | (refine Br.dT ?_ ?_; omega)
    | (refine Br.dF ?_ ?_; omega)
    | (refine Br.d (fun h => ?_) (fun h => ?_))
    | (refine Br.swap ?_)
    | (refine Br.bnot ?_)
    | (refine Br.mk (fun h => Step.out ?_) (fun h => Step.out ?_))
    | (refine Two.mk (Step.out ?_) (Step.out ?_))
    | (refine CallOK.of_ct (Step.out ?_))
    | (refine Vc.mk ?_ (Step.out ?_))
theorem hand2_ct (c : Cu) (r : Int) (h0 : 0 ≤ r) (h1 : r < c.holds.length) : Ct Try.prog 40 [.fbox c.lo, .ref [i64 r]] fun q outs => q = .tup [] ∧ outs = [.fbox { c with holds := c.holds.set r.toNat c.key : Cu }.lo] := by
  refine .det (.of_W (fn := Try.f40) hΓ hm (by rfl) ord40 [] (by kernel_rfl) (Step.out ?_))
  repeat' first
    | (refine Step.mk ?_; conv => whnf)
    | (refine Vc.om ?_ ?_; first | omega | with_reducible rfl | with_reducible exact ⟨rfl, fun _ _ => rfl⟩ | (simp only [bytes_2, bytes_3, bytes_4, bytes_5, bytes_9, bytes_12, bytes_21, bytes_22, bytes_25, bytes_27, bytes_28, bytes_31, bytes_41, bytes_43, bytes_44, bytes_45, bytes_49, bytes_51, bytes_62, bytes_71, bytes_75, bytes_78]; omega))
    | (refine NilB.mk fun b hb => Step.out ?_)
    | trivial
    | with_reducible rfl
    | with_reducible exact ⟨rfl, fun _ _ => rfl⟩
    | (refine Wr.i64 ?_ ?_; omega)
    | (refine Wr.u8 ?_ ?_; omega)
    | (refine Wr.i32 ?_ ?_; omega)
    | (refine Br.tt ?_)
    | (refine Br.ff ?_)
    | (refine Br.dT ?_ ?_; omega)
    | (refine Br.dF ?_ ?_; omega)
    | (refine Br.d (fun h => ?_) (fun h => ?_))
    | (refine Br.swap ?_)
    | (refine Br.bnot ?_)
    | (refine Br.mk (fun h => Step.out ?_) (fun h => Step.out ?_))
    | (refine Two.mk (Step.out ?_) (Step.out ?_))
    | (refine CallOK.of_ct (Step.out ?_))
    | (refine Vc.mk ?_ (Step.out ?_))
  all_goals
    refine ⟨by simp, fun i hi => ?_⟩
    have hs := getD_setI c.holds r.toNat i c.key 0 (by simpa using hi)
    simp only [iteL_int, hs]
    by_cases e : i = r.toNat <;> simp [-List.getD_eq_getElem?_getD, setL, iteL_int, Cu.key, h, e]
theorem hand_ct (c : Cu) (hc : c.ok) (r : Int) : Ct Try.prog 14 [c.d, i64 r] fun q outs => q = res (c.hand r).1 (c.hand r).2 ∧ outs = [] := by
  refine .det (.of_W (fn := Try.f14) hΓ hm (by rfl) [] [] (by kernel_rfl) (Step.out ?_))
  repeat' first
    | (refine Step.mk ?_; conv => whnf)
    | (refine Vc.om ?_ ?_; first | omega | with_reducible rfl | with_reducible exact ⟨rfl, fun _ _ => rfl⟩ | (simp only [bytes_2, bytes_3, bytes_4, bytes_5, bytes_9, bytes_12, bytes_21, bytes_22, bytes_25, bytes_27, bytes_28, bytes_31, bytes_41, bytes_43, bytes_44, bytes_45, bytes_49, bytes_51, bytes_62, bytes_71, bytes_75, bytes_78]; omega))
    | (refine NilB.mk fun b hb => Step.out ?_)
    | trivial
    | with_reducible rfl
    | with_reducible exact ⟨rfl, fun _ _ => rfl⟩
    | (refine Wr.i64 ?_ ?_; omega)
    | (refine Wr.u8 ?_ ?_; omega)
    | (refine Wr.i32 ?_ ?_; omega)
    | (refine Br.tt ?_)
    | (refine Br.ff ?_)
    | (refine Br.dT ?_ ?_; omega)
    | (refine Br.dF ?_ ?_; omega)
    | (refine Met.by (step_ct c hc r 39 40 [.ref [i64 r]] [.ref [i64 r]] (!decide (c.holds.getD r.toNat 0 = 0)) { c with holds := c.holds.set r.toNat c.key } rfl rfl (fun h0 h1 _ => hand1_ct c r h0 h1) (fun h0 h1 _ _ => hand2_ct c r h0 h1)) ?_; rintro q outs ⟨rfl, rfl⟩)
    | (exact noSh_res _ _)
    | (refine Br.d (fun h => ?_) (fun h => ?_))
    | (refine Br.swap ?_)
    | (refine Br.bnot ?_)
    | (refine Br.mk (fun h => Step.out ?_) (fun h => Step.out ?_))
    | (refine Two.mk (Step.out ?_) (Step.out ?_))
    | (refine CallOK.of_ct (Step.out ?_))
    | (refine Vc.mk ?_ (Step.out ?_))
theorem send1_ct (c : Cu) (r : Int) (h0 : 0 ≤ r) (h1 : r < c.holds.length) (h2 : r < c.arrays.length) : Ct Try.prog 44 [c.d, .ref [i64 r]] fun q _ => q = .bool (c.bars r) := by
  refine Ct.mono (R := fun q outs => q = .bool (c.bars r) ∧ outs = []) ?_ (fun _ _ h => h.1)
  refine .det (.of_W (fn := Try.f44) hΓ hm (by rfl) ord44 [] (by kernel_rfl) (Step.out ?_))
  repeat' first
    | (refine Step.mk ?_; conv => whnf)
    | (refine Vc.om ?_ ?_; first | omega | with_reducible rfl | with_reducible exact ⟨rfl, fun _ _ => rfl⟩ | (simp only [bytes_2, bytes_3, bytes_4, bytes_5, bytes_9, bytes_12, bytes_21, bytes_22, bytes_25, bytes_27, bytes_28, bytes_31, bytes_41, bytes_43, bytes_44, bytes_45, bytes_49, bytes_51, bytes_62, bytes_71, bytes_75, bytes_78]; omega))
    | (refine NilB.mk fun b hb => Step.out ?_)
    | trivial
    | with_reducible rfl
    | with_reducible exact ⟨rfl, fun _ _ => rfl⟩
    | (refine Wr.i64 ?_ ?_; omega)
    | (refine Wr.u8 ?_ ?_; omega)
    | (refine Wr.i32 ?_ ?_; omega)
    | (refine Br.tt ?_)
    | (refine Br.ff ?_)
    | (refine Br.dT ?_ ?_; omega)
    | (refine Br.dF ?_ ?_; omega)
    | (refine Br.d (fun h => ?_) (fun h => ?_))
    | (refine Br.swap ?_)
    | (refine Br.bnot ?_)
    | (refine Br.mk (fun h => Step.out ?_) (fun h => Step.out ?_))
    | (refine Two.mk (Step.out ?_) (Step.out ?_))
    | (refine CallOK.of_ct (Step.out ?_))
    | (refine Vc.mk ?_ (Step.out ?_))
  all_goals first
    | trivial
    | exact hb h
    | with_reducible rfl
    | with_reducible exact ⟨rfl, fun _ _ => rfl⟩
    | omega
    | ((simp_all [-List.getD_eq_getElem?_getD, Cu.bars]; done))
theorem send2_ct (c : Cu) (r : Int) (h0 : 0 ≤ r) (h1 : r < c.holds.length) (h2 : r < c.arrays.length) : Ct Try.prog 45 [.fbox c.lo, .ref [i64 r]] fun q outs => q = .tup [] ∧ outs = [.fbox { c with arrays := c.arrays.set r.toNat (c.holds.getD r.toNat 0) : Cu }.lo] := by
  refine .det (.of_W (fn := Try.f45) hΓ hm (by rfl) ord45 [] (by kernel_rfl) (Step.out ?_))
  repeat' first
    | (refine Step.mk ?_; conv => whnf)
    | (refine Vc.om ?_ ?_; first | omega | with_reducible rfl | with_reducible exact ⟨rfl, fun _ _ => rfl⟩ | (simp only [bytes_2, bytes_3, bytes_4, bytes_5, bytes_9, bytes_12, bytes_21, bytes_22, bytes_25, bytes_27, bytes_28, bytes_31, bytes_41, bytes_43, bytes_44, bytes_45, bytes_49, bytes_51, bytes_62, bytes_71, bytes_75, bytes_78]; omega))
    | (refine NilB.mk fun b hb => Step.out ?_)
    | trivial
    | with_reducible rfl
    | with_reducible exact ⟨rfl, fun _ _ => rfl⟩
    | (refine Wr.i64 ?_ ?_; omega)
    | (refine Wr.u8 ?_ ?_; omega)
    | (refine Wr.i32 ?_ ?_; omega)
    | (refine Br.tt ?_)
    | (refine Br.ff ?_)
    | (refine Br.dT ?_ ?_; omega)
    | (refine Br.dF ?_ ?_; omega)
    | (exact set_tab _ _ _)
    | (refine Br.d (fun h => ?_) (fun h => ?_))
    | (refine Br.swap ?_)
    | (refine Br.bnot ?_)
    | (refine Br.mk (fun h => Step.out ?_) (fun h => Step.out ?_))
    | (refine Two.mk (Step.out ?_) (Step.out ?_))
    | (refine CallOK.of_ct (Step.out ?_))
    | (refine Vc.mk ?_ (Step.out ?_))
theorem send_ct (c : Cu) (hc : c.ok) (r : Int) : Ct Try.prog 20 [c.d, i64 r] fun q outs => q = res (c.send r).1 (c.send r).2 ∧ outs = [] := by
  refine .det (.of_W (fn := Try.f20) hΓ hm (by rfl) [] [] (by kernel_rfl) (Step.out ?_))
  repeat' first
    | (refine Step.mk ?_; conv => whnf)
    | (refine Vc.om ?_ ?_; first | omega | with_reducible rfl | with_reducible exact ⟨rfl, fun _ _ => rfl⟩ | (simp only [bytes_2, bytes_3, bytes_4, bytes_5, bytes_9, bytes_12, bytes_21, bytes_22, bytes_25, bytes_27, bytes_28, bytes_31, bytes_41, bytes_43, bytes_44, bytes_45, bytes_49, bytes_51, bytes_62, bytes_71, bytes_75, bytes_78]; omega))
    | (refine NilB.mk fun b hb => Step.out ?_)
    | trivial
    | with_reducible rfl
    | with_reducible exact ⟨rfl, fun _ _ => rfl⟩
    | (refine Wr.i64 ?_ ?_; omega)
    | (refine Wr.u8 ?_ ?_; omega)
    | (refine Wr.i32 ?_ ?_; omega)
    | (refine Br.tt ?_)
    | (refine Br.ff ?_)
    | (refine Br.dT ?_ ?_; omega)
    | (refine Br.dF ?_ ?_; omega)
    | (refine Met.by (step_ct c hc r 44 45 [.ref [i64 r]] [.ref [i64 r]] (c.bars r) { c with arrays := c.arrays.set r.toNat (c.holds.getD r.toNat 0) } rfl rfl (fun h0 h1 hk => send1_ct c r h0 h1 (by have := chk_len hk; omega)) (fun h0 h1 hk _ => send2_ct c r h0 h1 (by have := chk_len hk; omega))) ?_; rintro q outs ⟨rfl, rfl⟩)
    | (exact noSh_res _ _)
    | (refine Br.d (fun h => ?_) (fun h => ?_))
    | (refine Br.swap ?_)
    | (refine Br.bnot ?_)
    | (refine Br.mk (fun h => Step.out ?_) (fun h => Step.out ?_))
    | (refine Two.mk (Step.out ?_) (Step.out ?_))
    | (refine CallOK.of_ct (Step.out ?_))
    | (refine Vc.mk ?_ (Step.out ?_))
def startS (n : Int) : Cu × Int := if n < 1 ∨ n > 4 then (.z, 2) else (⟨1, 0, List.replicate n.toNat 0, List.replicate n.toNat 0⟩, 0)
theorem zeros_tab (n : Int) : n.toNat = (List.replicate n.toNat (0 : Int)).length ∧ ∀ i, i < (List.replicate n.toNat (0 : Int)).length → (fun _ => [D.int .i64 0]) i = (fun i => [D.int .i64 ((List.replicate n.toNat (0 : Int)).getD i 0)]) i := by
  refine ⟨by simp, fun i hi => ?_⟩
  simp only [List.getD_eq_getElem?_getD, List.getElem?_replicate]
  split <;> rfl
theorem start_ct (n : Int) : Ct Try.prog 18 [i64 n] fun q outs => q = res (startS n).1 (startS n).2 ∧ outs = [] := by
  refine .det (.of_W (fn := Try.f18) hΓ hm (by rfl) ord18 [] (by kernel_rfl) (Step.out ?_))
  repeat' first
    | (refine Step.mk ?_; conv => whnf)
    | (refine Vc.om ?_ ?_; first | omega | with_reducible rfl | with_reducible exact ⟨rfl, fun _ _ => rfl⟩ | (simp only [bytes_2, bytes_3, bytes_4, bytes_5, bytes_9, bytes_12, bytes_21, bytes_22, bytes_25, bytes_27, bytes_28, bytes_31, bytes_41, bytes_43, bytes_44, bytes_45, bytes_49, bytes_51, bytes_62, bytes_71, bytes_75, bytes_78]; omega))
    | (refine NilB.mk fun b hb => Step.out ?_)
    | trivial
    | with_reducible rfl
    | with_reducible exact ⟨rfl, fun _ _ => rfl⟩
    | (refine Wr.i64 ?_ ?_; omega)
    | (refine Wr.u8 ?_ ?_; omega)
    | (refine Wr.i32 ?_ ?_; omega)
    | (refine Br.tt ?_)
    | (refine Br.ff ?_)
    | (refine Br.dT ?_ ?_; omega)
    | (refine Br.dF ?_ ?_; omega)
    | (refine Vc.om ?_ ?_; focus (simp only [bytes_3]; omega; done))
    | (refine Wr.i64 ?_ ?_; focus (simp only [bytes_3]; omega; done))
    | (refine Wr.u8 ?_ ?_; focus (simp only [bytes_3]; omega; done))
    | (refine Br.dT ?_ ?_; focus (simp only [bytes_3]; omega; done))
    | (refine Br.dF ?_ ?_; focus (simp only [bytes_3]; omega; done))
    | (refine Br.d (fun h => ?_) (fun h => ?_))
    | (refine Br.swap ?_)
    | (refine Br.bnot ?_)
    | (refine Br.mk (fun h => Step.out ?_) (fun h => Step.out ?_))
    | (refine Two.mk (Step.out ?_) (Step.out ?_))
    | (refine CallOK.of_ct (Step.out ?_))
    | (refine Vc.mk ?_ (Step.out ?_))
  all_goals try (have hs : startS n = (.z, 2) := if_pos (by omega)
                 simp [hs, Cu.z]; done)
  all_goals have hs : startS n = (⟨1, 0, List.replicate n.toNat 0, List.replicate n.toNat 0⟩, 0) := if_neg (by omega)
  all_goals rw [hs]
  all_goals first | rfl | exact zeros_tab n
def Cu.begin_ (c : Cu) : Cu × Int := if c.chk ≠ 0 then (.z, c.chk) else if c.next ≠ 0 then (.z, 47) else if c.now = 65536 then (.z, 1) else ({ c with next := c.now + 1 }, 0)
theorem begin_ct (c : Cu) (hc : c.ok) : Ct Try.prog 19 [c.d] fun q outs => q = res c.begin_.1 c.begin_.2 ∧ outs = [] := by
  refine .det (.of_W (fn := Try.f19) hΓ hm (by rfl) [] [] (by kernel_rfl) (Step.out ?_))
  repeat' first
    | (refine Step.mk ?_; conv => whnf)
    | (refine Vc.om ?_ ?_; first | omega | with_reducible rfl | with_reducible exact ⟨rfl, fun _ _ => rfl⟩ | (simp only [bytes_2, bytes_3, bytes_4, bytes_5, bytes_9, bytes_12, bytes_21, bytes_22, bytes_25, bytes_27, bytes_28, bytes_31, bytes_41, bytes_43, bytes_44, bytes_45, bytes_49, bytes_51, bytes_62, bytes_71, bytes_75, bytes_78]; omega))
    | (refine NilB.mk fun b hb => Step.out ?_)
    | trivial
    | with_reducible rfl
    | with_reducible exact ⟨rfl, fun _ _ => rfl⟩
    | (refine Wr.i64 ?_ ?_; omega)
    | (refine Wr.u8 ?_ ?_; omega)
    | (refine Wr.i32 ?_ ?_; omega)
    | (refine Br.tt ?_)
    | (refine Br.ff ?_)
    | (refine Br.dT ?_ ?_; omega)
    | (refine Br.dF ?_ ?_; omega)
    | (refine Vc.om ?_ ?_; focus (have := chk_len ‹c.chk = 0›; omega; done))
    | (refine Wr.i64 ?_ ?_; focus (have := chk_len ‹c.chk = 0›; omega; done))
    | (refine Wr.u8 ?_ ?_; focus (have := chk_len ‹c.chk = 0›; omega; done))
    | (refine Br.dT ?_ ?_; focus (have := chk_len ‹c.chk = 0›; omega; done))
    | (refine Br.dF ?_ ?_; focus (have := chk_len ‹c.chk = 0›; omega; done))
    | (refine Br.d (fun h => ?_) (fun h => ?_))
    | (refine Br.swap ?_)
    | (refine Br.bnot ?_)
    | (refine Br.mk (fun h => Step.out ?_) (fun h => Step.out ?_))
    | (refine Two.mk (Step.out ?_) (Step.out ?_))
    | (refine CallOK.of_ct (Step.out ?_))
    | (refine Met.by (g := 22) (check_ct _ (by assumption)) ?_; rintro q outs ⟨rfl, rfl⟩)
    | (refine Met.by (g := 43) (fresh_ct _ (by assumption)) ?_; rintro q outs ⟨rfl, rfl⟩)
    | (refine Vc.mk ?_ (Step.out ?_))
  all_goals first
    | trivial
    | exact hb h
    | with_reducible rfl
    | with_reducible exact ⟨rfl, fun _ _ => rfl⟩
    | omega
    | ((simp [Cu.begin_, Cu.z, *]; done))
def Cu.late (c : Cu) : Bool := (c.holds ++ c.arrays).any fun x => !decide (x = c.next)
def Cu.finish (c : Cu) : Cu × Int := if c.chk ≠ 0 then (.z, c.chk) else if c.next = 0 ∨ c.late = true then (.z, 47) else ({ c with now := c.next, next := 0 }, 0)
theorem fin1_ct (c : Cu) (x : Int) : Ct Try.prog 47 [i64 x, .ref c.l] fun r _ => r = .bool (!decide (x = c.next)) := by
  refine Ct.mono (R := fun r outs => r = .bool (!decide (x = c.next)) ∧ outs = []) ?_ (fun _ _ h => h.1)
  refine .det (.of_W (fn := Try.f47) hΓ hm (by rfl) [] [] (by kernel_rfl) (Step.out ?_))
  repeat' first
    | (refine Step.mk ?_; conv => whnf)
    | (refine Vc.om ?_ ?_; first | omega | with_reducible rfl | with_reducible exact ⟨rfl, fun _ _ => rfl⟩ | (simp only [bytes_2, bytes_3, bytes_4, bytes_5, bytes_9, bytes_12, bytes_21, bytes_22, bytes_25, bytes_27, bytes_28, bytes_31, bytes_41, bytes_43, bytes_44, bytes_45, bytes_49, bytes_51, bytes_62, bytes_71, bytes_75, bytes_78]; omega))
    | (refine NilB.mk fun b hb => Step.out ?_)
    | trivial
    | with_reducible rfl
    | with_reducible exact ⟨rfl, fun _ _ => rfl⟩
    | (refine Wr.i64 ?_ ?_; omega)
    | (refine Wr.u8 ?_ ?_; omega)
    | (refine Wr.i32 ?_ ?_; omega)
    | (refine Br.tt ?_)
    | (refine Br.ff ?_)
    | (refine Br.dT ?_ ?_; omega)
    | (refine Br.dF ?_ ?_; omega)
    | (refine Br.d (fun h => ?_) (fun h => ?_))
    | (refine Br.swap ?_)
    | (refine Br.bnot ?_)
    | (refine Br.mk (fun h => Step.out ?_) (fun h => Step.out ?_))
    | (refine Two.mk (Step.out ?_) (Step.out ?_))
    | (refine CallOK.of_ct (Step.out ?_))
    | (refine Vc.mk ?_ (Step.out ?_))
theorem finish_ct (c : Cu) (hc : c.ok) : Ct Try.prog 21 [c.d] fun q outs => q = res c.finish.1 c.finish.2 ∧ outs = [] := by
  have hc1 := hc.1
  have hc2 := hc.2
  refine .det (.of_W (fn := Try.f21) hΓ hm (by rfl) [] [] (by kernel_rfl) (Step.out ?_))
  repeat' first
    | (refine Step.mk ?_; conv => whnf)
    | (refine Vc.om ?_ ?_; first | omega | with_reducible rfl | with_reducible exact ⟨rfl, fun _ _ => rfl⟩ | (simp only [bytes_2, bytes_3, bytes_4, bytes_5, bytes_9, bytes_12, bytes_21, bytes_22, bytes_25, bytes_27, bytes_28, bytes_31, bytes_41, bytes_43, bytes_44, bytes_45, bytes_49, bytes_51, bytes_62, bytes_71, bytes_75, bytes_78]; omega))
    | (refine NilB.mk fun b hb => Step.out ?_)
    | trivial
    | with_reducible rfl
    | with_reducible exact ⟨rfl, fun _ _ => rfl⟩
    | (refine Wr.i64 ?_ ?_; omega)
    | (refine Wr.u8 ?_ ?_; omega)
    | (refine Wr.i32 ?_ ?_; omega)
    | (refine Br.tt ?_)
    | (refine Br.ff ?_)
    | (refine Br.dT ?_ ?_; omega)
    | (refine Br.dF ?_ ?_; omega)
    | (refine Met.by (conf_ct (c.holds ++ c.arrays) 47 [.ref c.l] (fun x => !decide (x = c.next)) (by simp; omega) rfl (fun x _ => fin1_ct c x)) ?_; rintro q outs ⟨rfl, rfl⟩)
    | (refine Br.d (fun h => ?_) (fun h => ?_))
    | (refine Br.swap ?_)
    | (refine Br.bnot ?_)
    | (refine Br.mk (fun h => Step.out ?_) (fun h => Step.out ?_))
    | (refine Two.mk (Step.out ?_) (Step.out ?_))
    | (refine CallOK.of_ct (Step.out ?_))
    | (refine Met.by (g := 22) (check_ct _ (by assumption)) ?_; rintro q outs ⟨rfl, rfl⟩)
    | (refine Met.by (g := 43) (fresh_ct _ (by assumption)) ?_; rintro q outs ⟨rfl, rfl⟩)
    | (refine Met.by (g := 46) (concat_ct _ _ (by omega) (by omega)) ?_; rintro q outs ⟨rfl, rfl⟩)
    | (refine Vc.mk ?_ (Step.out ?_))
  all_goals first
    | trivial
    | exact hb h
    | with_reducible rfl
    | with_reducible exact ⟨rfl, fun _ _ => rfl⟩
    | omega
    | (exact noSh_ints _)
    | ((simp [-List.getD_eq_getElem?_getD, Cu.finish, Cu.late, Cu.z, *]; done))
    | ((unfold Cu.finish Cu.late; rw [if_neg (by omega)]; simp_all [-List.getD_eq_getElem?_getD, Cu.z]; done))
end Kx
