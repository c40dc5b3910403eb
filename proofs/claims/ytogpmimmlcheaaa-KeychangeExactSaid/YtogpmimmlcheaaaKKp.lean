/-
  The plain law of custodies: what steps keep.
  No condition beyond those written in each theorem.
-/
import Derived.Test.YtogpmimmlcheaaaKKa
import Derived.Test.YtogpmimmlcheaaaKKb
open Go Sx Go.Proofs
set_option linter.unusedSimpArgs false
set_option linter.unusedVariables false
namespace Kx
/-- A valid custody. -/
def Cu.val (c : Cu) : Prop := c.chk = 0
theorem Cu.val.ok {c : Cu} (h : c.val) : c.ok := by have := chk_len h; unfold Cu.ok; omega
theorem misfit_F {c : Cu} {x : Int} : misfit c x = false ↔ x = 0 ∨ x = c.now ∨ x = c.next := by
  unfold misfit
  by_cases h1 : x = 0 <;> by_cases h2 : x = c.now <;> by_cases h3 : x = c.next <;> simp [h1, h2, h3]
theorem val_iff {c : Cu} : c.val ↔ (1 ≤ c.now ∧ c.now ≤ 65536 ∧ (c.next = 0 ∨ (c.next = c.now + 1 ∧ c.next ≤ 65536))) ∧ (1 ≤ c.holds.length ∧ c.holds.length ≤ 4 ∧ c.arrays.length = c.holds.length) ∧
    (∀ x ∈ c.holds, x = 0 ∨ x = c.now ∨ x = c.next) ∧ ∀ x ∈ c.arrays, x = 0 ∨ x = c.now ∨ x = c.next := by
  unfold Cu.val Cu.chk
  split
  · rename_i h
    exact ⟨fun e => by omega, fun e => by omega⟩
  · split
    · rename_i h
      exact ⟨fun e => by omega, fun e => by omega⟩
    · rename_i h1 h2
      cases h : (c.holds ++ c.arrays).any (misfit c)
      · simp only [Bool.false_eq_true, if_false, true_iff]
        rw [List.any_eq_false] at h
        have hf : ∀ x ∈ c.holds ++ c.arrays, x = 0 ∨ x = c.now ∨ x = c.next := fun x hx => misfit_F.1 (by simpa using h x hx)
        refine ⟨by omega, by omega, fun x hx => hf x (by simp [hx]), fun x hx => hf x (by simp [hx])⟩
      · simp only [if_true]
        refine ⟨fun e => by omega, fun e => ?_⟩
        obtain ⟨x, hx, hm⟩ := List.any_eq_true.1 h
        have hx : x ∈ c.holds ∨ x ∈ c.arrays := by simpa using hx
        have : misfit c x = false := misfit_F.2 (hx.elim (e.2.2.1 x) (e.2.2.2 x))
        rw [this] at hm; cases hm
/-- A custody, and the one behind a step. -/
structure Nxt (c x : Cu) : Prop where
  val : x.val
  len : x.holds.length = c.holds.length
  now : c.now ≤ x.now
  keep : ∀ i, i < c.holds.length → c.holds.getD i 0 = x.holds.getD i 0 ∨ c.holds.getD i 0 = 0 ∨ x.holds.getD i 0 = 0
  all : c.now < x.now → ∀ i, i < c.holds.length → x.holds.getD i 0 = x.now ∧ x.arrays.getD i 0 = x.now
theorem Nxt.refl {c : Cu} (h : c.val) : Nxt c c := ⟨h, rfl, Int.le_refl _, fun _ _ => .inl rfl, fun h => absurd h (Int.lt_irrefl _)⟩
theorem stepS_0 {c : Cu} {r : Int} {b : Bool} {u : Cu} (h : (stepS c r b u).2 = 0) : c.val ∧ 0 ≤ r ∧ r < c.holds.length ∧ b = false ∧ stepS c r b u = (u, 0) := by
  unfold stepS at h ⊢
  split at h
  · rename_i h'; exact absurd h h'
  · rename_i h'
    split at h
    · exact absurd h (by decide)
    · split at h
      · exact absurd h (by decide)
      · rename_i h2 h3
        refine ⟨(Decidable.not_not (p := c.chk = 0)).1 h', by omega, by omega, by simpa using h3, ?_⟩
        rw [if_neg h', if_neg h2, if_neg h3]
theorem mem_set {α : Type} {l : List α} {k : Nat} {x y : α} (h : y ∈ l.set k x) : y ∈ l ∨ y = x := List.mem_or_eq_of_mem_set h
theorem erase_nxt {c : Cu} {r : Int} (h : (c.erase r).2 = 0) : Nxt c (c.erase r).1 ∧ (c.erase r).1 = { c with holds := c.holds.set r.toNat 0 } ∧ c.holds.getD r.toNat 0 ≠ 0 := by
  obtain ⟨hv, h0, h1, hb, he⟩ := stepS_0 h
  have he : c.erase r = _ := he
  rw [he]
  obtain ⟨v1, v2, v3, v4⟩ := val_iff.1 hv
  refine ⟨⟨val_iff.2 ⟨v1, by simpa using v2, fun x hx => ?_, v4⟩, by simp, Int.le_refl _, fun i hi => ?_, fun h => absurd h (Int.lt_irrefl _)⟩, rfl, by simpa using hb⟩
  · rcases mem_set hx with hx | hx
    · exact v3 x hx
    · exact .inl hx
  · show _ ∨ _ ∨ (c.holds.set r.toNat 0).getD i 0 = 0
    rw [show ({ c with holds := c.holds.set r.toNat 0 } : Cu).holds = c.holds.set r.toNat 0 from rfl, getD_setI _ _ _ _ _ (by simpa using hi)]
    split
    · exact .inr (.inr rfl)
    · exact .inl rfl
theorem hand_nxt {c : Cu} {r : Int} (h : (c.hand r).2 = 0) : Nxt c (c.hand r).1 ∧ (c.hand r).1 = { c with holds := c.holds.set r.toNat c.key } ∧ c.holds.getD r.toNat 0 = 0 := by
  obtain ⟨hv, h0, h1, hb, he⟩ := stepS_0 h
  have he : c.hand r = _ := he
  rw [he]
  obtain ⟨v1, v2, v3, v4⟩ := val_iff.1 hv
  have hz : c.holds.getD r.toNat 0 = 0 := by simpa using hb
  refine ⟨⟨val_iff.2 ⟨v1, by simpa using v2, fun x hx => ?_, v4⟩, by simp, Int.le_refl _, fun i hi => ?_, fun h => absurd h (Int.lt_irrefl _)⟩, rfl, hz⟩
  · rcases mem_set hx with hx | hx
    · exact v3 x hx
    · subst hx
      unfold Cu.key
      split
      · exact .inr (.inl rfl)
      · exact .inr (.inr rfl)
  · rw [show ({ c with holds := c.holds.set r.toNat c.key } : Cu).holds = c.holds.set r.toNat c.key from rfl, getD_setI _ _ _ _ _ (by simpa using hi)]
    split
    · rename_i e; subst e; exact .inr (.inl hz)
    · exact .inl rfl
theorem send_nxt {c : Cu} {r : Int} (h : (c.send r).2 = 0) : Nxt c (c.send r).1 ∧ (c.send r).1 = { c with arrays := c.arrays.set r.toNat (c.holds.getD r.toNat 0) } ∧ c.bars r = false := by
  obtain ⟨hv, h0, h1, hb, he⟩ := stepS_0 h
  have he : c.send r = _ := he
  rw [he]
  obtain ⟨v1, v2, v3, v4⟩ := val_iff.1 hv
  refine ⟨⟨val_iff.2 ⟨v1, by simpa using v2, v3, fun x hx => ?_⟩, rfl, Int.le_refl _, fun i hi => .inl rfl, fun h => absurd h (Int.lt_irrefl _)⟩, rfl, hb⟩
  rcases mem_set hx with hx | hx
  · exact v4 x hx
  · subst hx; exact v3 _ (getD_mem (by omega))
theorem begin_nxt {c : Cu} (h : c.begin_.2 = 0) : Nxt c c.begin_.1 ∧ c.begin_.1 = { c with next := c.now + 1 } ∧ c.next = 0 ∧ c.now ≠ 65536 := by
  unfold Cu.begin_ at h ⊢
  split at h
  · rename_i h'; exact absurd h h'
  · rename_i h'
    split at h
    · exact absurd h (by decide)
    · split at h
      · exact absurd h (by decide)
      · rename_i h2 h3
        rw [if_neg h', if_neg h2, if_neg h3]
        obtain ⟨v1, v2, v3, v4⟩ := val_iff.1 (show c.val from (Decidable.not_not (p := c.chk = 0)).1 h')
        have hn : c.next = 0 := by simpa using h2
        refine ⟨⟨val_iff.2 ⟨by dsimp only; omega, v2, fun x hx => ?_, fun x hx => ?_⟩, rfl, Int.le_refl _, fun i hi => .inl rfl, fun h => absurd h (Int.lt_irrefl _)⟩, rfl, hn, h3⟩
        · have := v3 x hx; simp only; omega
        · have := v4 x hx; simp only; omega
theorem finish_nxt {c : Cu} (h : c.finish.2 = 0) : Nxt c c.finish.1 ∧ c.finish.1 = { c with now := c.next, next := 0 } ∧ c.next ≠ 0 ∧ c.late = false := by
  unfold Cu.finish at h ⊢
  split at h
  · rename_i h'; exact absurd h h'
  · rename_i h'
    split at h
    · exact absurd h (by decide)
    · rename_i h2
      rw [if_neg h', if_neg h2]
      obtain ⟨v1, v2, v3, v4⟩ := val_iff.1 (show c.val from (Decidable.not_not (p := c.chk = 0)).1 h')
      have hn : c.next ≠ 0 := fun e => h2 (.inl e)
      have hl : c.late = false := by
        cases e : c.late
        · rfl
        · exact absurd (.inr e) h2
      have ha : ∀ x ∈ c.holds ++ c.arrays, x = c.next := fun x hx => by
        have := List.any_eq_false.1 hl x hx
        simpa using this
      refine ⟨⟨val_iff.2 ⟨by dsimp only; omega, v2, fun x hx => .inr (.inl (ha x (by simp [hx]))), fun x hx => .inr (.inl (ha x (by simp [hx])))⟩, rfl, by dsimp only; omega, fun i hi => .inl rfl, fun _ i hi => ?_⟩, rfl, hn, hl⟩
      exact ⟨ha _ (by rw [List.mem_append]; exact .inl (getD_mem hi)), ha _ (by rw [List.mem_append]; exact .inr (getD_mem (by omega)))⟩
theorem start_val {n : Int} (h : (startS n).2 = 0) : (startS n).1.val ∧ (startS n).1 = ⟨1, 0, List.replicate n.toNat 0, List.replicate n.toNat 0⟩ ∧ 1 ≤ n ∧ n ≤ 4 := by
  unfold startS at h ⊢
  split at h
  · exact absurd h (by decide)
  · rename_i h'
    rw [if_neg h']
    refine ⟨val_iff.2 ⟨⟨(by omega : (1 : Int) ≤ 1), (by omega : (1 : Int) ≤ 65536), .inl rfl⟩, ⟨by simp; omega, by simp; omega, by simp⟩, fun x hx => .inl (List.eq_of_mem_replicate hx), fun x hx => .inl (List.eq_of_mem_replicate hx)⟩, rfl, by omega, by omega⟩
theorem z_ok : Cu.z.ok := ⟨Nat.zero_le _, Nat.zero_le _⟩
theorem stepS_ok {c : Cu} {r : Int} {b : Bool} {u : Cu} (h : u.ok) : (stepS c r b u).1.ok := by
  unfold stepS
  split
  · exact z_ok
  · split
    · exact z_ok
    · split
      · exact z_ok
      · exact h
theorem erase_ok {c : Cu} {r : Int} (h : c.ok) : (c.erase r).1.ok := stepS_ok (by unfold Cu.ok at h ⊢; simpa using h)
theorem hand_ok {c : Cu} {r : Int} (h : c.ok) : (c.hand r).1.ok := stepS_ok (by unfold Cu.ok at h ⊢; simpa using h)
theorem send_ok {c : Cu} {r : Int} (h : c.ok) : (c.send r).1.ok := stepS_ok (by unfold Cu.ok at h ⊢; simpa using h)
theorem start_ok {n : Int} : (startS n).1.ok := by
  unfold startS
  split
  · exact z_ok
  · unfold Cu.ok; simp; omega
theorem begin_ok {c : Cu} (h : c.ok) : c.begin_.1.ok := by
  unfold Cu.begin_
  split
  · exact z_ok
  · split
    · exact z_ok
    · split
      · exact z_ok
      · exact h
theorem finish_ok {c : Cu} (h : c.ok) : c.finish.1.ok := by
  unfold Cu.finish
  split
  · exact z_ok
  · split
    · exact z_ok
    · exact h
theorem erase_go {c : Cu} {r : Int} (hv : c.val) (h0 : 0 ≤ r) (h1 : r < c.holds.length) (hz : ¬c.holds.getD r.toNat 0 = 0) : c.erase r = ({ c with holds := c.holds.set r.toNat 0 }, 0) := by
  unfold Cu.erase stepS
  rw [if_neg (@not_not_intro (c.chk = 0) hv), if_neg (by omega), decide_eq_false hz, if_neg (by decide)]
theorem erase_no {c : Cu} {r : Int} (hv : c.val) (h0 : 0 ≤ r) (h1 : r < c.holds.length) (hz : c.holds.getD r.toNat 0 = 0) : c.erase r = (.z, 47) := by
  unfold Cu.erase stepS
  rw [if_neg (@not_not_intro (c.chk = 0) hv), if_neg (by omega), decide_eq_true hz, if_pos rfl]
theorem hand_go {c : Cu} {r : Int} (hv : c.val) (h0 : 0 ≤ r) (h1 : r < c.holds.length) (hz : c.holds.getD r.toNat 0 = 0) : c.hand r = ({ c with holds := c.holds.set r.toNat c.key }, 0) := by
  unfold Cu.hand stepS
  rw [if_neg (@not_not_intro (c.chk = 0) hv), if_neg (by omega), decide_eq_true hz, if_neg (by decide)]
theorem send_go {c : Cu} {r : Int} (hv : c.val) (h0 : 0 ≤ r) (h1 : r < c.holds.length) (hz : c.bars r = false) : c.send r = ({ c with arrays := c.arrays.set r.toNat (c.holds.getD r.toNat 0) }, 0) := by
  unfold Cu.send stepS
  rw [if_neg (@not_not_intro (c.chk = 0) hv), if_neg (by omega), hz, if_neg (by decide)]
theorem lost_hand {c : Cu} {r : Int} (hv : c.val) (h0 : 0 ≤ r) (h1 : r < c.holds.length) (hz : ¬c.holds.getD r.toNat 0 = 0) : (c.erase r).1.hand r = ({ c with holds := c.holds.set r.toNat c.key }, 0) := by
  have hu := (erase_nxt (c := c) (r := r) (by rw [erase_go hv h0 h1 hz])).1.val
  rw [erase_go hv h0 h1 hz] at hu ⊢
  have hk : r.toNat < c.holds.length := by omega
  rw [hand_go hu h0 (by simpa using h1) (by simp [hk])]
  simp [Cu.key]
end Kx
