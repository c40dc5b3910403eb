/-
  The law ChannelEnds.
  No condition beyond those written in each theorem.
-/
import Derived.Test.YtnjjjmknmoenmaaKEn
open Go Sx Go.Proofs
set_option linter.unusedSimpArgs false
set_option linter.unusedVariables false
namespace Kx
theorem err_in {c : Ch} {i : Int} {n : Nat} (g : c.good) (h0 : 0 ≤ i) (h1 : i < n) : c.err i n = 0 := by
  rw [Ch.err, if_neg (not_not_intro g.chk), if_neg (by omega)]
theorem deliver_in {c : Ch} {i : Int} (g : c.good) (h0 : 0 ≤ i) (h1 : i < c.there.length) : (c.deliver i).2.2 = 0 := by
  rw [Ch.deliver, if_neg (not_not_intro (err_in g h0 h1))]
theorem back_in {c : Ch} {i : Int} (g : c.good) (h0 : 0 ≤ i) (h1 : i < c.back.length) : (c.backM i).2 = 0 := by
  rw [Ch.backM, if_neg (not_not_intro (err_in g h0 h1))]
theorem send_in {c : Ch} (g : c.good) (h : 0 < c.wait.length) (ht : c.there.length < 16) : (c.send 0).2 = 0 := by
  rw [Ch.send, if_neg (not_not_intro g.chk), if_neg (by omega), if_neg (by omega)]
/-- What stays: the number behind the last one; what arrived. -/
structure En (N e0 : Int) (c : Ch) (got : Int) : Prop where
  g : c.good
  n : c.base + c.wait.length = N
  a : got = c.exp - e0
/-- A message is sent anew. -/
def PA (c : Ch) : Prop := c.there.length = 1 ∧ (c.there.getD 0 (0, [])).1 = c.base ∧ c.back = []
/-- It has arrived. -/
def PB (c : Ch) : Prop := c.there = [] ∧ c.back = [c.exp] ∧ c.base < c.exp
def PC (c : Ch) : Prop := c.there = [] ∧ c.back = []
def Hd (N e0 : Int) (k : Int) (z : Ch × Int) : Prop := En N e0 z.1 z.2 ∧ (k = 0 ∨ ((z.1.wait = [] ∧ PC z.1) ∨ PA z.1) ∧ z.1.wait.length + k ≤ 17)
def H1 (N e0 : Int) (k : Int) (z : Ch × Int) : Prop := En N e0 z.1 z.2 ∧ (k = 0 ∨ (PA z.1 ∨ PB z.1) ∧ z.1.wait.length + k ≤ 17)
def H2 (N e0 : Int) (k : Int) (z : Ch × Int) : Prop := En N e0 z.1 z.2 ∧ z.1.there = [] ∧ (k = 0 ∨ PB z.1 ∧ z.1.wait.length + k ≤ 17 ∨ PC z.1 ∧ z.1.wait.length + k + 1 ≤ 17)
theorem one_list {α : Type} {l : List α} {z : α} (h : l.length = 1) : l = [l.getD 0 z] := by
  cases l with
  | nil => simp at h
  | cons a t => cases t with
    | nil => rfl
    | cons b t => simp at h
theorem en_deliver {N e0 k : Int} {z : Ch × Int} (h : H1 N e0 k z) (h1 : 0 < z.1.there.length) : H1 N e0 k ((z.1.deliver (z.1.there.length - 1)).1, z.2 + ((z.1.deliver (z.1.there.length - 1)).2.1.length : Int)) ∧ (z.1.deliver (z.1.there.length - 1)).1.there.length < z.1.there.length := by
  obtain ⟨⟨g, n, a⟩, hk⟩ := h
  have hz := deliver_in (i := z.1.there.length - 1) g (by omega) (by omega)
  obtain ⟨s, b1, b2, b3, _, _, b4, b5, b6⟩ := deliver_step g (trip0 hz)
  have hl : (z.1.deliver (z.1.there.length - 1)).1.there.length < z.1.there.length := by
    rw [b4, len_cut (by omega)]; omega
  refine ⟨⟨⟨s.g, by simp only [b1, b2]; exact n, by simp only [b3]; omega⟩, hk.imp id fun ⟨hp, hw⟩ => ⟨?_, by simp only [b2]; exact hw⟩⟩, hl⟩
  rcases hp with ⟨p1, p2, p3⟩ | ⟨p1, _⟩
  · refine .inr ⟨?_, ?_, ?_⟩
    · have : (z.1.deliver (z.1.there.length - 1)).1.there.length = 0 := by omega
      simpa using this
    · have := b6 (by rw [p3]; decide)
      rw [p3] at this
      exact this
    · have := b5 (by rw [p1]; show (z.1.there.getD 0 (0, [])).1 ≤ _; rw [p2]; exact g.e1)
      rw [p1] at this
      have h2 : (z.1.there.getD 0 (0, [])).1 + 1 ≤ (z.1.deliver 0).1.exp := this
      simp only [b1]
      rw [p1]
      show z.1.base < (z.1.deliver 0).1.exp
      omega
  · rw [p1] at h1; exact absurd h1 (by decide)
theorem en_back {N e0 k : Int} {z : Ch × Int} (h : H2 N e0 k z) (h1 : 0 < z.1.back.length) : H2 N e0 k ((z.1.backM (z.1.back.length - 1)).1, z.2) ∧ (z.1.backM (z.1.back.length - 1)).1.back.length < z.1.back.length := by
  obtain ⟨⟨g, n, a⟩, ht, hk⟩ := h
  have hz := back_in (i := z.1.back.length - 1) g (by omega) (by omega)
  obtain ⟨s, e, _, _⟩ := back_step g (pair0 hz)
  have ea : ∀ (c : Ch) (n : Int), (c.ack n).back = c.back ∧ (c.ack n).there = c.there ∧ (c.ack n).exp = c.exp := fun c n => by
    rw [Ch.ack]; split <;> exact ⟨rfl, rfl, rfl⟩
  have hb : (z.1.backM (z.1.back.length - 1)).1.back = z.1.back.take (z.1.back.length - 1 : Int).toNat ++ z.1.back.drop ((z.1.back.length - 1 : Int).toNat + 1) := by rw [e, (ea _ _).1]
  have hl : (z.1.backM (z.1.back.length - 1)).1.back.length < z.1.back.length := by rw [hb, len_cut (by omega)]; omega
  have hth : (z.1.backM (z.1.back.length - 1)).1.there = [] := by rw [e, (ea _ _).2.1]; exact ht
  have hex : (z.1.backM (z.1.back.length - 1)).1.exp = z.1.exp := by rw [e, (ea _ _).2.2]
  have hn : (z.1.backM (z.1.back.length - 1)).1.base + (z.1.backM (z.1.back.length - 1)).1.wait.length = z.1.base + z.1.wait.length := by
    rcases s.n with h | ⟨_, _, p, hp⟩
    · exact h
    · rw [e, Ch.ack] at hp
      split at hp
      · have := congrArg List.length hp; simp at this; omega
      · have := congrArg List.length hp; simp at this
  refine ⟨⟨⟨s.g, by simp only; omega, by simp only; omega⟩, hth, ?_⟩, hl⟩
  rcases hk with hk | ⟨⟨p1, p2, p3⟩, hw⟩ | ⟨⟨p1, p2⟩, hw⟩
  · exact .inl hk
  · refine .inr (.inr ⟨⟨hth, ?_⟩, ?_⟩)
    · have : (z.1.backM (z.1.back.length - 1)).1.back.length = 0 := by rw [p2] at hl ⊢; simp at hl ⊢; simpa using hl
      simpa using this
    · have hbase : z.1.exp ≤ (z.1.backM (z.1.back.length - 1)).1.base := by
        rw [e, Ch.ack, p2]
        show z.1.exp ≤ (if z.1.base < z.1.exp then _ else _ : Ch).base
        rw [if_pos p3]
        exact Int.le_refl _
      simp only; omega
  · rw [p2] at h1; exact absurd h1 (by decide)
theorem en_send {N e0 k : Int} {z : Ch × Int} (hk0 : 0 ≤ k) (h : H2 N e0 k z) (h1 : ¬0 < z.1.back.length) (h2 : 0 < z.1.wait.length) : Hd N e0 (k + 1) ((z.1.send 0).1, z.2) := by
  obtain ⟨⟨g, n, a⟩, ht, hk⟩ := h
  have hz := send_in g h2 (by rw [ht]; decide)
  obtain ⟨s, e, _⟩ := send_step g (pair0 hz)
  have hb : z.1.back = [] := by cases hh : z.1.back with
    | nil => rfl
    | cons x l => rw [hh] at h1; simp at h1
  have hw := g.w
  refine ⟨⟨s.g, by rw [e]; exact n, by rw [e]; exact a⟩, .inr ⟨.inr ⟨?_, ?_, ?_⟩, ?_⟩⟩
  · rw [e]; simp [ht]
  · rw [e]; simp [ht]
  · rw [e]; exact hb
  · rw [e]
    rcases hk with hk | ⟨⟨_, p2, _⟩, _⟩ | ⟨_, hw⟩
    · simp only; omega
    · rw [hb] at p2; cases p2
    · simp only; omega
theorem en_rest {N e0 k : Int} {z : Ch × Int} (hk0 : 0 ≤ k) (h : H2 N e0 k z) (h1 : ¬0 < z.1.back.length) (h2 : ¬0 < z.1.wait.length) : Hd N e0 (k + 1) z := by
  obtain ⟨⟨g, n, a⟩, ht, hk⟩ := h
  have hb : z.1.back = [] := by cases hh : z.1.back with
    | nil => rfl
    | cons x l => rw [hh] at h1; simp at h1
  have hw : z.1.wait = [] := by cases hh : z.1.wait with
    | nil => rfl
    | cons x l => rw [hh] at h2; simp at h2
  refine ⟨⟨g, n, a⟩, .inr ⟨.inl ⟨hw, ht, hb⟩, ?_⟩⟩
  rcases hk with hk | ⟨⟨_, p2, _⟩, _⟩ | ⟨_, hw⟩
  · rw [hw]; simp only [List.length_nil]; omega
  · rw [hb] at p2; cases p2
  · omega
theorem hd_h1 {N e0 k : Int} {z : Ch × Int} (h : Hd N e0 k z) (h1 : 0 < z.1.wait.length) : H1 N e0 k z := by
  refine ⟨h.1, h.2.imp id fun ⟨hp, hw⟩ => ⟨.inl ?_, hw⟩⟩
  rcases hp with ⟨hw, _⟩ | hp
  · rw [hw] at h1; exact absurd h1 (by decide)
  · exact hp
theorem h1_h2 {N e0 k : Int} {z : Ch × Int} (h : H1 N e0 k z) (h1 : ¬0 < z.1.there.length) : H2 N e0 k z := by
  have ht : z.1.there = [] := by cases hh : z.1.there with
    | nil => rfl
    | cons x l => rw [hh] at h1; simp at h1
  refine ⟨h.1, ht, h.2.imp id fun ⟨hp, hw⟩ => .inl ⟨?_, hw⟩⟩
  rcases hp with ⟨p, _⟩ | hp
  · rw [ht] at p; simp at p
  · exact hp
theorem idle_good {c : Ch} (g : c.good) : c.idle = decide (c.wait.length = 0) := by rw [Ch.idle, g.chk]; rfl
theorem en_done {N e0 k : Int} {z : Ch × Int} (h : Hd N e0 k z) (h0 : z.1.wait.length = 0) : z.2 = N - e0 := by
  obtain ⟨⟨g, n, a⟩, _⟩ := h
  have hr := g.reach
  have h1 := g.e1; have h2 := g.e2
  omega
end Kx
