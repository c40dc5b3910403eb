/-
  The law ChannelOrder: what arrives is what was offered.
  No condition beyond those written in each theorem.
-/
import Derived.Test.YtnjjjmknmoenmaaKEp
open Go Sx Go.Proofs
set_option linter.unusedSimpArgs false
set_option linter.unusedVariables false
namespace Kx
structure Or (c : Ch) (of ar : List Str) : Prop where
  g : c.good
  n : c.base + c.wait.length = of.length + 1
  w : c.wait = of.drop (c.base - 1).toNat
  a : ar = of.take (c.exp - 1).toNat
theorem Or.bd {c : Ch} {of ar : List Str} (h : Or c of ar) : (ar.length : Int) = c.exp - 1 ∧ (of.length : Int) - c.wait.length ≤ ar.length ∧ ar.length ≤ of.length := by
  have := h.g.reach; have := h.g.e1; have := h.g.e2; have := h.g.b1; have := h.n
  have e : ar.length = min (c.exp - 1).toNat of.length := by rw [h.a, List.length_take]
  omega
theorem Or.pay {c : Ch} {of ar : List Str} (h : Or c of ar) {p : Pk} (hp : c.right p = true) (hb : c.base ≤ p.1) : of[(p.1 - 1).toNat]? = some p.2 := by
  have h1 := right_iff.1 hp
  have hr := h.g.reach; have := h.g.b1
  have h2 : c.pay p.1 = p.2 := h1.2.resolve_left (by omega)
  have h3 : (p.1 - c.base).toNat < c.wait.length := by omega
  rw [Ch.pay, List.getD_eq_getElem?_getD, List.getElem?_eq_getElem h3, Option.getD_some] at h2
  have h4 : c.wait[(p.1 - c.base).toNat]? = some p.2 := by rw [List.getElem?_eq_getElem h3, h2]
  rw [h.w, List.getElem?_drop] at h4
  rw [← h4]; congr 1; omega
theorem take_one {of : List Str} {e : Int} {s : Str} (h0 : 1 ≤ e) (h : of[(e - 1).toNat]? = some s) : of.take (e - 1).toNat ++ [s] = of.take (e + 1 - 1).toNat := by
  rw [show (e + 1 - 1).toNat = (e - 1).toNat + 1 by omega, List.take_add_one, h]; rfl
theorem drain_take (of : List Str) : ∀ (e : Int) (l : List Pk), 1 ≤ e → (∀ x ∈ l, of[(x.1 - 1).toNat]? = some x.2) → of.take (e - 1).toNat ++ (drain e l).2.1 = of.take ((drain e l).1 - 1).toNat
  | e, [], _, _ => by simp [drain]
  | e, x :: l, h0, h => by
    rw [drain]
    split
    · rename_i hx
      have := take_one h0 (by rw [← hx]; exact h x (List.mem_cons_self ..))
      have ih := drain_take of (e + 1) l (by omega) fun y hy => h y (List.mem_cons_of_mem _ hy)
      rw [← ih, ← this, List.append_assoc]; rfl
    · simp
theorem or_new : Or Ch.new [] [] := ⟨new_good, rfl, rfl, rfl⟩
theorem or_same {c x : Ch} {of ar : List Str} (h : Or c of ar) (g : x.good) (hb : x.base = c.base) (he : x.exp = c.exp) (hw : x.wait = c.wait) : Or x of ar :=
  ⟨g, by rw [hb, hw]; exact h.n, by rw [hb, hw]; exact h.w, by rw [he]; exact h.a⟩
theorem or_offer {c : Ch} {of ar : List Str} {p : Str} (h : Or c of ar) (hz : (c.offer p).2 = 0) : Or (c.offer p).1 (of ++ [p]) ar := by
  obtain ⟨s, e, _⟩ := offer_step h.g (pair0 hz)
  have hb := h.bd
  have hr := h.g.reach; have := h.g.e1; have := h.g.e2; have := h.g.b1; have hn := h.n
  refine ⟨s.g, ?_, ?_, ?_⟩ <;> rw [e]
  · simp only [List.length_append, List.length_cons, List.length_nil]; omega
  · show c.wait ++ [p] = (of ++ [p]).drop (c.base - 1).toNat
    rw [h.w, List.drop_append_of_le_length (by omega)]
  · show ar = (of ++ [p]).take (c.exp - 1).toNat
    rw [List.take_append_of_le_length (by omega)]; exact h.a
theorem or_back {c : Ch} {i : Int} {of ar : List Str} (h : Or c of ar) (hz : (c.backM i).2 = 0) : Or (c.backM i).1 of ar := by
  obtain ⟨s, e, e1, e2⟩ := back_step h.g (pair0 hz)
  have hn : (c.back.getD i.toNat 0) ≤ c.exp := (h.g.kr _ (getD_mem (by omega))).2
  have ha : ∀ (c : Ch) (n : Int), Or c of ar → n ≤ c.exp → Or (c.ack n) of ar := fun c n h hn => by
    have g := (good_ack h.g hn).g
    have hr := h.g.reach; have := h.g.e1; have := h.g.e2; have := h.g.b1; have hn' := h.n
    rw [Ch.ack] at g ⊢
    split
    · rename_i hlt
      rw [if_pos hlt] at g
      refine ⟨g, ?_, ?_, h.a⟩
      · show n + ((c.wait.drop (n - c.base).toNat).length : Int) = _
        rw [List.length_drop]; omega
      · show c.wait.drop (n - c.base).toNat = of.drop (n - 1).toNat
        rw [h.w, List.drop_drop]; congr 1; omega
    · exact h
  have h1 : Or { c with back := c.back.take i.toNat ++ c.back.drop (i.toNat + 1) } of ar :=
    or_same h (good_back h.g (by have := h.g.k; rw [len_cut (by omega)]; omega) fun x hx => h.g.kr x (mem_cut hx)) rfl rfl rfl
  have h2 := ha _ _ h1 hn
  rw [← e] at h2
  exact h2
theorem or_deliver {c : Ch} {i : Int} {of ar : List Str} (h : Or c of ar) (hz : (c.deliver i).2.2 = 0) : Or (c.deliver i).1 of (ar ++ (c.deliver i).2.1) := by
  obtain ⟨s, b1, b2, b3, e1, e2, _⟩ := deliver_step h.g (trip0 hz)
  refine ⟨s.g, by rw [b1, b2]; exact h.n, by rw [b1, b2]; exact h.w, ?_⟩
  have hm : c.there.getD i.toNat (0, []) ∈ c.there := getD_mem (by omega)
  have hp := h.g.tr _ hm
  have gb := h.g.b1; have ge := h.g.e1
  have he : ¬c.err i c.there.length ≠ 0 := not_not_intro (err_in h.g e1 e2)
  rw [Ch.deliver, if_neg he]
  simp only [(note_same _).2.1]
  unfold Ch.arrive
  split
  · rename_i hx
    have hx : (c.there.getD i.toNat (0, [])).1 = c.exp := hx
    have h1 : of[(c.exp - 1).toNat]? = some (c.there.getD i.toNat (0, [])).2 := by
      have := h.pay hp.2 (by omega)
      rw [hx] at this; exact this
    show ar ++ (c.there.getD i.toNat (0, [])).2 :: (drain (c.exp + 1) c.held).2.1 = of.take ((drain (c.exp + 1) c.held).1 - 1).toNat
    have h2 := drain_take of (c.exp + 1) c.held (by omega) fun x hx => h.pay (h.g.hh x hx).2 (by have := (h.g.hh x hx).1; omega)
    rw [← h2, ← take_one (by omega) h1, h.a, List.append_assoc]; rfl
  · split
    · show ar ++ [] = of.take (c.exp - 1).toNat
      rw [List.append_nil]; exact h.a
    · show ar ++ [] = of.take (c.exp - 1).toNat
      rw [List.append_nil]; exact h.a
theorem or_send {c : Ch} {i : Int} {of ar : List Str} (h : Or c of ar) (hz : (c.send i).2 = 0) : Or (c.send i).1 of ar :=
  have q := quiet_send h.g hz; or_same h q.g q.b q.e q.w
theorem or_lose {c : Ch} {i : Int} {of ar : List Str} (h : Or c of ar) (hz : (c.lose i).2 = 0) : Or (c.lose i).1 of ar :=
  have q := quiet_lose h.g hz; or_same h q.g q.b q.e q.w
theorem or_repeat {c : Ch} {i : Int} {of ar : List Str} (h : Or c of ar) (hz : (c.repeat i).2 = 0) : Or (c.repeat i).1 of ar :=
  have q := quiet_repeat h.g hz; or_same h q.g q.b q.e q.w
theorem or_loseB {c : Ch} {i : Int} {of ar : List Str} (h : Or c of ar) (hz : (c.loseB i).2 = 0) : Or (c.loseB i).1 of ar :=
  have q := quiet_loseB h.g hz; or_same h q.g q.b q.e q.w
end Kx
