/-
  channel: the place among the held packets; fresh.Channel, taken.
  No condition beyond those written in each theorem.
-/
import Derived.Test.YtnjjjmknmoenmaaKEb
open Go Sx Go.Proofs
set_option linter.unusedSimpArgs false
set_option linter.unusedVariables false
namespace Kx
def Asc (l : List Pk) : Prop := l.Pairwise fun a b => a.1 < b.1
def pos : List Pk → Int → Nat
  | [], _ => 0
  | x :: l, n => if x.1 < n then pos l n + 1 else 0
theorem pos_le : ∀ (l : List Pk) (n : Int), pos l n ≤ l.length
  | [], _ => Nat.le_refl _
  | x :: l, n => by
    rw [pos]; split
    · have := pos_le l n; simp only [List.length_cons]; omega
    · exact Nat.zero_le _
theorem pos_lt : ∀ {l : List Pk} {n : Int} {h : Nat}, Asc l → h < l.length → ((l.getD h (0, [])).1 < n ↔ h < pos l n)
  | x :: l, n, 0, _, _ => by
    rw [pos]; simp only [List.getD_cons_zero]
    split <;> omega
  | x :: l, n, h + 1, ha, hh => by
    have ha := List.pairwise_cons.1 ha
    have hh : h < l.length := by simpa using hh
    rw [pos, List.getD_cons_succ]
    split
    · rw [pos_lt ha.2 hh]; omega
    · have := ha.1 _ (getD_mem (z := (0, [])) hh)
      omega
theorem heldB_asc {c : Ch} : ∀ {m : Int} {l : List Pk}, c.heldB m l = true → Asc l ∧ ∀ x ∈ l, m < x.1 ∧ c.exp < x.1 ∧ c.right x = true
  | _, [], _ => ⟨.nil, fun _ h => (nomatch h)⟩
  | m, p :: l, h => by
    simp only [Ch.heldB, Bool.and_eq_true, decide_eq_true_eq] at h
    obtain ⟨i1, i2⟩ := heldB_asc h.2
    refine ⟨List.pairwise_cons.2 ⟨fun x hx => (i2 x hx).1, i1⟩, fun x hx => ?_⟩
    rcases List.mem_cons.1 hx with rfl | hx
    · exact ⟨h.1.1.2, h.1.1.1, h.1.2⟩
    · have := i2 x hx; exact ⟨by omega, by simpa using this.2⟩
theorem half2 (x : Int) (h : 0 ≤ x) : x.fdiv (2 ^ min (Int.toNat 1) IntKind.u64.bits) = x / 2 := half x
theorem cmp_lt (a b : Int) : decide (cmpI a b < 0) = decide (a < b) := by
  unfold cmpI; by_cases h : a < b
  · simp [h]
  · by_cases h' : a > b <;> simp [h, h']
theorem cmp_eq (a b : Int) : decide (cmpI a b = 0) = decide (a = b) := by
  unfold cmpI; by_cases h : a < b
  · simp [h]; omega
  · by_cases h' : a > b <;> simp [h, h'] <;> omega
def found (l : List Pk) (n : Int) : Bool := decide (pos l n < l.length) && decide ((l.getD (pos l n) (0, [])).1 = n)
theorem bsearch_ct (l : List Pk) (n : Int) (ha : Asc l) (hl : l.length ≤ 100000) : Ct Try.prog 57 [pks l, i64 n, .fn 58 []] fun r outs => r = .tup [i64 (pos l n), .bool (found l n)] ∧ outs = [] := by
  have hp := pos_le l n
  refine .det (.of_W (fn := Try.f57) hΓ hm Try.func57 [] [] (by kernel_rfl) (Step.out ?_))
  repeat' first
    | (refine Step.mk ?_; conv => whnf)
  refine CodeOK.loopW hΓ hm [] [] (by kernel_rfl) (α := Nat × Nat) (fun x => [(0, pks l), (1, i64 n), (2, .fn 58 []), (8, i64 l.length), (9, i64 x.1), (10, i64 x.2)]) (fun x => []) 0 (fun x => x.1 ≤ pos l n ∧ pos l n ≤ x.2 ∧ x.2 ≤ l.length) (fun x => x.2 - x.1) ?_ ?_
  · refine Again.by (0, l.length) ⟨Nat.zero_le _, hp, Nat.le_refl _⟩ ?_
    repeat' first
      | (refine Step.mk ?_; conv => whnf)
      | (refine Vc.om ?_ ?_; first | omega | with_reducible rfl | with_reducible exact same_rfl)
      | with_reducible trivial
      | (refine Cho.l (Step.out ?_))
      | (refine Vc.mk ?_ (Step.out ?_))
  · rintro ⟨i, j⟩ ⟨hi, hj, hk⟩
    simp only at hi hj hk
    repeat' first
      | (refine Step.mk ?_; conv => whnf)
      | (refine Vc.om ?_ ?_; first | omega | with_reducible rfl | with_reducible exact same_rfl)
      | with_reducible trivial
      | (refine Wr.i64 ?_ ?_; omega)
      | (refine Wr.u64 ?_ ?_; omega)
      | (refine Met.by (heldc_ct _ _) ?_; rintro q outs ⟨rfl, rfl⟩)
      | (rw [half])
      | (refine Br.d (fun h => ?_) (fun h => ?_))
      | (refine Two.mk (Step.out ?_) (Step.out ?_))
      | (refine CallOK.of_ct (Step.out ?_))
    · have h' := of_decide_eq_true ((cmp_lt _ _).symm.trans (decide_eq_true h))
      rw [show (((i : Int) + (j : Int)) / 2).toNat = (i + j) / 2 by omega, pos_lt ha (by omega)] at h'
      refine Again.by ((i + j) / 2 + 1, j) ⟨⟨by simp only; omega, by simp only; omega, hk⟩, by simp only; omega⟩ ?_
      repeat' first
        | (refine Step.mk ?_; conv => whnf)
        | (refine Vc.om ?_ ?_; first | omega | with_reducible rfl | with_reducible exact same_rfl)
        | with_reducible trivial
        | (refine Cho.l (Step.out ?_))
        | (refine Vc.mk ?_ (Step.out ?_))
    · have h' := of_decide_eq_false ((cmp_lt _ _).symm.trans (decide_eq_false h))
      rw [show (((i : Int) + (j : Int)) / 2).toNat = (i + j) / 2 by omega, pos_lt ha (by omega)] at h'
      refine Again.by (i, (i + j) / 2) ⟨⟨hi, by simp only; omega, by simp only; omega⟩, by simp only; omega⟩ ?_
      repeat' first
        | (refine Step.mk ?_; conv => whnf)
        | (refine Vc.om ?_ ?_; first | omega | with_reducible rfl | with_reducible exact same_rfl)
        | with_reducible trivial
        | (refine Cho.l (Step.out ?_))
        | (refine Vc.mk ?_ (Step.out ?_))
    all_goals obtain rfl : i = pos l n := by omega
    · rfl
    · have h : pos l n < l.length := by have h : ((pos l n : Nat) : Int) < l.length := h; omega
      exact (cmp_eq _ _).trans (by rw [found, decide_eq_true h, Bool.true_and]; rfl)
    · rfl
    · have h : ¬pos l n < l.length := by have h : ¬((pos l n : Nat) : Int) < l.length := h; omega
      rw [found, decide_eq_false h, Bool.false_and]
theorem fresh_ct (c : Ch) (hc : c.ok) : Ct Try.prog 46 [c.d] fun r outs => r = c.o ∧ outs = [] := by
  obtain ⟨h1, h2, h3, h4, h5, h6⟩ := hc
  refine .det (.of_W (fn := Try.f46) hΓ hm Try.func46 ord46 [] (by kernel_rfl) (Step.out ?_))
  repeat' first
    | (refine Step.mk ?_; conv => whnf)
    | with_reducible trivial
    | with_reducible exact same_rfl
    | (refine Two.mk (Step.out ?_) (Step.out ?_))
    | (refine CallQ.of_ct (Step.out ?_))
    | (refine Met.by (g := 62) (listS_ct _ (by omega)) ?_; rintro q outs ⟨rfl, rfl⟩)
    | (refine Met.by (g := 63) (listP_ct _ (by omega)) ?_; rintro q outs ⟨rfl, rfl⟩)
    | (refine Met.by (g := 64) (list_ct _ (by omega)) ?_; rintro q outs ⟨rfl, rfl⟩)
theorem copied_ct (c : Ch) (hc : c.ok) : Ct Try.prog 52 [c.d] fun r outs => r = c.o ∧ outs = [] := by
  obtain ⟨h1, h2, h3, h4, h5, h6⟩ := hc
  refine .det (.of_W (fn := Try.f52) hΓ hm Try.func52 ord52 [] (by kernel_rfl) (Step.out ?_))
  repeat' first
    | (refine Step.mk ?_; conv => whnf)
    | (refine Vc.om ?_ ?_; (simp only [bytes_2, bytes_3, bytes_4, bytes_5, bytes_9, bytes_12, bytes_21, bytes_22, bytes_25, bytes_27, bytes_28, bytes_29, bytes_30, bytes_33, bytes_42, bytes_43, bytes_47, bytes_51, bytes_52, bytes_53, bytes_57, bytes_58, bytes_59, bytes_73, bytes_91, bytes_104, bytes_108, true_and, and_true] <;> omega))
    | with_reducible trivial
    | with_reducible exact same_rfl
    | (refine Two.mk (Step.out ?_) (Step.out ?_))
theorem held_ct (c : Ch) (hc : c.ok) (ha : Asc c.held) (n : Int) : Ct Try.prog 42 [c.d, i64 n] fun r outs => r = .tup [i64 (pos c.held n), .bool (found c.held n)] ∧ outs = [] := by
  obtain ⟨h1, h2, h3, h4, h5, h6⟩ := hc
  refine .det (.of_W (fn := Try.f42) hΓ hm Try.func42 [] [] (by kernel_rfl) (Step.out ?_))
  repeat' first
    | (refine Step.mk ?_; conv => whnf)
    | with_reducible trivial
    | (refine Two.mk (Step.out ?_) (Step.out ?_))
    | (refine CallOK.of_ct (Step.out ?_))
    | (refine Met.by (g := 57) (bsearch_ct _ _ (by assumption) (by omega)) ?_; rintro q outs ⟨rfl, rfl⟩)
def Ch.err (c : Ch) (i : Int) (many : Nat) : Int := if c.chk ≠ 0 then c.chk else if i < 0 ∨ (many : Int) ≤ i then 2 else 0
theorem Ch.err0 {c : Ch} {i : Int} {many : Nat} (h : c.err i many = 0) : c.chk = 0 ∧ 0 ≤ i ∧ i < many := by
  unfold Ch.err at h; split at h
  · contradiction
  · split at h
    · omega
    · omega
theorem Ch.err1 {c : Ch} {i : Int} {many : Nat} (h : c.err i many ≠ 0) : c.chk ≠ 0 ∧ c.err i many = c.chk ∨ c.chk = 0 ∧ c.err i many = 2 ∧ (i < 0 ∨ (many : Int) ≤ i) := by
  unfold Ch.err at *; split at h
  · rename_i h1; exact .inl ⟨h1, by rw [if_pos h1]⟩
  · rename_i h1
    split at h
    · rename_i h2; exact .inr ⟨by omega, by rw [if_neg h1, if_pos h2], h2⟩
    · omega
theorem takenT_ct (c : Ch) (hc : c.ok) (i : Int) (many : Nat) (he : c.err i many = 0) : Ct Try.prog 40 [c.d, i64 i, i64 many] fun r outs => r = .tup [c.o, i64 0] ∧ outs = [] := by
  obtain ⟨e1, e2, e3⟩ := Ch.err0 he
  have hc' := hc
  obtain ⟨h1, h2, h3, h4, h5, h6⟩ := hc
  refine .det (.of_W (fn := Try.f40) hΓ hm Try.func40 [] [] (by kernel_rfl) (Step.out ?_))
  repeat' first
    | (refine Step.mk ?_; conv => whnf)
    | with_reducible trivial
    | with_reducible exact same_rfl
    | (refine Br.dT ?_ ?_; omega)
    | (refine Br.dF ?_ ?_; omega)
    | (refine Br.swap ?_)
    | (refine Br.bnot ?_)
    | (refine Two.mk (Step.out ?_) (Step.out ?_))
    | (refine CallOK.of_ct (Step.out ?_))
    | (refine Met.by (g := 19) (check_ct _ (by assumption)) ?_; rintro q outs ⟨rfl, rfl⟩)
    | (refine Met.by (g := 46) (fresh_ct _ (by assumption)) ?_; rintro q outs ⟨rfl, rfl⟩)
theorem takenF_ct (c : Ch) (hc : c.ok) (i : Int) (many : Nat) (he : c.err i many ≠ 0) : Ct Try.prog 40 [c.d, i64 i, i64 many] fun r outs => r = .tup [Ch.z.o, i64 (c.err i many)] ∧ outs = [] := by
  have hc' := hc
  obtain ⟨h1, h2, h3, h4, h5, h6⟩ := hc
  rcases Ch.err1 he with ⟨e1, e2⟩ | ⟨e1, e2, e3⟩
  · rw [e2]
    refine .det (.of_W (fn := Try.f40) hΓ hm Try.func40 [] [] (by kernel_rfl) (Step.out ?_))
    repeat' first
      | (refine Step.mk ?_; conv => whnf)
      | with_reducible trivial
      | (refine Br.dF ?_ ?_; omega)
      | (refine Br.bnot ?_)
      | (refine Two.mk (Step.out ?_) (Step.out ?_))
      | (refine CallOK.of_ct (Step.out ?_))
      | (refine Met.by (g := 19) (check_ct _ (by assumption)) ?_; rintro q outs ⟨rfl, rfl⟩)
  · rw [e2]
    refine .det (.of_W (fn := Try.f40) hΓ hm Try.func40 [] [] (by kernel_rfl) (Step.out ?_))
    repeat' first
      | (refine Step.mk ?_; conv => whnf)
      | with_reducible trivial
      | (refine Br.dT ?_ ?_; omega)
      | (refine Br.d (fun h => ?_) (fun h => ?_))
      | (refine Br.swap ?_)
      | (refine Br.bnot ?_)
      | (refine Two.mk (Step.out ?_) (Step.out ?_))
      | (refine CallOK.of_ct (Step.out ?_))
      | (refine Met.by (g := 19) (check_ct _ (by assumption)) ?_; rintro q outs ⟨rfl, rfl⟩)
theorem delp1_ct (l : List Pk) (i : Nat) (h : i < l.length) (hl : l.length ≤ 1000000) : Ct Try.prog 41 [pksO 43 l, i64 i, i64 ((i : Int) + 1)] fun r outs => r = pksO 43 (l.take i ++ l.drop (i + 1)) ∧ outs = [] :=
  delp_ct l i (i + 1) (by omega) (by omega) hl
theorem deli1_ct (l : List Int) (i : Nat) (h : i < l.length) (hl : l.length ≤ 1000000) : Ct Try.prog 44 [intsO 3 l, i64 i, i64 ((i : Int) + 1)] fun r outs => r = intsO 3 (l.take i ++ l.drop (i + 1)) ∧ outs = [] :=
  deli_ct l i (i + 1) (by omega) (by omega) hl
theorem dels0_ct (l : List Str) (n : Int) (h : 0 < n) (h' : n ≤ l.length) (hl : l.length ≤ 1000000) : Ct Try.prog 45 [strsO 9 l, i64 0, i64 n] fun r outs => r = strsO 9 (l.drop n.toNat) ∧ outs = [] := by
  have := dels_ct l 0 n.toNat (by omega) (by omega) hl
  rw [List.take_zero, List.nil_append, show ((n.toNat : Nat) : Int) = n by omega] at this
  exact this
def Ch.offer (c : Ch) (p : Str) : Ch × Int := if c.chk ≠ 0 then (.z, c.chk) else if 60000 < p.length ∨ 16 ≤ c.wait.length ∨ 1048576 ≤ c.base + c.wait.length then (.z, 1) else ({ c with wait := c.wait ++ [p] }, 0)
def Ch.send (c : Ch) (i : Int) : Ch × Int := if c.chk ≠ 0 then (.z, c.chk) else if i < 0 ∨ (c.wait.length : Int) ≤ i ∨ 4 ≤ i then (.z, 2) else if 16 ≤ c.there.length then (.z, 1) else ({ c with there := c.there ++ [(c.base + i, c.wait.getD i.toNat [])] }, 0)
def Ch.lose (c : Ch) (i : Int) : Ch × Int := if c.err i c.there.length ≠ 0 then (.z, c.err i c.there.length) else ({ c with there := c.there.take i.toNat ++ c.there.drop (i.toNat + 1) }, 0)
def Ch.repeat (c : Ch) (i : Int) : Ch × Int := if c.err i c.there.length ≠ 0 then (.z, c.err i c.there.length) else if 16 ≤ c.there.length then (.z, 1) else ({ c with there := c.there ++ [c.there.getD i.toNat (0, [])] }, 0)
def Ch.loseB (c : Ch) (i : Int) : Ch × Int := if c.err i c.back.length ≠ 0 then (.z, c.err i c.back.length) else ({ c with back := c.back.take i.toNat ++ c.back.drop (i.toNat + 1) }, 0)
def Ch.ack (c : Ch) (n : Int) : Ch := if c.base < n then { c with wait := c.wait.drop (n - c.base).toNat, base := n } else c
def Ch.backM (c : Ch) (i : Int) : Ch × Int := if c.err i c.back.length ≠ 0 then (.z, c.err i c.back.length) else (({ c with back := c.back.take i.toNat ++ c.back.drop (i.toNat + 1) } : Ch).ack (c.back.getD i.toNat 0), 0)
structure Ch.good (c : Ch) : Prop where
  b1 : 1 ≤ c.base
  b2 : c.base + c.wait.length ≤ 1048576
  e1 : c.base ≤ c.exp
  e2 : c.exp ≤ c.reach
  w : c.wait.length ≤ 16
  t : c.there.length ≤ 16
  h : c.held.length ≤ 16
  k : c.back.length ≤ 16
  wl : ∀ s ∈ c.wait, s.length ≤ 60000
  tl : ∀ s ∈ c.there, s.2.length ≤ 60000
  hl : ∀ s ∈ c.held, s.2.length ≤ 60000
  tr : ∀ p ∈ c.there, 1 ≤ p.1 ∧ c.right p = true
  hr : c.heldB c.exp c.held = true
  kr : ∀ n ∈ c.back, 1 ≤ n ∧ n ≤ c.exp
theorem Ch.good_of {c : Ch} (h : c.chk = 0) : c.good := by
  unfold Ch.chk at h
  split at h
  · omega
  rename_i h1
  split at h
  · omega
  rename_i h2
  split at h
  case isFalse => omega
  rename_i h3
  simp only [Bool.or_eq_true, not_or, Bool.not_eq_true] at h2
  obtain ⟨h2, h4⟩ := h2
  simp only [Ch.bigB, Bool.or_eq_false_iff, decide_eq_false_iff_not] at h2
  simp only [Ch.longB, Bool.or_eq_false_iff, List.any_eq_false, decide_eq_true_eq, List.mem_append] at h4
  simp only [Ch.stateB, Bool.and_eq_true, decide_eq_true_eq, Bool.not_eq_true', List.any_eq_false, Bool.or_eq_true, not_or, Bool.not_eq_true, Bool.not_eq_false'] at h3
  obtain ⟨⟨⟨⟨⟨g1, g2⟩, g3⟩, g4⟩, g5⟩, g6⟩ := h3
  refine ⟨by omega, by omega, g2, g3, by omega, by omega, by omega, by omega, fun s hs => ?_, fun s hs => ?_, fun s hs => ?_, fun p hp => ?_, g4, fun n hn => ?_⟩
  · have := h4.1 s hs; omega
  · have := h4.2 s (.inl hs); omega
  · have := h4.2 s (.inr hs); omega
  · have := g5 p hp; exact ⟨by omega, by simpa using this.2⟩
  · have := g6 n hn; omega
theorem Ch.of_good {c : Ch} (g : c.good) (hb : c.base ≤ 1048576) : c.chk = 0 := by
  obtain ⟨b1, b2, e1, e2, w, t, h, k, wl, tl, hl, tr, hr, kr⟩ := g
  rw [Ch.chk, if_neg (by omega), if_neg, if_pos]
  · simp only [Ch.stateB, Bool.and_eq_true, decide_eq_true_eq, Bool.not_eq_true', List.any_eq_false, Bool.or_eq_true, not_or, Bool.not_eq_true, Bool.not_eq_false']
    exact ⟨⟨⟨⟨⟨b2, e1⟩, e2⟩, hr⟩, fun p hp => ⟨by have := (tr p hp).1; omega, by simpa using (tr p hp).2⟩⟩, fun n hn => by have := kr n hn; omega⟩
  · simp only [Bool.or_eq_true, not_or, Bool.not_eq_true]
    simp only [Ch.bigB, Bool.or_eq_false_iff, decide_eq_false_iff_not, Ch.longB, List.any_eq_false, decide_eq_true_eq, List.mem_append]
    refine ⟨by omega, fun s hs => by have := wl s hs; omega, fun s hs => ?_⟩
    rcases hs with hs | hs
    · have := tl s hs; omega
    · have := hl s hs; omega
end Kx
