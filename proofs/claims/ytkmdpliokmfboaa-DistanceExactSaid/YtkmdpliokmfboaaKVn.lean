/-
  What scripts do, and that no list of changes is shorter than the distance.
  No condition beyond those written in each theorem.
-/
import Derived.Test.YtkmdpliokmfboaaKVf
open Go Sx Go.Proofs
set_option linter.unusedSimpArgs false
set_option linter.unusedVariables false
namespace Kx
theorem take_1 (a : Str) (i : Nat) (h : 0 < i ∧ i ≤ a.length) : a.take i = a.take (i - 1) ++ [a.getD (i - 1) 0] := by
  have := take_step a 0 (i - 1) (by omega)
  rwa [Nat.sub_add_cancel h.1] at this
theorem drop_in (u v : Str) (p : Nat) (h : p ≤ u.length) : (u ++ v).drop p = u.drop p ++ v := by
  rw [List.drop_append, show p - u.length = 0 by omega, List.drop_zero]
theorem len_take (a : Str) (i : Nat) (h : i ≤ a.length) : (a.take i).length = i := by rw [List.length_take]; omega
/-- A script leads from a beginning to a beginning. -/
structure Leads (a b : Str) (i j : Nat) (l : List Cg) : Prop where
  n : l.length = tbl a b i j
  f : ∀ c ∈ l, fitP c a.length ∧ c.p + wid c.k ≤ i
  o : l.Pairwise fun x y => x.p + wid x.k ≤ y.p
  p : (runA a l).2 ≤ i
  r : (runA a l).1 ++ (a.take i).drop (runA a l).2 = b.take j
theorem run_snoc (a : Str) (l : List Cg) (c : Cg) : runA a (l ++ [c]) = stp a (runA a l) c := by rw [runA, List.foldl_append]; rfl
theorem pw_snoc {l : List Cg} {c : Cg} (h : l.Pairwise fun x y => x.p + wid x.k ≤ y.p) (hc : ∀ x ∈ l, x.p + wid x.k ≤ c.p) : (l ++ [c]).Pairwise fun x y => x.p + wid x.k ≤ y.p :=
  List.pairwise_append.2 ⟨h, by simp, fun x hx y hy => by rw [List.mem_singleton.1 hy]; exact hc x hx⟩
theorem mem_snoc {l : List Cg} {c : Cg} {q : Cg → Prop} (h : ∀ x ∈ l, q x) (hc : q c) : ∀ x ∈ l ++ [c], q x := fun x hx => by
  rcases List.mem_append.1 hx with hx | hx
  · exact h x hx
  · rw [List.mem_singleton.1 hx]; exact hc
section
variable {a b : Str} {i j : Nat} {l : List Cg}
theorem Leads.keep (hi : 0 < i ∧ i ≤ a.length) (hj : 0 < j ∧ j ≤ b.length) (he : a.getD (i - 1) 0 = b.getD (j - 1) 0) (ht : tbl a b i j = tbl a b (i - 1) (j - 1)) (h : Leads a b (i - 1) (j - 1) l) : Leads a b i j l := by
  have hp := h.p
  refine ⟨h.n.trans ht.symm, fun c hc => ⟨(h.f c hc).1, by have := (h.f c hc).2; omega⟩, h.o, by omega, ?_⟩
  rw [take_1 a i hi, drop_in _ _ _ (by rw [len_take a _ (by omega)]; exact hp), ← List.append_assoc, h.r, he, ← take_1 b j hj]
theorem Leads.snoc {i' j' : Nat} {c : Cg} (h : Leads a b i' j' l) (hn : tbl a b i j = tbl a b i' j' + 1) (hii : i' ≤ i) (hf : fitP c a.length) (hc : c.p + wid c.k = i) (hp : c.p = i') (ho : b.take j' ++ chg a c = b.take j) : Leads a b i j (l ++ [c]) := by
  have hw := wid_bd c.k
  refine ⟨by rw [List.length_append, h.n, hn]; rfl, mem_snoc (fun x hx => ⟨(h.f x hx).1, by have := (h.f x hx).2; omega⟩) ⟨hf, by omega⟩, pw_snoc h.o fun x hx => by have := (h.f x hx).2; omega, ?_, ?_⟩
  · rw [run_snoc]; simp only [stp]; omega
  · rw [run_snoc]
    simp only [stp]
    rw [show (c.p + wid c.k).toNat = i by omega, show c.p.toNat = i' by omega, h.r, ho, List.drop_of_length_le (by rw [List.length_take]; omega), List.append_nil]
end
theorem chg_y (a : Str) (k p : Int) (x : UInt8) (h : k = 1 ∨ k = 3) : chg a ⟨k, p, x.toNat⟩ = [x] := by
  rw [chg, if_pos h]; simp
theorem leads_scr (a b : Str) : ∀ (n i j : Nat), i ≤ a.length → j ≤ b.length → i + j ≤ n → Leads a b i j (scr a b n i j)
  | 0, i, j, hi, hj, hn => by
    obtain rfl : i = 0 := by omega
    obtain rfl : j = 0 := by omega
    exact ⟨by rw [tbl_0 a b 0 0 hi hj (.inl rfl)]; rfl, by simp [scr], by simp [scr], by simp [scr, runA], by simp [scr, runA]⟩
  | n + 1, i, j, hi, hj, hn => by
    by_cases h0 : i = 0 ∧ j = 0
    · obtain ⟨rfl, rfl⟩ := h0
      rw [scr_end]
      exact ⟨by rw [tbl_0 a b 0 0 hi hj (.inl rfl)]; rfl, by simp, by simp, by simp [runA], by simp [runA]⟩
    by_cases k1 : keepP a b i j
    · rw [scr_keep n h0 k1]
      obtain ⟨x1, x2, x3, x4⟩ := k1
      exact (leads_scr a b n (i - 1) (j - 1) (by omega) (by omega) (by omega)).keep ⟨x1, hi⟩ ⟨x2, hj⟩ x3 x4
    by_cases k2 : replP a b i j
    · rw [scr_repl n h0 k1 k2]
      obtain ⟨x1, x2, x3⟩ := k2
      have hy := iv b (j - 1)
      refine (leads_scr a b n (i - 1) (j - 1) (by omega) (by omega) (by omega)).snoc x3 (by omega) ?_ ?_ rfl ?_
      · refine ⟨.inl ⟨.inr rfl, hy⟩, by dsimp only; omega, ?_⟩
        show ((i - 1 : Nat) : Int) + 1 ≤ _; omega
      · show ((i - 1 : Nat) : Int) + 1 = _; omega
      · rw [chg_y _ _ _ _ (.inr rfl), ← take_1 b j ⟨x2, hj⟩]
    by_cases k3 : delP a b i j
    · rw [scr_del n h0 k1 k2 k3]
      obtain ⟨x1, x2⟩ := k3
      refine (leads_scr a b n (i - 1) j (by omega) (by omega) (by omega)).snoc x2 (by omega) ?_ ?_ rfl ?_
      · refine ⟨.inr ⟨.inl rfl, rfl⟩, by dsimp only; omega, ?_⟩
        show ((i - 1 : Nat) : Int) + 1 ≤ _; omega
      · show ((i - 1 : Nat) : Int) + 1 = _; omega
      · rw [chg, if_neg (by simp), if_neg (by simp), List.append_nil]
    by_cases k4 : insP a b i j
    · rw [scr_ins n h0 k1 k2 k3 k4]
      obtain ⟨x1, x2⟩ := k4
      have hy := iv b (j - 1)
      refine (leads_scr a b n i (j - 1) (by omega) (by omega) (by omega)).snoc x2 (Nat.le_refl _) ?_ ?_ rfl ?_
      · refine ⟨.inl ⟨.inl rfl, hy⟩, by dsimp only; omega, ?_⟩
        show (i : Int) + 0 ≤ _; omega
      · show (i : Int) + 0 = _; omega
      · rw [chg_y _ _ _ _ (.inl rfl), ← take_1 b j ⟨x1, hj⟩]
    rw [scr_swap n h0 k1 k2 k3 k4]
    rcases tbl_cases a b i j hi hj h0 with h | h | h | h | ⟨x1, x2, x3, x4, x5⟩
    · exact absurd h k1
    · exact absurd h k2
    · exact absurd h k3
    · exact absurd h k4
    refine (leads_scr a b n (i - 2) (j - 2) (by omega) (by omega) (by omega)).snoc x5 (by omega) ?_ ?_ rfl ?_
    · refine ⟨.inr ⟨.inr rfl, rfl⟩, by dsimp only; omega, ?_⟩
      show ((i - 2 : Nat) : Int) + 2 ≤ _; omega
    · show ((i - 2 : Nat) : Int) + 2 = _; omega
    · rw [chg, if_neg (by simp), if_pos rfl]
      dsimp only
      rw [show (((i - 2 : Nat) : Int) + 1).toNat = i - 1 by omega, Int.toNat_natCast, x3, x4, take_1 b j ⟨by omega, hj⟩, take_1 b (j - 1) ⟨by omega, by omega⟩, show j - 1 - 1 = j - 2 by omega, List.append_assoc]; rfl
theorem ord_of_pw {l : List Cg} (h : l.Pairwise fun x y => x.p + wid x.k ≤ y.p) : ordB l = true := decide_eq_true fun i hi => by
  have := List.pairwise_iff_getElem.1 h i (i + 1) (by omega) hi (by omega)
  simpa [List.getD_eq_getElem?_getD, List.getElem?_eq_getElem hi, List.getElem?_eq_getElem (show i < l.length by omega)] using this
theorem fit_ok {c : Cg} {n : Nat} (h : fitP c n) (hn : n ≤ 1000000000) : c.ok := by
  have := wid_bd c.k
  unfold fitP at h; unfold Cg.ok; omega
/-- A list of changes that can be carried out. -/
structure Good (a : Str) (l : List Cg) : Prop where
  o : ordB l = true
  f : l.all (fun c => fitB c a.length) = true
theorem Good.ok {a : Str} {l : List Cg} (h : Good a l) (ha : a.length ≤ 64) : ∀ c ∈ l, c.ok := fun c hc => fit_ok (of_decide_eq_true (List.all_eq_true.1 h.f c hc)) (by omega)
theorem Good.e {a : Str} {l : List Cg} (h : Good a l) (ha : a.length ≤ 64) (hn : (outA a l).length ≤ 128) : appE a l = 0 ∧ appS a l = outA a l := by
  have := app_0 (a := a) (l := l) (by omega) h.o h.f (by omega)
  exact ⟨this, appS_yes this⟩
theorem good_script (a b : Str) : Good a (script a b) ∧ (script a b).length = dist a b ∧ outA a (script a b) = b := by
  have h := leads_scr a b (a.length + b.length) a.length b.length (Nat.le_refl _) (Nat.le_refl _) (Nat.le_refl _)
  refine ⟨⟨ord_of_pw h.o, ?_⟩, h.n.trans (tbl_all a b), ?_⟩
  · rw [List.all_eq_true]; exact fun c hc => decide_eq_true (h.f c hc).1
  · have := h.r
    rwa [List.take_of_length_le (Nat.le_refl _), List.take_of_length_le (Nat.le_refl _)] at this
theorem take_rev_app (a : Str) (p q : Nat) (h : p ≤ q) : (a.take q).reverse = ((a.take q).drop p).reverse ++ (a.take p).reverse := by
  rw [← List.reverse_append]
  congr 1
  have : (a.take q).take p = a.take p := by rw [List.take_take, Nat.min_eq_left h]
  rw [← this, List.take_append_drop]
/-- So far an alignment. -/
theorem al_run {a : Str} {l : List Cg} (h : Good a l) : ∀ i, i ≤ l.length → Al (a.take (runA a (l.take i)).2).reverse (runA a (l.take i)).1.reverse i
  | 0, _ => by simp only [List.take_zero, runA, List.foldl_nil, List.reverse_nil]; exact .nil
  | i + 1, hi => by
    have ih := al_run h i (by omega)
    obtain ⟨w1, _, w3⟩ := runA_at h.o h.f i (by omega)
    have w3 := w3 (by omega)
    have hfit := fit_at h.f (show i < l.length by omega)
    rw [runA_step a l i (by omega)]
    generalize runA a (l.take i) = s at *
    generalize l.getD i Cg.z = c at *
    obtain ⟨o, p⟩ := s
    dsimp only at ih w1 w3 ⊢
    have hw := wid_at c.k
    unfold fitP at hfit
    have hk : Al (a.take c.p.toNat).reverse (o ++ (a.take c.p.toNat).drop p).reverse i := by
      rw [take_rev_app a p c.p.toNat (by omega), List.reverse_append]
      exact ih.pre _
    have one : c.p + 1 ≤ a.length → (a.take (c.p + 1).toNat).reverse = a.getD c.p.toNat 0 :: (a.take c.p.toNat).reverse := fun h => by
      rw [show (c.p + 1).toNat = c.p.toNat + 1 by omega]; exact take_rev a _ (by omega)
    have two : c.p + 2 ≤ a.length → (a.take (c.p + 2).toNat).reverse = a.getD (c.p + 1).toNat 0 :: a.getD c.p.toNat 0 :: (a.take c.p.toNat).reverse := fun h => by
      rw [show (c.p + 2).toNat = c.p.toNat + 1 + 1 by omega, take_rev a _ (by omega), take_rev a _ (by omega), show (c.p + 1).toNat = c.p.toNat + 1 by omega]
    rcases hw with ⟨k, w⟩ | ⟨k, w⟩ | ⟨k, w⟩ | ⟨k, w⟩ | ⟨k1, k2, k3, k4, w⟩
    · simp only [stp, chg, if_pos (Or.inl k : c.k = 1 ∨ c.k = 3), w, Int.add_zero]
      rw [List.reverse_append]
      exact .ins _ hk
    · simp only [stp, chg, if_neg (show ¬(c.k = 1 ∨ c.k = 3) by omega), if_neg (show ¬c.k = 4 by omega), w, List.append_nil]
      rw [one (by omega)]
      exact .del _ hk
    · simp only [stp, chg, if_pos (Or.inr k : c.k = 1 ∨ c.k = 3), w]
      rw [List.reverse_append, one (by omega)]
      exact .repl _ _ hk
    · simp only [stp, chg, if_neg (show ¬(c.k = 1 ∨ c.k = 3) by omega), if_pos k, w]
      rw [List.reverse_append, two (by omega)]
      exact .swap _ _ hk
    · omega
theorem least {a : Str} {l : List Cg} (h : Good a l) : dist a (outA a l) ≤ l.length := by
  have := al_run h l.length (Nat.le_refl _)
  rw [List.take_of_length_le (Nat.le_refl _)] at this
  obtain ⟨w1, _, _⟩ := runA_at h.o h.f l.length (Nat.le_refl _)
  rw [List.take_of_length_le (Nat.le_refl _)] at w1
  have h2 := this.pre (a.drop (runA a l).2).reverse
  rw [← List.reverse_append, ← List.reverse_append, List.take_append_drop] at h2
  exact h2.le
/-! ### Bounds -/
theorem dist_symm (a b : Str) : dist a b = dist b a := ds_symm _ _
theorem dist_zero (a b : Str) : dist a b = 0 ↔ a = b := by rw [dist, ds_zero]; exact List.reverse_inj
theorem dist_diff (a b : Str) : a.length ≤ b.length + dist a b ∧ b.length ≤ a.length + dist a b := by have := ds_diff a.reverse b.reverse; simpa [dist] using this
theorem dist_ends (a b p q : Str) : dist (p ++ a ++ q) (p ++ b ++ q) ≤ dist a b := by
  have := ds_ends a.reverse b.reverse q.reverse p.reverse
  simpa [dist] using this
end Kx
