/-
  The plain law of channels: what the moves keep.
  No condition beyond those written in each theorem.
-/
import Derived.Test.YtnjjjmknmoenmaaKEh
open Go Sx Go.Proofs
set_option linter.unusedSimpArgs false
set_option linter.unusedVariables false
namespace Kx
theorem held_iff {c : Ch} : ∀ {m : Int} {l : List Pk}, c.heldB m l = true ↔ Asc l ∧ ∀ x ∈ l, m < x.1 ∧ c.exp < x.1 ∧ c.right x = true
  | m, [] => ⟨fun _ => ⟨.nil, fun _ h => (nomatch h)⟩, fun _ => rfl⟩
  | m, p :: l => by
    refine ⟨heldB_asc, fun ⟨h1, h2⟩ => ?_⟩
    have h1 := List.pairwise_cons.1 h1
    have hp := h2 p (List.mem_cons_self ..)
    simp only [Ch.heldB, Bool.and_eq_true, decide_eq_true_eq]
    refine ⟨⟨⟨hp.2.1, hp.1⟩, hp.2.2⟩, held_iff.2 ⟨h1.2, fun x hx => ⟨h1.1 x hx, (h2 x (List.mem_cons_of_mem _ hx)).2⟩⟩⟩
theorem right_iff {c : Ch} {p : Pk} : c.right p = true ↔ p.1 < c.reach ∧ (p.1 < c.base ∨ c.pay p.1 = p.2) := by
  simp only [Ch.right, Bool.and_eq_true, Bool.or_eq_true, decide_eq_true_eq]
/-- Held numbers lie between, each once. -/
theorem asc_len : ∀ {l : List Pk} {a b : Int}, Asc l → (∀ x ∈ l, a < x.1 ∧ x.1 < b) → a < b → (l.length : Int) ≤ b - a - 1
  | [], a, b, _, _, h => by simp only [List.length_nil]; omega
  | x :: l, a, b, h1, h2, _ => by
    have h1 := List.pairwise_cons.1 h1
    have hx := h2 x (List.mem_cons_self ..)
    have := asc_len (a := x.1) (b := b) h1.2 (fun y hy => ⟨h1.1 y hy, (h2 y (List.mem_cons_of_mem _ hy)).2⟩) hx.2
    simp only [List.length_cons]; omega
/-- What the sender and the receiver know stays, and how far each is. -/
structure Step39 (c x : Ch) : Prop where
  g : x.good
  b : c.base ≤ x.base
  e : c.exp ≤ x.exp
  n : x.base + x.wait.length = c.base + c.wait.length ∨ x.base = c.base ∧ x.exp = c.exp ∧ ∃ p, x.wait = c.wait ++ [p]
theorem Ch.good.base {c : Ch} (g : c.good) : c.base ≤ 1048576 := by have := g.b2; omega
theorem Ch.good.chk {c : Ch} (g : c.good) : c.chk = 0 := Ch.of_good g g.base
theorem Ch.good.ok {c : Ch} (g : c.good) : c.ok := by
  have := g.b1; have := g.base; have := g.w; have := g.t; have := g.h; have := g.k
  exact ⟨by omega, by omega, by omega, by omega, by omega, by omega⟩
theorem Ch.good.reach {c : Ch} (g : c.good) : c.reach = c.base + min (c.wait.length : Int) 4 := rfl
/-- The parts of a channel fit together, if what is held is right. -/
theorem good_mk {c : Ch} (b1 : 1 ≤ c.base) (b2 : c.base + c.wait.length ≤ 1048576) (e1 : c.base ≤ c.exp) (e2 : c.exp ≤ c.reach) (w : c.wait.length ≤ 16) (t : c.there.length ≤ 16) (k : c.back.length ≤ 16)
    (wl : ∀ s ∈ c.wait, s.length ≤ 60000) (tl : ∀ s ∈ c.there, s.2.length ≤ 60000) (hl : ∀ s ∈ c.held, s.2.length ≤ 60000) (tr : ∀ p ∈ c.there, 1 ≤ p.1 ∧ c.right p = true)
    (ha : Asc c.held) (hr : ∀ x ∈ c.held, c.exp < x.1 ∧ c.right x = true) (kr : ∀ n ∈ c.back, 1 ≤ n ∧ n ≤ c.exp) : c.good := by
  have hrc : c.reach = c.base + min (c.wait.length : Int) 4 := rfl
  refine ⟨b1, b2, e1, e2, w, t, ?_, k, wl, tl, hl, tr, held_iff.2 ⟨ha, fun x hx => ⟨(hr x hx).1, hr x hx⟩⟩, kr⟩
  rcases (by omega : c.exp < c.reach ∨ c.reach ≤ c.exp) with h | h
  · have := asc_len (a := c.exp) (b := c.reach) ha (fun x hx => ⟨(hr x hx).1, (right_iff.1 (hr x hx).2).1⟩) h
    omega
  · cases hh : c.held with
    | nil => simp
    | cons x l =>
      have h1 := hr x (by rw [hh]; exact List.mem_cons_self ..)
      have := (right_iff.1 h1.2).1
      omega
theorem Ch.good.ha {c : Ch} (g : c.good) : Asc c.held := (heldB_asc g.hr).1
theorem Ch.good.hh {c : Ch} (g : c.good) : ∀ x ∈ c.held, c.exp < x.1 ∧ c.right x = true := fun x hx => ((heldB_asc g.hr).2 x hx).2
theorem right_offer {c : Ch} {q : Str} {p : Pk} (h : c.right p = true) : Ch.right { c with wait := c.wait ++ [q] } p = true := by
  rw [right_iff] at h ⊢
  have e1 : c.reach = c.base + min (c.wait.length : Int) 4 := rfl
  have e2 : Ch.reach { c with wait := c.wait ++ [q] } = c.base + min ((c.wait ++ [q]).length : Int) 4 := rfl
  have el : (c.wait ++ [q]).length = c.wait.length + 1 := by simp
  have h1 := h.1
  refine ⟨by show p.1 < c.base + min ((c.wait ++ [q]).length : Int) 4; omega, ?_⟩
  by_cases hb : p.1 < c.base
  · exact .inl hb
  · refine .inr ?_
    rw [← h.2.resolve_left hb]
    show (c.wait ++ [q]).getD (p.1 - c.base).toNat [] = c.wait.getD (p.1 - c.base).toNat []
    simp only [List.getD_eq_getElem?_getD]
    rw [List.getElem?_append_left (by omega)]
theorem offer_step {c x : Ch} {p : Str} (g : c.good) (h : c.offer p = (x, 0)) : Step39 c x ∧ x = { c with wait := c.wait ++ [p] } ∧ p.length ≤ 60000 := by
  unfold Ch.offer at h
  rw [if_neg (not_not_intro g.chk)] at h
  split at h
  · simp at h
  rename_i hn
  simp only [Prod.mk.injEq, and_true] at h
  subst h
  have e1 : c.reach = c.base + min (c.wait.length : Int) 4 := rfl
  have e2 : Ch.reach { c with wait := c.wait ++ [p] } = c.base + min ((c.wait ++ [p]).length : Int) 4 := rfl
  have el : (c.wait ++ [p]).length = c.wait.length + 1 := by simp
  have ge := g.e2
  refine ⟨⟨good_mk g.b1 ?_ g.e1 ?_ ?_ g.t g.k ?_ g.tl g.hl (fun q hq => ⟨(g.tr q hq).1, right_offer (g.tr q hq).2⟩) g.ha (fun q hq => ⟨(g.hh q hq).1, right_offer (g.hh q hq).2⟩) g.kr, Int.le_refl _, Int.le_refl _, .inr ⟨rfl, rfl, p, rfl⟩⟩, rfl, by omega⟩
  · show c.base + ((c.wait ++ [p]).length : Int) ≤ _; omega
  · show c.exp ≤ Ch.reach _; rw [e2]; omega
  · show (c.wait ++ [p]).length ≤ 16; omega
  · intro s hs
    rcases List.mem_append.1 hs with hs | hs
    · exact g.wl s hs
    · simp at hs; subst hs; omega
theorem send_step {c x : Ch} {i : Int} (g : c.good) (h : c.send i = (x, 0)) : Step39 c x ∧ x = { c with there := c.there ++ [(c.base + i, c.wait.getD i.toNat [])] } ∧ 0 ≤ i ∧ i < c.wait.length ∧ i < 4 := by
  unfold Ch.send at h
  rw [if_neg (not_not_intro g.chk)] at h
  split at h
  · simp at h
  rename_i hi
  split at h
  · simp at h
  rename_i ht
  simp only [Prod.mk.injEq, and_true] at h
  subst h
  have e1 : c.reach = c.base + min (c.wait.length : Int) 4 := rfl
  have el : (c.there ++ [(c.base + i, c.wait.getD i.toNat [])]).length = c.there.length + 1 := by simp
  have hm : c.wait.getD i.toNat [] ∈ c.wait := getD_mem (by omega)
  refine ⟨⟨good_mk g.b1 g.b2 g.e1 g.e2 g.w ?_ g.k g.wl ?_ g.hl ?_ g.ha g.hh g.kr, Int.le_refl _, Int.le_refl _, .inl rfl⟩, rfl, by omega, by omega, by omega⟩
  · show (c.there ++ _).length ≤ 16; omega
  · intro s hs
    rcases List.mem_append.1 hs with hs | hs
    · exact g.tl s hs
    · simp at hs; subst hs; exact g.wl _ (by simpa using hm)
  · intro s hs
    rcases List.mem_append.1 hs with hs | hs
    · exact g.tr s hs
    · simp only [List.mem_cons, List.not_mem_nil, or_false] at hs
      subst hs
      have := g.b1
      refine ⟨by simp only; omega, right_iff.2 ⟨?_, .inr ?_⟩⟩
      · show c.base + i < c.reach; omega
      · show c.wait.getD (c.base + i - c.base).toNat [] = _
        rw [show c.base + i - c.base = i by omega]
theorem mem_cut {α : Type} {l : List α} {a b : Nat} {x : α} (h : x ∈ l.take a ++ l.drop b) : x ∈ l := by
  rcases List.mem_append.1 h with h | h
  · exact List.mem_of_mem_take h
  · exact List.mem_of_mem_drop h
theorem len_cut {α : Type} {l : List α} {a : Nat} (h : a < l.length) : (l.take a ++ l.drop (a + 1)).length = l.length - 1 := by
  simp only [List.length_append, List.length_take, List.length_drop]; omega
theorem good_there {c : Ch} (g : c.good) {l : List Pk} (hl : l.length ≤ 16) (h : ∀ x ∈ l, x ∈ c.there) : Ch.good { c with there := l } :=
  good_mk g.b1 g.b2 g.e1 g.e2 g.w hl g.k g.wl (fun s hs => g.tl s (h s hs)) g.hl (fun p hp => g.tr p (h p hp)) g.ha g.hh g.kr
theorem good_back {c : Ch} (g : c.good) {l : List Int} (hl : l.length ≤ 16) (h : ∀ x ∈ l, 1 ≤ x ∧ x ≤ c.exp) : Ch.good { c with back := l } :=
  good_mk g.b1 g.b2 g.e1 g.e2 g.w g.t hl g.wl g.tl g.hl g.tr g.ha g.hh h
theorem lose_step {c x : Ch} {i : Int} (g : c.good) (h : c.lose i = (x, 0)) : Step39 c x ∧ x = { c with there := c.there.take i.toNat ++ c.there.drop (i.toNat + 1) } ∧ 0 ≤ i ∧ i < c.there.length := by
  unfold Ch.lose at h
  split at h
  · rename_i he; simp at h; exact absurd h.2 he
  rename_i he
  obtain ⟨_, e1, e2⟩ := Ch.err0 (Classical.not_not.1 he)
  simp only [Prod.mk.injEq, and_true] at h
  subst h
  have gt := g.t
  exact ⟨⟨good_there g (by rw [len_cut (by omega)]; omega) fun x hx => mem_cut hx, Int.le_refl _, Int.le_refl _, .inl rfl⟩, rfl, e1, e2⟩
theorem repeat_step {c x : Ch} {i : Int} (g : c.good) (h : c.repeat i = (x, 0)) : Step39 c x ∧ x = { c with there := c.there ++ [c.there.getD i.toNat (0, [])] } := by
  unfold Ch.repeat at h
  split at h
  · rename_i he; simp at h; exact absurd h.2 he
  rename_i he
  obtain ⟨_, e1, e2⟩ := Ch.err0 (Classical.not_not.1 he)
  split at h
  · simp at h
  rename_i hn
  simp only [Prod.mk.injEq, and_true] at h
  subst h
  refine ⟨⟨good_there g (by simp; omega) fun x hx => ?_, Int.le_refl _, Int.le_refl _, .inl rfl⟩, rfl⟩
  rcases List.mem_append.1 hx with hx | hx
  · exact hx
  · simp only [List.mem_cons, List.not_mem_nil, or_false] at hx; subst hx; exact getD_mem (by omega)
theorem loseB_step {c x : Ch} {i : Int} (g : c.good) (h : c.loseB i = (x, 0)) : Step39 c x ∧ x = { c with back := c.back.take i.toNat ++ c.back.drop (i.toNat + 1) } := by
  unfold Ch.loseB at h
  split at h
  · rename_i he; simp at h; exact absurd h.2 he
  rename_i he
  obtain ⟨_, e1, e2⟩ := Ch.err0 (Classical.not_not.1 he)
  simp only [Prod.mk.injEq, and_true] at h
  subst h
  have gt := g.k
  exact ⟨⟨good_back g (by rw [len_cut (by omega)]; omega) fun x hx => g.kr x (mem_cut hx), Int.le_refl _, Int.le_refl _, .inl rfl⟩, rfl⟩
theorem right_ack {c : Ch} {n : Int} {p : Pk} (g : c.good) (hn : c.base < n) (hn' : n ≤ c.exp) (h : c.right p = true) : Ch.right { c with wait := c.wait.drop (n - c.base).toNat, base := n } p = true := by
  rw [right_iff] at h ⊢
  have e1 : c.reach = c.base + min (c.wait.length : Int) 4 := rfl
  have e2 : Ch.reach { c with wait := c.wait.drop (n - c.base).toNat, base := n } = n + min ((c.wait.drop (n - c.base).toNat).length : Int) 4 := rfl
  have ge := g.e2
  rw [e2, List.length_drop]
  refine ⟨by omega, ?_⟩
  rcases h.2 with h' | h'
  · exact .inl (by simp only; omega)
  · by_cases hb : p.1 < n
    · exact .inl hb
    · refine .inr ?_
      rw [← h']
      show (c.wait.drop (n - c.base).toNat).getD (p.1 - n).toNat [] = c.wait.getD (p.1 - c.base).toNat []
      simp only [List.getD_eq_getElem?_getD, List.getElem?_drop]
      rw [show (n - c.base).toNat + (p.1 - n).toNat = (p.1 - c.base).toNat by omega]
theorem good_ack {c : Ch} {n : Int} (g : c.good) (hn' : n ≤ c.exp) : Step39 c (c.ack n) := by
  rw [Ch.ack]
  split
  · rename_i hn
    have e1 : c.reach = c.base + min (c.wait.length : Int) 4 := rfl
    have e2 : Ch.reach { c with wait := c.wait.drop (n - c.base).toNat, base := n } = n + min ((c.wait.drop (n - c.base).toNat).length : Int) 4 := rfl
    have ge := g.e2; have gb := g.b1; have gw := g.w; have gb2 := g.b2
    have el : (c.wait.drop (n - c.base).toNat).length = c.wait.length - (n - c.base).toNat := List.length_drop ..
    refine ⟨good_mk ?_ ?_ hn' ?_ ?_ g.t g.k (fun s hs => g.wl s (List.mem_of_mem_drop hs)) g.tl g.hl (fun q hq => ⟨(g.tr q hq).1, right_ack g hn hn' (g.tr q hq).2⟩) g.ha (fun q hq => ⟨(g.hh q hq).1, right_ack g hn hn' (g.hh q hq).2⟩) g.kr, by simp only; omega, Int.le_refl _, .inl ?_⟩
    · simp only; omega
    · show n + ((c.wait.drop (n - c.base).toNat).length : Int) ≤ _; omega
    · show c.exp ≤ Ch.reach _; rw [e2]; omega
    · show (c.wait.drop (n - c.base).toNat).length ≤ 16; omega
    · show n + ((c.wait.drop (n - c.base).toNat).length : Int) = _; omega
  · exact ⟨g, Int.le_refl _, Int.le_refl _, .inl rfl⟩
theorem back_step {c x : Ch} {i : Int} (g : c.good) (h : c.backM i = (x, 0)) : Step39 c x ∧ x = ({ c with back := c.back.take i.toNat ++ c.back.drop (i.toNat + 1) } : Ch).ack (c.back.getD i.toNat 0) ∧ 0 ≤ i ∧ i < c.back.length := by
  unfold Ch.backM at h
  split at h
  · rename_i he; simp at h; exact absurd h.2 he
  rename_i he
  obtain ⟨_, e1, e2⟩ := Ch.err0 (Classical.not_not.1 he)
  simp only [Prod.mk.injEq, and_true] at h
  subst h
  have gt := g.k
  have g1 : Ch.good { c with back := c.back.take i.toNat ++ c.back.drop (i.toNat + 1) } := good_back g (by rw [len_cut (by omega)]; omega) fun x hx => g.kr x (mem_cut hx)
  have := good_ack (n := c.back.getD i.toNat 0) g1 (g.kr _ (getD_mem (by omega))).2
  exact ⟨⟨this.g, this.b, this.e, this.n⟩, rfl, e1, e2⟩
/-- What draining leaves. -/
theorem drain_ok (R : Int) : ∀ (e : Int) (l : List Pk), Asc l → (∀ x ∈ l, e ≤ x.1 ∧ x.1 < R) → e ≤ R →
    e ≤ (drain e l).1 ∧ (drain e l).1 ≤ R ∧ Asc (drain e l).2.2 ∧ (∀ x ∈ (drain e l).2.2, x ∈ l ∧ (drain e l).1 < x.1) ∧ ((drain e l).2.1.length : Int) = (drain e l).1 - e
  | e, [], _, _, h => ⟨Int.le_refl _, h, .nil, fun _ h => (nomatch h), by simp [drain]⟩
  | e, x :: l, h1, h2, h => by
    have h1' := List.pairwise_cons.1 h1
    have hx := h2 x (List.mem_cons_self ..)
    rw [drain]
    split
    · rename_i hxe
      obtain ⟨a1, a2, a3, a4, a5⟩ := drain_ok R (e + 1) l h1'.2 (fun y hy => ⟨by have := h1'.1 y hy; omega, (h2 y (List.mem_cons_of_mem _ hy)).2⟩) (by omega)
      refine ⟨by simp only; omega, a2, a3, fun y hy => ⟨List.mem_cons_of_mem _ (a4 y hy).1, (a4 y hy).2⟩, ?_⟩
      simp only [List.length_cons]; omega
    · rename_i hxe
      refine ⟨Int.le_refl _, h, h1, fun y hy => ⟨hy, ?_⟩, by simp⟩
      rcases List.mem_cons.1 hy with rfl | hy
      · simp only; omega
      · have := h1'.1 y hy; simp only; omega
theorem ins_mem {l : List Pk} {p x : Pk} (h : x ∈ ins l p) : x ∈ l ∨ x = p := by
  unfold ins at h
  split at h
  · exact .inl h
  · rcases List.mem_append.1 h with h | h
    · exact .inl (List.mem_of_mem_take h)
    · rcases List.mem_cons.1 h with h | h
      · exact .inr h
      · exact .inl (List.mem_of_mem_drop h)
theorem ins_asc : ∀ {l : List Pk} {p : Pk}, Asc l → Asc (ins l p)
  | [], p, _ => by
    unfold ins
    split
    · exact .nil
    · simp [pos, Asc]
  | x :: l, p, h => by
    have h' := List.pairwise_cons.1 h
    have ih := ins_asc (p := p) h'.2
    by_cases hx : x.1 < p.1
    · have hp : pos (x :: l) p.1 = pos l p.1 + 1 := by rw [pos, if_pos hx]
      have hf : found (x :: l) p.1 = found l p.1 := by
        rw [found, found, hp, List.getD_cons_succ, List.length_cons]
        congr 1
        simp
      have e : ins (x :: l) p = x :: ins l p := by
        unfold ins; rw [hf, hp]
        split
        · rfl
        · simp
      rw [e]
      refine List.pairwise_cons.2 ⟨fun y hy => ?_, ih⟩
      rcases ins_mem hy with hy | rfl
      · exact h'.1 y hy
      · exact hx
    · have hp : pos (x :: l) p.1 = 0 := by rw [pos, if_neg hx]
      unfold ins
      split
      · exact h
      · rename_i hf
        rw [hp, List.take_zero, List.drop_zero, List.nil_append]
        have hne : ¬x.1 = p.1 := fun e => hf (by rw [found, hp]; simp [e])
        refine List.pairwise_cons.2 ⟨fun y hy => ?_, h⟩
        rcases List.mem_cons.1 hy with rfl | hy
        · omega
        · have := h'.1 y hy; omega
theorem right_same {c c' : Ch} (hb : c'.base = c.base) (hw : c'.wait = c.wait) (p : Pk) : c'.right p = c.right p := by
  unfold Ch.right Ch.reach Ch.pay; rw [hb, hw]
theorem note_good {c : Ch} (g : c.good) : c.note.good := by
  rw [Ch.note]
  split
  · rename_i hk
    refine good_back g (by simp; omega) fun x hx => ?_
    rcases List.mem_append.1 hx with hx | hx
    · exact g.kr x hx
    · simp only [List.mem_cons, List.not_mem_nil, or_false] at hx
      have := g.b1; have := g.e1
      subst hx; omega
  · exact g
theorem note_same (c : Ch) : c.note.base = c.base ∧ c.note.exp = c.exp ∧ c.note.wait = c.wait ∧ c.note.there = c.there ∧ c.note.held = c.held := by
  rw [Ch.note]; split <;> exact ⟨rfl, rfl, rfl, rfl, rfl⟩
theorem arrive_ok {c : Ch} {p : Pk} (g : c.good) (h1 : 1 ≤ p.1) (hp : c.right p = true) (hl : p.2.length ≤ 60000) :
    (c.arrive p).1.good ∧ (c.arrive p).1.base = c.base ∧ (c.arrive p).1.wait = c.wait ∧ (c.arrive p).1.there = c.there ∧ (c.arrive p).1.back = c.back ∧ c.exp ≤ (c.arrive p).1.exp ∧ ((c.arrive p).2.length : Int) = (c.arrive p).1.exp - c.exp ∧ (p.1 ≤ c.exp → p.1 + 1 ≤ (c.arrive p).1.exp) := by
  have e1 : c.reach = c.base + min (c.wait.length : Int) 4 := rfl
  have hr := (right_iff.1 hp).1
  unfold Ch.arrive
  split
  · rename_i he
    obtain ⟨a1, a2, a3, a4, a5⟩ := drain_ok c.reach (c.exp + 1) c.held g.ha (fun x hx => ⟨by have := (g.hh x hx).1; omega, (right_iff.1 (g.hh x hx).2).1⟩) (by omega)
    have ge := g.e1
    refine ⟨good_mk g.b1 g.b2 ?_ a2 g.w g.t g.k g.wl g.tl (fun s hs => g.hl s (a4 s hs).1) g.tr a3 (fun x hx => ⟨(a4 x hx).2, (g.hh x (a4 x hx).1).2⟩) (fun n hn => ⟨(g.kr n hn).1, ?_⟩), rfl, rfl, rfl, rfl, ?_, ?_, ?_⟩
    · simp only; omega
    · have := (g.kr n hn).2; simp only; omega
    · simp only; omega
    · simp only [List.length_cons]; omega
    · simp only; omega
  · rename_i he
    split
    · rename_i hq
      refine ⟨good_mk g.b1 g.b2 g.e1 g.e2 g.w g.t g.k g.wl g.tl (fun s hs => ?_) g.tr (ins_asc g.ha) (fun x hx => ?_) g.kr, rfl, rfl, rfl, rfl, Int.le_refl _, by simp, fun h => by omega⟩
      · rcases ins_mem hs with hs | rfl
        · exact g.hl s hs
        · exact hl
      · rcases ins_mem hx with hx | rfl
        · exact g.hh x hx
        · exact ⟨hq, hp⟩
    · refine ⟨g, rfl, rfl, rfl, rfl, Int.le_refl _, by simp, fun h => by simp only; omega⟩
theorem deliver_step {c x : Ch} {i : Int} {l : List Str} (g : c.good) (h : c.deliver i = (x, l, 0)) : Step39 c x ∧ x.base = c.base ∧ x.wait = c.wait ∧ (l.length : Int) = x.exp - c.exp ∧ 0 ≤ i ∧ i < c.there.length ∧
    x.there = c.there.take i.toNat ++ c.there.drop (i.toNat + 1) ∧ ((c.there.getD i.toNat (0, [])).1 ≤ c.exp → (c.there.getD i.toNat (0, [])).1 + 1 ≤ x.exp) ∧ (c.back.length < 16 → x.back = c.back ++ [x.exp]) := by
  unfold Ch.deliver at h
  split at h
  · rename_i he; simp at h; exact absurd h.2.2 he
  rename_i he
  obtain ⟨_, e1, e2⟩ := Ch.err0 (Classical.not_not.1 he)
  simp only [Prod.mk.injEq, and_true] at h
  obtain ⟨rfl, rfl⟩ := h
  have gt := g.t
  have hm : c.there.getD i.toNat (0, []) ∈ c.there := getD_mem (by omega)
  have g1 : Ch.good { c with there := c.there.take i.toNat ++ c.there.drop (i.toNat + 1) } := good_there g (by rw [len_cut (by omega)]; omega) fun x hx => mem_cut hx
  obtain ⟨b1, b2, b3, b4, b5, b6, b7, b8⟩ := arrive_ok g1 (g.tr _ hm).1 (g.tr _ hm).2 (g.tl _ hm)
  obtain ⟨n1, n2, n3, n4, n5⟩ := note_same (Ch.arrive { c with there := c.there.take i.toNat ++ c.there.drop (i.toNat + 1) } (c.there.getD i.toNat (0, []))).1
  refine ⟨⟨note_good b1, by rw [n1, b2]; exact Int.le_refl _, by rw [n2]; exact b6, .inl (by rw [n1, b2, n3, b3])⟩, by rw [n1, b2], by rw [n3, b3], by rw [n2]; exact b7, e1, e2, by rw [n4, b4], fun h => by rw [n2]; exact b8 h, fun hk => ?_⟩
  rw [n2, Ch.note, if_pos (by rw [b5]; exact hk)]
  simp only [b5]
end Kx
