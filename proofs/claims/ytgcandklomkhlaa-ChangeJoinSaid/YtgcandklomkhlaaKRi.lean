/-
  Rows as a map; what is added, joins.
  No condition beyond those written in each theorem.
-/
import Derived.Test.YtgcandklomkhlaaKRh
open Go Sx Go.Proofs
set_option linter.unusedSimpArgs false
set_option linter.unusedVariables false
namespace Kx
abbrev Cn := (Int × List Str) × (Int × Int × Int)
def Rw.c (r : Rw) : Cn := ((r.ver, r.vals), (r.sv, r.st, r.into))
def Rw.of (id : Int) (c : Cn) : Rw := ⟨id, c.1.1, c.1.2, c.2.1, c.2.2.1, c.2.2.2⟩
theorem Rw.of_c (r : Rw) : Rw.of r.id r.c = r := rfl
abbrev cmpC := cmp2 cmpI cmpV
abbrev cmpT := cmp2 cmpI (cmp2 cmpI cmpI)
theorem cmpC_ok : Cmp cmpC := cmpI_ok.two cmpV_ok
theorem cmpT_ok : Cmp cmpT := cmpI_ok.two (cmpI_ok.two cmpI_ok)
def cmb (a b : Cn) : Cn := (mx cmpC a.1 b.1, mx cmpT a.2 b.2)
theorem cmb_idem (a : Cn) : cmb a a = a := by simp only [cmb, cmpC_ok.mx_idem, cmpT_ok.mx_idem]
theorem cmb_comm (a b : Cn) : cmb a b = cmb b a := by simp only [cmb]; rw [cmpC_ok.mx_comm, cmpT_ok.mx_comm]
theorem cmb_assoc (a b c : Cn) : cmb (cmb a b) c = cmb a (cmb b c) := by simp only [cmb, cmpC_ok.mx_assoc, cmpT_ok.mx_assoc]
theorem both_eq (a b : Rw) : both a b = Rw.of a.id (cmb a.c b.c) := by
  have h1 : cont a b = cmpC a.c.1 b.c.1 := rfl
  have h2 : stat a b = cmpT a.c.2 b.c.2 := rfl
  unfold both cmb mx
  rw [h1, h2]
  rfl
def cup : Option Cn → Option Cn → Option Cn
  | none, b => b
  | some a, none => some a
  | some a, some b => some (cmb a b)
theorem cup_none (a : Option Cn) : cup a none = a := by cases a <;> rfl
theorem cup_idem (a : Option Cn) : cup a a = a := by cases a <;> simp [cup, cmb_idem]
theorem cup_comm (a b : Option Cn) : cup a b = cup b a := by cases a <;> cases b <;> simp [cup]; exact cmb_comm _ _
theorem cup_assoc (a b c : Option Cn) : cup (cup a b) c = cup a (cup b c) := by cases a <;> cases b <;> cases c <;> simp [cup]; exact cmb_assoc _ _ _
def ins : List Rw → Rw → List Rw
  | [], r => [r]
  | x :: l, r => if x.id < r.id then x :: ins l r else if x.id = r.id then both x r :: l else r :: x :: l
theorem add_ins : ∀ (l : List Rw) (r : Rw), add l r = ins l r
  | [], r => by simp [add, foundR, posR, ins]
  | x :: l, r => by
    have ih := add_ins l r
    rw [ins]
    by_cases h : x.id < r.id
    · rw [if_pos h, ← ih]
      unfold add
      have e : foundR (x :: l) r.id = foundR l r.id := by simp [foundR, posR, h]
      have e2 : posR (x :: l) r.id = posR l r.id + 1 := by simp [posR, h]
      rw [e, e2]
      split
      · simp
      · simp
    · rw [if_neg h]
      unfold add
      have e2 : posR (x :: l) r.id = 0 := by simp [posR, h]
      have e : foundR (x :: l) r.id = decide (x.id = r.id) := by simp [foundR, e2]
      rw [e, e2]
      by_cases h' : x.id = r.id
      · simp [h']
      · simp [h']
def get : List Rw → Int → Option Cn
  | [], _ => none
  | r :: l, n => if r.id = n then some r.c else get l n
theorem get_lt : ∀ {l : List Rw} {n : Int}, (∀ x ∈ l, n < x.id) → get l n = none
  | [], _, _ => rfl
  | x :: l, n, h => by
    have := h x (by simp)
    rw [get, if_neg (by omega)]
    exact get_lt fun y hy => h y (by simp [hy])
theorem ins_ids : ∀ (l : List Rw) (r : Rw), ∀ x ∈ ins l r, x.id = r.id ∨ ∃ y ∈ l, x.id = y.id
  | [], r, x, h => by simp [ins] at h; subst h; exact .inl rfl
  | y :: l, r, x, h => by
    rw [ins] at h
    split at h
    · rcases List.mem_cons.1 h with rfl | h
      · exact .inr ⟨x, by simp, rfl⟩
      · rcases ins_ids l r x h with h | ⟨z, hz, h⟩
        · exact .inl h
        · exact .inr ⟨z, by simp [hz], h⟩
    · split at h
      · rcases List.mem_cons.1 h with rfl | h
        · exact .inr ⟨y, by simp, rfl⟩
        · exact .inr ⟨x, by simp [h], rfl⟩
      · rcases List.mem_cons.1 h with rfl | h
        · exact .inl rfl
        · exact .inr ⟨x, h, rfl⟩
theorem ins_asc : ∀ {l : List Rw} (r : Rw), AscR l → AscR (ins l r)
  | [], r, _ => by simp [ins, AscR]
  | x :: l, r, h => by
    have h' := List.pairwise_cons.1 h
    rw [ins]
    split
    · rename_i hx
      refine List.pairwise_cons.2 ⟨fun y hy => ?_, ins_asc r h'.2⟩
      rcases ins_ids l r y hy with e | ⟨z, hz, e⟩
      · omega
      · have := h'.1 z hz; omega
    · split
      · exact List.pairwise_cons.2 ⟨h'.1, h'.2⟩
      · refine List.pairwise_cons.2 ⟨fun y hy => ?_, h⟩
        rcases List.mem_cons.1 hy with rfl | hy
        · omega
        · have := h'.1 y hy; omega
theorem get_ins : ∀ {l : List Rw} (r : Rw) (n : Int), AscR l → get (ins l r) n = if n = r.id then cup (get l n) (some r.c) else get l n
  | [], r, n, _ => by
    simp only [ins, get, cup]
    by_cases h : r.id = n
    · rw [if_pos h, if_pos h.symm]
    · rw [if_neg h, if_neg (fun e => h e.symm)]
  | x :: l, r, n, h => by
    have h' := List.pairwise_cons.1 h
    rw [ins]
    split
    · rename_i hx
      rw [get, get, get_ins r n h'.2]
      by_cases e : x.id = n
      · rw [if_pos e, if_pos e, if_neg (by omega)]
      · rw [if_neg e, if_neg e]
    · split
      · rename_i _ hx
        rw [get, get]
        by_cases e : n = r.id
        · have e1 : (both x r).id = n := by rw [both_eq]; simp only [Rw.of]; omega
          rw [if_pos e1, if_pos e, if_pos (by omega), cup, both_eq]; rfl
        · have e1 : (both x r).id ≠ n := by rw [both_eq]; simp only [Rw.of]; omega
          rw [if_neg e1, if_neg e, if_neg (by omega)]
      · rw [get]
        by_cases e : n = r.id
        · rw [if_pos e.symm, if_pos e, get_lt, cup]
          intro y hy
          rcases List.mem_cons.1 hy with rfl | hy
          · omega
          · have := h'.1 y hy; omega
        · rw [if_neg (fun h => e h.symm), if_neg e]
/-- Ascending rows are fixed by what stands at each number. -/
theorem get_ext : ∀ {l m : List Rw}, AscR l → AscR m → (∀ n, get l n = get m n) → l = m
  | [], [], _, _, _ => rfl
  | [], y :: m, _, _, h => by have := h y.id; simp [get] at this
  | x :: l, [], _, _, h => by have := h x.id; simp [get] at this
  | x :: l, y :: m, hl, hm, h => by
    have hl' := List.pairwise_cons.1 hl
    have hm' := List.pairwise_cons.1 hm
    have hxy : x.id = y.id := by
      rcases Int.lt_trichotomy x.id y.id with hlt | e | hlt
      · have := h x.id
        rw [get, if_pos rfl, get_lt] at this
        · cases this
        · intro z hz
          rcases List.mem_cons.1 hz with rfl | hz
          · exact hlt
          · have := hm'.1 z hz; omega
      · exact e
      · have := h y.id
        rw [get_lt, get, if_pos rfl] at this
        · cases this
        · intro z hz
          rcases List.mem_cons.1 hz with rfl | hz
          · exact hlt
          · have := hl'.1 z hz; omega
    have hc := h x.id
    rw [get, get, if_pos rfl, if_pos hxy.symm] at hc
    have e : x = y := by rw [← Rw.of_c x, ← Rw.of_c y, hxy, Option.some.inj hc]
    subst e
    rw [get_ext hl'.2 hm'.2 fun n => ?_]
    have hn := h n
    rw [get, get] at hn
    by_cases en : x.id = n
    · subst en; rw [get_lt hl'.1, get_lt hm'.1]
    · rw [if_neg en, if_neg en] at hn; exact hn
def insM (m : Int → Option Cn) (r : Rw) : Int → Option Cn := fun n => if n = r.id then cup (m n) (some r.c) else m n
theorem insM_comm (m : Int → Option Cn) (a b : Rw) : insM (insM m a) b = insM (insM m b) a := by
  funext n
  simp only [insM]
  split <;> split <;> first | rfl | (rw [cup_assoc, cup_assoc, cup_comm (some a.c)])
theorem insM_idem (m : Int → Option Cn) (a : Rw) : insM (insM m a) a = insM m a := by
  funext n
  simp only [insM]
  split
  · rw [cup_assoc, cup_idem]
  · rfl
def puts (s : List Rw) (l : List Rw) : List Rw := l.foldl ins s
theorem puts_asc : ∀ (l : List Rw) {s : List Rw}, AscR s → AscR (puts s l)
  | [], _, h => h
  | r :: l, _, h => puts_asc l (ins_asc r h)
theorem get_puts : ∀ (l : List Rw) {s : List Rw}, AscR s → get (puts s l) = l.foldl insM (get s)
  | [], _, _ => rfl
  | r :: l, s, h => by
    rw [show puts s (r :: l) = puts (ins s r) l from rfl, get_puts l (ins_asc r h)]
    rw [show get (ins s r) = insM (get s) r from funext fun n => get_ins r n h]
    rfl
/-! ### A fold that depends on what is in the list alone -/
section
variable {α β : Type} (f : β → α → β) (hc : ∀ s a b, f (f s a) b = f (f s b) a) (hi : ∀ s a, f (f s a) a = f s a)
include hc in
theorem fold_out : ∀ (l : List α) (s : β) (a : α), l.foldl f (f s a) = f (l.foldl f s) a
  | [], _, _ => rfl
  | b :: l, s, a => by rw [List.foldl_cons, List.foldl_cons, hc, fold_out l]
include hc hi in
theorem fold_in : ∀ (l : List α) (s : β) (a : α), a ∈ l → f (l.foldl f s) a = l.foldl f s
  | b :: l, s, a, h => by
    rcases List.mem_cons.1 h with rfl | h
    · rw [List.foldl_cons, fold_out f hc, hi]
    · rw [List.foldl_cons]; exact fold_in l _ a h
include hc hi in
theorem fold_sub : ∀ (m l : List α) (s : β), (∀ a ∈ m, a ∈ l) → m.foldl f (l.foldl f s) = l.foldl f s
  | [], _, _, _ => rfl
  | a :: m, l, s, h => by rw [List.foldl_cons, fold_in f hc hi l s a (h a (by simp))]; exact fold_sub m l s fun b hb => h b (by simp [hb])
include hc in
theorem fold_swap : ∀ (m l : List α) (s : β), m.foldl f (l.foldl f s) = l.foldl f (m.foldl f s)
  | [], _, _ => rfl
  | a :: m, l, s => by rw [List.foldl_cons, List.foldl_cons, ← fold_out f hc, fold_swap m l]
include hc hi in
theorem fold_set (l m : List α) (s : β) (h : ∀ a, a ∈ l ↔ a ∈ m) : l.foldl f s = m.foldl f s := by
  rw [← fold_sub f hc hi m l s fun a ha => (h a).2 ha, fold_swap f hc, fold_sub f hc hi l m s fun a ha => (h a).1 ha]
end
theorem puts_set {s l m : List Rw} (hs : AscR s) (h : ∀ a, a ∈ l ↔ a ∈ m) : puts s l = puts s m :=
  get_ext (puts_asc l hs) (puts_asc m hs) fun n => by rw [get_puts l hs, get_puts m hs, fold_set insM insM_comm insM_idem l m _ h]
/-! ### Joins -/
def cupM (a b : Int → Option Cn) : Int → Option Cn := fun n => cup (a n) (b n)
theorem cupM_insM (a b : Int → Option Cn) (r : Rw) : cupM a (insM b r) = insM (cupM a b) r := by
  funext n; simp only [cupM, insM]; split
  · rw [cup_assoc]
  · rfl
theorem cupM_fold : ∀ (l : List Rw) (a b : Int → Option Cn), cupM a (l.foldl insM b) = l.foldl insM (cupM a b)
  | [], _, _ => rfl
  | r :: l, a, b => by rw [List.foldl_cons, List.foldl_cons, cupM_fold l, cupM_insM]
theorem cupM_none (a : Int → Option Cn) : cupM a (fun _ => none) = a := funext fun n => cup_none _
theorem puts_self : ∀ {l : List Rw}, AscR l → get l = l.foldl insM fun _ => none := fun {l} h => by
  have : ∀ (l s : List Rw), AscR (s ++ l) → puts s l = s ++ l := by
    intro l
    induction l with
    | nil => intro s _; simp [puts]
    | cons r l ih =>
      intro s h
      have e : ins s r = s ++ [r] := by
        have h1 : ∀ x ∈ s, x.id < r.id := fun x hx => (List.pairwise_append.1 h).2.2 x hx r (by simp)
        clear h ih
        induction s with
        | nil => rfl
        | cons x s ih =>
          rw [ins, if_pos (h1 x (by simp)), ih fun y hy => h1 y (by simp [hy])]; rfl
      rw [show puts s (r :: l) = puts (ins s r) l from rfl, e, ih (s ++ [r]) (by simpa using h)]; simp
  have e := this l [] (by simpa using h)
  have g := get_puts l (s := []) (by simp [AscR])
  rw [e] at g
  exact g
/-- What stands in a join. -/
theorem get_join {a b : List Rw} (ha : AscR a) (hb : AscR b) : get (puts a b) = cupM (get a) (get b) := by
  rw [get_puts b ha, puts_self hb, cupM_fold, cupM_none]
theorem join_comm {a b : List Rw} (ha : AscR a) (hb : AscR b) : puts a b = puts b a :=
  get_ext (puts_asc b ha) (puts_asc a hb) fun n => by rw [get_join ha hb, get_join hb ha]; exact cup_comm _ _
theorem join_assoc {a b c : List Rw} (ha : AscR a) (hb : AscR b) (hc : AscR c) : puts (puts a b) c = puts a (puts b c) :=
  get_ext (puts_asc c (puts_asc b ha)) (puts_asc _ ha) fun n => by rw [get_join (puts_asc b ha) hc, get_join ha (puts_asc c hb), get_join ha hb, get_join hb hc]; exact cup_assoc _ _ _
theorem join_idem {a : List Rw} (ha : AscR a) : puts a a = a :=
  get_ext (puts_asc a ha) ha fun n => by rw [get_join ha ha]; exact cup_idem _
theorem puts_app (x y : List Rw) : puts (puts [] x) (puts [] y) = puts [] (x ++ y) := by
  have n0 : AscR ([] : List Rw) := by simp [AscR]
  refine get_ext (puts_asc _ (puts_asc _ n0)) (puts_asc _ n0) fun n => ?_
  rw [get_join (puts_asc x n0) (puts_asc y n0), get_puts (x ++ y) n0, get_puts x n0, get_puts y n0, List.foldl_append, cupM_fold]
  rw [show get [] = fun _ => none from rfl, cupM_none]
theorem ins_len : ∀ (l : List Rw) (r : Rw), (ins l r).length ≤ l.length + 1
  | [], r => by simp [ins]
  | x :: l, r => by
    rw [ins]; split
    · have := ins_len l r; simp only [List.length_cons]; omega
    · split <;> simp
theorem puts_len : ∀ (l s : List Rw), (puts s l).length ≤ s.length + l.length
  | [], s => by simp [puts]
  | r :: l, s => by
    have := puts_len l (ins s r); have := ins_len s r
    rw [show puts s (r :: l) = puts (ins s r) l from rfl, List.length_cons]; omega
theorem ins_mem : ∀ (l : List Rw) (r : Rw), ∀ x ∈ ins l r, x = r ∨ x ∈ l ∨ ∃ y ∈ l, y.id = r.id ∧ x = both y r
  | [], r, x, h => by simp [ins] at h; exact .inl h
  | y :: l, r, x, h => by
    rw [ins] at h
    split at h
    · rcases List.mem_cons.1 h with rfl | h
      · exact .inr (.inl (by simp))
      · rcases ins_mem l r x h with h | h | ⟨z, hz, h⟩
        · exact .inl h
        · exact .inr (.inl (by simp [h]))
        · exact .inr (.inr ⟨z, by simp [hz], h⟩)
    · split at h
      · rcases List.mem_cons.1 h with rfl | h
        · exact .inr (.inr ⟨y, by simp, by assumption, rfl⟩)
        · exact .inr (.inl (by simp [h]))
      · rcases List.mem_cons.1 h with rfl | h
        · exact .inl rfl
        · exact .inr (.inl h)
end Kx
