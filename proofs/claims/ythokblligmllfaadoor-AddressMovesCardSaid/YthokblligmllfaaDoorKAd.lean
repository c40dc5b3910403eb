/-
  The plain law of addresses: numbers, streets, codes.
  No condition beyond those written in each theorem.
-/
import Derived.Test.YthokblligmllfaaDoorFD
open Go Sx
set_option linter.unusedSimpArgs false
set_option linter.unusedVariables false
namespace Kx
def num : Str → Bool
  | [] => false
  | x :: _ => isDig x
def trim0 : Str → Str
  | [] => []
  | x :: l => if x = 48 then trim0 l else x :: l
def shortS (t : Str) : Str := if num (trim0 t) = true then trim0 t else 48 :: trim0 t
theorem trim0_len : ∀ t : Str, (trim0 t).length ≤ t.length
  | [] => Nat.le_refl _
  | x :: l => by
    unfold trim0
    split
    · have := trim0_len l; simp; omega
    · simp
theorem num_short (t : Str) : num (shortS t) = true := by
  unfold shortS
  split
  · assumption
  · rfl
theorem short_len (t : Str) : (shortS t).length ≤ t.length + 1 := by
  have := trim0_len t
  unfold shortS
  split
  · omega
  · simp; omega
theorem short_step {s : Str} (h : s.getD 0 0 = 48) (hl : 1 < s.length) (h2 : num (s.drop 1) = true) : shortS s = shortS (s.drop 1) := by
  match s, h with
  | x :: l, h =>
    simp only [List.getD_cons_zero] at h
    subst h
    have e : trim0 (48 :: l) = trim0 l := by rw [trim0, if_pos rfl]
    rw [shortS, e]; rfl
theorem short_fix {s : Str} (h : num s = true) (h2 : s.length ≤ 1 ∨ s.getD 0 0 ≠ 48 ∨ num (s.drop 1) = false) : shortS s = s := by
  match s with
  | [] => cases h
  | x :: l =>
    by_cases hx : x = 48
    · subst hx
      have e : trim0 (48 :: l) = trim0 l := by rw [trim0, if_pos rfl]
      have hl : num l = false := by
        rcases h2 with h2 | h2 | h2
        · match l, h2 with
          | [], _ => rfl
        · exact absurd rfl h2
        · exact h2
      have : trim0 l = l := by
        match l, hl with
        | [], _ => rfl
        | y :: u, hl =>
          have : y ≠ 48 := fun e => by subst e; exact absurd (show isDig 48 = false from hl) (by decide)
          rw [trim0, if_neg this]
      rw [shortS, e, this, if_neg (by rw [hl]; simp)]
    · have e : trim0 (x :: l) = x :: l := by rw [trim0, if_neg hx]
      rw [shortS, e, if_pos h]
theorem short_twice (t : Str) : shortS (shortS t) = shortS t := by
  refine short_fix (num_short t) ?_
  unfold shortS
  have hz : ∀ l : Str, (trim0 l).getD 0 0 ≠ 48 := fun l => by
    induction l with
    | nil => decide
    | cons x l ih =>
      unfold trim0
      split
      · exact ih
      · simpa using ‹¬x = 48›
  split
  · exact .inr (.inl (hz t))
  · exact .inr (.inr (by simpa using ‹¬num (trim0 t) = true›))
theorem trim0_chars : ∀ (t : Str) (x : UInt8), x ∈ trim0 t → x ∈ t
  | [], x, h => h
  | y :: l, x, h => by
    unfold trim0 at h
    split at h
    · exact List.mem_cons_of_mem _ (trim0_chars l x h)
    · exact h
theorem short_chars {t : Str} {x : UInt8} (h : x ∈ shortS t) : x = 48 ∨ x ∈ t := by
  unfold shortS at h
  split at h
  · exact .inr (trim0_chars t x h)
  · rcases List.mem_cons.1 h with h | h
    · exact .inl h
    · exact .inr (trim0_chars t x h)
/-! ### Lists, element by element -/
def mapTo (f : Str → Str) (l : List Str) (i : Nat) : List Str := (l.take i).map f ++ l.drop i
theorem mapTo_zero (f : Str → Str) (l : List Str) : mapTo f l 0 = l := by simp [mapTo]
theorem mapTo_end (f : Str → Str) (l : List Str) {i : Nat} (h : l.length ≤ i) : mapTo f l i = l.map f := by simp [mapTo, List.take_of_length_le h, List.drop_of_length_le h]
theorem mapTo_len (f : Str → Str) (l : List Str) (i : Nat) : (mapTo f l i).length = l.length := by simp [mapTo]; omega
theorem mapTo_get (f : Str → Str) (l : List Str) {i : Nat} (h : i < l.length) : (mapTo f l i).getD i [] = l.getD i [] := by
  unfold mapTo
  rw [getD_app, if_neg (by simp; omega)]
  simp only [List.length_map, List.length_take]
  rw [Nat.min_eq_left (by omega), Nat.sub_self, drop_step l [] i h]; rfl
theorem mapTo_step (f : Str → Str) (l : List Str) {i : Nat} (h : i < l.length) : mapTo f l (i + 1) = (mapTo f l i).set i (f (l.getD i [])) := by
  unfold mapTo
  rw [take_step l [] i h, drop_step l [] i h, List.map_append, List.set_append_right _ _ (by simp; omega)]
  simp [Nat.min_eq_left (Nat.le_of_lt h)]
theorem mapTo_same (f : Str → Str) (l : List Str) {i : Nat} (h : i < l.length) (hf : f (l.getD i []) = l.getD i []) : mapTo f l (i + 1) = mapTo f l i := by
  unfold mapTo
  rw [take_step l [] i h, drop_step l [] i h, List.map_append]
  simp only [List.map_cons, List.map_nil, hf, List.append_assoc, List.cons_append, List.nil_append]
/-! ### Addresses -/
def notNum (t : Str) : Bool := !num t
def numbers (l : List Str) : List Str := l.filter num
def others (l : List Str) : List Str := l.filter notNum
def part1 (r : Ru) (t : Str) : Str := if num t = true then shortS t else replS r.s t
def addrL (r : Ru) (l : List Str) : List Str := (others l).map (replS r.s) ++ (numbers l).map shortS
theorem num_low {s : Str} (h : ∀ x ∈ s, isLow x = true) : num s = false := by
  match s with
  | [] => rfl
  | x :: l =>
    have := h x (List.mem_cons_self)
    show isDig x = false
    exact all_u8 (p := fun x => !isLow x || !isDig x) (by decide +kernel) x |> fun e => by rw [this] at e; simpa using e
theorem num_repl {r : Ru} (hr : checkE r = 0) {t : Str} (h : num t = false) : num (replS r.s t) = false := by
  rcases replS_mem r.s t with ⟨e, _⟩ | ⟨p, hp, _, e⟩
  · rw [e]; exact h
  · rw [e]
    obtain ⟨_, h2, _⟩ := pairs_tkn (checkE_ok hr).2.2.2.1 hp
    exact num_low (letters_fix.1 (tkn_of h2).2.2)
theorem num_part {r : Ru} (hr : checkE r = 0) (t : Str) : num (part1 r t) = num t := by
  unfold part1
  by_cases h : num t = true
  · rw [if_pos h, h, num_short]
  · rw [if_neg h]
    have h' : num t = false := by simpa using h
    rw [h', num_repl hr h']
theorem numbers_map {r : Ru} (hr : checkE r = 0) : ∀ l : List Str, numbers (l.map (part1 r)) = (numbers l).map shortS
  | [] => rfl
  | t :: l => by
    have ih := numbers_map hr l
    unfold numbers at ih ⊢
    simp only [List.map_cons, List.filter_cons, num_part hr, ih]
    split
    · rw [List.map_cons, part1, if_pos ‹_›]
    · rfl
theorem others_map {r : Ru} (hr : checkE r = 0) : ∀ l : List Str, others (l.map (part1 r)) = (others l).map (replS r.s)
  | [] => rfl
  | t :: l => by
    have ih := others_map hr l
    have hn : notNum (part1 r t) = notNum t := by rw [notNum, num_part hr]; rfl
    unfold others at ih ⊢
    simp only [List.map_cons, List.filter_cons, hn, ih]
    cases h : notNum t with
    | true =>
      rw [if_pos rfl, if_pos rfl, List.map_cons, part1, if_neg (by simpa [notNum] using h)]
    | false => rfl
theorem addr_map {r : Ru} (hr : checkE r = 0) (l : List Str) : others (l.map (part1 r)) ++ numbers (l.map (part1 r)) = addrL r l := by rw [others_map hr, numbers_map hr]; rfl
theorem parts_len (l : List Str) : (others l).length + (numbers l).length = l.length := by
  induction l with
  | nil => rfl
  | cons t l ih =>
    unfold others numbers notNum at *
    simp only [List.filter_cons]
    cases num t <;> simp <;> omega
theorem addr_len (r : Ru) (l : List Str) : (addrL r l).length = l.length := by
  have := parts_len l
  simp only [addrL, List.length_append, List.length_map]; omega
def addrT (r : Ru) (s : Str) : List Str := addrL r (toks (foldO s))
def addrOK (r : Ru) (s : Str) : Bool := decide ((addrT r s).length ≤ 6) && decide ((joinS [32] (addrT r s)).length ≤ 64)
def addrE (r : Ru) (s : Str) : Int := if checkE r = 0 then if foldE s = 0 then if addrOK r s = true then 0 else 1 else foldE s else checkE r
def addrO (r : Ru) (s : Str) : Str := if addrE r s = 0 then joinS [32] (addrT r s) else []
theorem addrE_c {r : Ru} {s : Str} (h : ¬checkE r = 0) : checkE r = addrE r s ∧ [] = addrO r s := by
  have e : addrE r s = checkE r := by rw [addrE, if_neg h]
  exact ⟨e.symm, by rw [addrO, e, if_neg h]⟩
theorem addrE_f {r : Ru} {s : Str} (h1 : checkE r = 0) (h : ¬foldE s = 0) : foldE s = addrE r s ∧ [] = addrO r s := by
  have e : addrE r s = foldE s := by rw [addrE, if_pos h1, if_neg h]
  exact ⟨e.symm, by rw [addrO, e, if_neg h]⟩
theorem addrE_big {r : Ru} {s : Str} (h1 : checkE r = 0) (h2 : foldE s = 0) (h : (6 : Int) < (addrT r s).length ∨ (64 : Int) < (joinS [32] (addrT r s)).length) : 1 = addrE r s ∧ [] = addrO r s := by
  have e : addrE r s = 1 := by
    have : addrOK r s = false := by
      unfold addrOK
      rcases h with h | h
      · rw [decide_eq_false (by omega), Bool.false_and]
      · rw [decide_eq_false (show ¬(joinS [32] (addrT r s)).length ≤ 64 by omega), Bool.and_false]
    rw [addrE, if_pos h1, if_pos h2, this]; rfl
  exact ⟨e.symm, by rw [addrO, e]; rfl⟩
theorem addrE_ok {r : Ru} {s : Str} (h1 : checkE r = 0) (h2 : foldE s = 0) (h3 : ¬(6 : Int) < (addrT r s).length) (h4 : ¬(64 : Int) < (joinS [32] (addrT r s)).length) : 0 = addrE r s ∧ joinS [32] (addrT r s) = addrO r s := by
  have e : addrE r s = 0 := by
    have : addrOK r s = true := by
      unfold addrOK
      rw [decide_eq_true (by omega), decide_eq_true (show (joinS [32] (addrT r s)).length ≤ 64 by omega)]; rfl
    rw [addrE, if_pos h1, if_pos h2, this]; rfl
  exact ⟨e.symm, by rw [addrO, e]; rfl⟩
theorem addr_inv {r : Ru} {s : Str} (h : addrE r s = 0) : checkE r = 0 ∧ foldE s = 0 ∧ (addrT r s).length ≤ 6 ∧ (joinS [32] (addrT r s)).length ≤ 64 ∧ addrO r s = joinS [32] (addrT r s) := by
  have ho : addrO r s = joinS [32] (addrT r s) := by rw [addrO, if_pos h]
  unfold addrE at h
  by_cases h1 : checkE r = 0
  · rw [if_pos h1] at h
    by_cases h2 : foldE s = 0
    · rw [if_pos h2] at h
      by_cases h3 : addrOK r s = true
      · simp only [addrOK, Bool.and_eq_true, decide_eq_true_eq] at h3
        exact ⟨h1, h2, h3.1, h3.2, ho⟩
      · rw [if_neg h3] at h; cases h
    · rw [if_neg h2] at h; exact absurd h h2
  · rw [if_neg h1] at h; exact absurd h h1
theorem addrO_len (r : Ru) (s : Str) : (addrO r s).length ≤ 64 := by
  by_cases h : addrE r s = 0
  · rw [(addr_inv h).2.2.2.2]; exact (addr_inv h).2.2.2.1
  · rw [addrO, if_neg h]; simp
theorem join_bd2 (n : Nat) (l : List Str) (h : ∀ t ∈ l, t.length ≤ n) : (joinS [32] l).length ≤ (n + 1) * l.length := by
  have key : ∀ m : List Str, (∀ t ∈ m, t.length ≤ n) → (tailS [32] m).length ≤ (n + 1) * m.length := fun m => by
    induction m with
    | nil => intro _; simp [tailS]
    | cons u m ih =>
      intro hm
      have hu := hm u (by simp)
      have hi := ih fun v hv => hm v (by simp [hv])
      have e : tailS [32] (u :: m) = 32 :: (u ++ tailS [32] m) := by simp [tailS]
      rw [e]; simp only [List.length_cons, List.length_append, Nat.mul_add, Nat.mul_one]; omega
  match l with
  | [] => simp [joinS]
  | t :: l =>
    have ht := h t (by simp)
    have h2 := key l fun v hv => h v (by simp [hv])
    unfold joinS
    simp only [List.length_cons, List.length_append, Nat.mul_add, Nat.mul_one]; omega
theorem repl_len {r : Ru} (hr : checkE r = 0) (t : Str) : (replS r.s t).length ≤ 64 + t.length := by
  rcases replS_mem r.s t with ⟨e, _⟩ | ⟨p, hp, _, e⟩
  · rw [e]; omega
  · rw [e]
    obtain ⟨_, h2, _⟩ := pairs_tkn (checkE_ok hr).2.2.2.1 hp
    have := (tkn_of h2).2.1; omega
theorem addr_bd {r : Ru} (hr : checkE r = 0) {s : Str} (hs : s.length ≤ 10000) : (addrT r s).length ≤ 10001 ∧ (∀ t ∈ addrT r s, t.length ≤ 64 + s.length) ∧ (joinS [32] (addrT r s)).length ≤ 1000000000 := by
  have h2 : (toks (foldO s)).length ≤ 1 + (foldO s).length := toks_count (foldO s) []
  have h3 := foldO_le s
  have hm : ∀ t ∈ toks (foldO s), t.length ≤ s.length := fun t ht => by
    have := join_mem_len ht
    rw [(foldO_fixed s).2] at this; omega
  have hl : (addrT r s).length ≤ 10001 := by rw [addrT, addr_len]; omega
  have ha : ∀ t ∈ addrT r s, t.length ≤ 64 + s.length := fun t ht => by
    simp only [addrT, addrL, others, numbers, List.mem_append, List.mem_map, List.mem_filter] at ht
    rcases ht with ⟨u, ⟨hu, _⟩, rfl⟩ | ⟨u, ⟨hu, _⟩, rfl⟩
    · have := repl_len hr u; have := hm u hu; omega
    · have := short_len u; have := hm u hu; omega
  have h4 := join_bd2 (64 + s.length) _ ha
  refine ⟨hl, ha, Nat.le_trans h4 ?_⟩
  calc (64 + s.length + 1) * (addrT r s).length ≤ 10065 * 10001 := Nat.mul_le_mul (by omega) hl
    _ ≤ 1000000000 := by decide
def addrB (r : Ru) (s : Str) : Bool := decide (addrE r s = 0) && decide (addrO r s = s)
def numberS (s : Str) : Str := (numbers (toks s)).getD 0 []
def streetS (s : Str) : Str := joinS [32] (others (toks s))
/-! ### Codes -/
def notSp (x : UInt8) : Bool := !decide (x = 32)
def codeT (s : Str) : Str := (foldO s).filter notSp
def codeE (s : Str) : Int := if foldE s = 0 then if (codeT s).length ≤ 12 then 0 else 1 else foldE s
def codeO (s : Str) : Str := if codeE s = 0 then codeT s else []
def codeB (s : Str) : Bool := decide (codeE s = 0) && decide (codeO s = s)
theorem joinS_e : ∀ l : List Str, joinS [] l = l.flatten
  | [] => rfl
  | t :: l => by simp [joinS, tailS]
theorem opt_flat (p : Str) : (opt p).flatten = p := by
  unfold opt
  split
  · subst_vars; rfl
  · simp
theorem toksF_flat : ∀ (l p : Str), (toksF p l).flatten = p ++ l.filter notSp
  | [], p => by rw [toksF_nil, opt_flat]; simp
  | x :: l, p => by
    by_cases h : x = 32
    · subst h
      rw [toksF_sp, List.flatten_append, opt_flat, toksF_flat l []]
      simp [notSp]
    · have := toksF_skip [x] l p (fun y hy => by rw [List.mem_singleton.1 hy]; exact h)
      simp only [List.cons_append, List.nil_append] at this
      rw [this, toksF_flat l (p ++ [x])]
      simp [notSp, h]
theorem code_join (s : Str) : joinS [] (toks (foldO s)) = codeT s := by rw [joinS_e, toks, toksF_flat]; rfl
theorem code_len (s : Str) : (codeT s).length ≤ s.length := Nat.le_trans (List.length_filter_le _ _) (foldO_le s)
theorem codeE_f {s : Str} (h : ¬foldE s = 0) : foldE s = codeE s ∧ [] = codeO s := by
  have e : codeE s = foldE s := by rw [codeE, if_neg h]
  exact ⟨e.symm, by rw [codeO, e, if_neg h]⟩
theorem codeE_big {s : Str} (h : foldE s = 0) (h2 : (12 : Int) < (codeT s).length) : 1 = codeE s ∧ [] = codeO s := by
  have e : codeE s = 1 := by rw [codeE, if_pos h, if_neg (by omega)]
  exact ⟨e.symm, by rw [codeO, e]; rfl⟩
theorem codeE_ok {s : Str} (h : foldE s = 0) (h2 : ¬(12 : Int) < (codeT s).length) : 0 = codeE s ∧ codeT s = codeO s := by
  have e : codeE s = 0 := by rw [codeE, if_pos h, if_pos (by omega)]
  exact ⟨e.symm, by rw [codeO, e]; rfl⟩
theorem codeO_len (s : Str) : (codeO s).length ≤ 64 := by
  by_cases h : codeE s = 0
  · rw [codeO, if_pos h]
    unfold codeE at h
    split at h
    · split at h
      · omega
      · cases h
    · contradiction
  · rw [codeO, if_neg h]; simp
end Kx
