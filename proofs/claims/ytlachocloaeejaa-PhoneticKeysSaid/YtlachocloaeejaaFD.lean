/-
  Texts and lists of texts, for the contracts of this proof.
  It is so for every program and every memory of the model.
-/
import Derived.Test.YtlachocloaeejaaFC
import Derived.Shelf.Strings.FieldsFuncGrows
import Derived.Lib.TrimUEq
set_option linter.unusedSimpArgs false
set_option linter.unusedVariables false
/-
  Texts for the contracts: lists of texts, bytes; the parts of a text between spaces.
-/
namespace Sx
open Go
abbrev u8 (n : Int) : D := .int .u8 n
abbrev Str := List UInt8
def strs (l : List Str) : D := .tab 1 l.length fun i => [.str (l.getD i [])]
def strsO (e : Nat) (l : List Str) : D := .ftab e 1 l.length fun i => [.str (l.getD i [])]
/-! ### A thing held against itself -/
theorem Br.same {α : Type} {x : α} [Decidable (x = x)] {A B : Prop} (k : Step B) : Br ((!decide (x = x)) = true) A ((!decide (x = x)) = false) B := ⟨fun h => by simp at h, fun _ => k.out⟩
theorem Br.sameT {α : Type} {x : α} [Decidable (x = x)] {A B : Prop} (k : Step A) : Br (decide (x = x) = true) A (decide (x = x) = false) B := ⟨fun _ => k.out, fun h => by simp at h⟩
theorem Br.samb {x : Bool} {A B : Prop} (k : Step B) : Br ((!(x == x)) = true) A ((!(x == x)) = false) B := ⟨fun h => by simp at h, fun _ => k.out⟩
/-! ### Lists that grow, or are written -/
def sameD : D → D → Bool
  | .int k _, .int k' _ => decide (k = k')
  | .str _, .str _ => true
  | .bool _, .bool _ => true
  | _, _ => false
def sameL : List D → List D → Bool
  | [], [] => true
  | d :: l, e :: m => sameD d e && sameL l m
  | _, _ => false
theorem ite_same {c : Prop} [Decidable c] : ∀ {d e : D}, sameD d e = true → D.ite c d e = if c then d else e := by
  intro d e h
  unfold sameD at h
  split at h
  · rename_i k x k' y
    have h : k = k' := by simpa using h
    subst h
    simp only [D.ite, D.ite1, decide_true]
    split <;> rfl
  · simp only [D.ite, D.ite1]; split <;> rfl
  · simp only [D.ite, D.ite1]; split <;> rfl
  · cases h
theorem sameL_len : ∀ {l m : List D}, sameL l m = true → l.length = m.length
  | [], [], _ => rfl
  | _ :: l, _ :: m, h => by simp only [sameL, Bool.and_eq_true] at h; simp [sameL_len h.2]
  | [], _ :: _, h => by simp [sameL] at h
  | _ :: _, [], h => by simp [sameL] at h
theorem iteL_same {c : Prop} [Decidable c] {l m : List D} (h : sameL l m = true) : iteL c l m = if c then l else m := by
  unfold iteL
  rw [sameL_len h, Nat.beq_refl]
  simp only
  have key : ∀ {l m : List D}, sameL l m = true → zipI (D.ite c) l m = if c then l else m := by
    intro l
    induction l with
    | nil => intro m h; cases m with
      | nil => split <;> rfl
      | cons => simp [sameL] at h
    | cons d l ih => intro m h; cases m with
      | nil => simp [sameL] at h
      | cons e m =>
        simp only [sameL, Bool.and_eq_true] at h
        simp only [zipI, ite_same h.1, ih h.2]
        split <;> rfl
  exact key h
theorem getD_app {α : Type} (a b : List α) (j : Nat) (z : α) : (a ++ b).getD j z = if j < a.length then a.getD j z else b.getD (j - a.length) z := by
  simp only [List.getD_eq_getElem?_getD, List.getElem?_append]
  split <;> rfl
/-- One element more. -/
theorem app_one {α : Type} (F : α → List D) (z : α) (hF : ∀ x y, sameL (F x) (F y) = true) (l : List α) (x : α) {m : List D} (hm : m = F x) :
    l.length + 1 = (l ++ [x]).length ∧ ∀ i, i < (l ++ [x]).length → iteL (i < l.length) (F (l.getD i z)) (selC [m] (i - l.length)) = F ((l ++ [x]).getD i z) := by
  refine ⟨by simp, fun i hi => ?_⟩
  subst hm
  simp only [selC]
  rw [iteL_same (hF _ _)]
  simp only [List.length_append, List.length_cons, List.length_nil] at hi
  by_cases h : i < l.length
  · rw [if_pos h]; simp [List.getD, List.getElem?_append, h]
  · rw [if_neg h, show i = l.length by omega]; simp [List.getD]
/-- Another list behind a list. -/
theorem app_all {α : Type} (F : α → List D) (z : α) (hF : ∀ x y, sameL (F x) (F y) = true) (l m : List α) :
    l.length + m.length = (l ++ m).length ∧ ∀ i, i < (l ++ m).length → iteL (i < l.length) (F (l.getD i z)) (F (m.getD (i - l.length) z)) = F ((l ++ m).getD i z) := by
  refine ⟨by simp, fun i hi => ?_⟩
  rw [iteL_same (hF _ _)]
  by_cases h : i < l.length
  · rw [if_pos h]; simp [List.getD, List.getElem?_append, h]
  · rw [if_neg h]; simp [List.getD, List.getElem?_append, h]
/-- An element written. -/
theorem set_one {α : Type} (F : α → List D) (z : α) (hF : ∀ x y, sameL (F x) (F y) = true) (l : List α) (k : Nat) (x : α) {m : List D} (hm : m = F x) :
    l.length = (l.set k x).length ∧ ∀ i, i < (l.set k x).length → iteL (i = k) m (F (l.getD i z)) = F ((l.set k x).getD i z) := by
  refine ⟨by simp, fun i hi => ?_⟩
  subst hm
  rw [iteL_same (hF _ _)]
  simp only [List.length_set] at hi
  by_cases h : i = k
  · subst h; rw [if_pos rfl]; simp [List.getD, hi]
  · rw [if_neg h]; simp [List.getD, List.getElem?_set, Ne.symm h]
theorem byte_app (a : Str) (x : UInt8) {m : List D} (hm : m = [.int .u8 x.toNat]) : a.length + 1 = (a ++ [x]).length ∧ ∀ i, i < (a ++ [x]).length → iteL (i < a.length) (bytesF a i) (selC [m] (i - a.length)) = bytesF (a ++ [x]) i :=
  app_one (fun x : UInt8 => [.int .u8 x.toNat]) 0 (fun _ _ => rfl) a x hm
theorem bytes_app (a b : Str) : a.length + b.length = (a ++ b).length ∧ ∀ i, i < (a ++ b).length → iteL (i < a.length) (bytesF a i) (bytesF b (i - a.length)) = bytesF (a ++ b) i :=
  app_all (fun x : UInt8 => [.int .u8 x.toNat]) 0 (fun _ _ => rfl) a b
theorem str_app (a : List Str) (x : Str) {m : List D} (hm : m = [.str x]) : a.length + 1 = (a ++ [x]).length ∧ ∀ i, i < (a ++ [x]).length → iteL (i < a.length) [.str (a.getD i [])] (selC [m] (i - a.length)) = [.str ((a ++ [x]).getD i [])] :=
  app_one (fun x : Str => [.str x]) [] (fun _ _ => rfl) a x hm
/-- A list written out. -/
theorem selC_get {α : Type} (F : α → List D) (z : α) (hF : ∀ x y, sameL (F x) (F y) = true) : ∀ (l : List α) (i : Nat), i < l.length → selC (l.map F) i = F (l.getD i z)
  | [], i, h => absurd h (Nat.not_lt_zero i)
  | [x], 0, _ => rfl
  | [x], i + 1, h => by simp at h
  | x :: y :: l, i, h => by
    show iteL (i = 0) (F x) (selC ((y :: l).map F) (i - 1)) = _
    cases i with
    | zero =>
      rw [selC_get F z hF (y :: l) 0 (by simp), iteL_same (hF _ _), if_pos rfl]; rfl
    | succ i =>
      rw [Nat.add_sub_cancel, selC_get F z hF (y :: l) i (by simpa using h), iteL_same (hF _ _), if_neg (Nat.succ_ne_zero i)]; rfl
theorem selC_str (l : List Str) (i : Nat) (h : i < l.length) : selC (l.map fun s => [D.str s]) i = [.str (l.getD i [])] := selC_get (fun s : Str => [.str s]) [] (fun _ _ => rfl) l i h
/-- A literal of texts, handed over. -/
theorem Ct.lit1 {P : Program} {g : FuncId} {R : D → List D → Prop} (l : List Str) (H : Ct P g [strs l] R) : Ct P g [.tab 1 l.length fun i => selC (l.map fun s => [D.str s]) i] R :=
  H.arg ⟨rfl, ⟨rfl, fun i hi => selC_str l i hi⟩, trivial⟩
theorem Ct.lit2 {P : Program} {g : FuncId} {R : D → List D → Prop} {b : D} (l : List Str) (hb : ioEq [b] [b] = true ∧ wkD b b false) (H : Ct P g [b, strs l] R) : Ct P g [b, .tab 1 l.length fun i => selC (l.map fun s => [D.str s]) i] R :=
  H.arg ⟨by have := hb.1; cases b <;> first | rfl | exact this, hb.2, ⟨rfl, fun i hi => selC_str l i hi⟩, trivial⟩
/-! ### Lists looked through -/
theorem drop_step {α : Type} (l : List α) (z : α) (i : Nat) (h : i < l.length) : l.drop i = l.getD i z :: l.drop (i + 1) := by
  rw [List.drop_eq_getElem_cons h, List.getD_eq_getElem?_getD, List.getElem?_eq_getElem h]; rfl
theorem all_step {α : Type} (p : α → Bool) (l : List α) (z : α) (i : Nat) (h : i < l.length) : (l.drop i).all p = (p (l.getD i z) && (l.drop (i + 1)).all p) := by
  rw [drop_step l z i h, List.all_cons]
theorem any_step {α : Type} (p : α → Bool) (l : List α) (z : α) (i : Nat) (h : i < l.length) : (l.drop i).any p = (p (l.getD i z) || (l.drop (i + 1)).any p) := by
  rw [drop_step l z i h, List.any_cons]
theorem take_step {α : Type} (l : List α) (z : α) (i : Nat) (h : i < l.length) : l.take (i + 1) = l.take i ++ [l.getD i z] := by
  rw [List.take_add_one, List.getElem?_eq_getElem h, List.getD_eq_getElem?_getD, List.getElem?_eq_getElem h]; rfl
theorem filter_step {α : Type} (p : α → Bool) (l : List α) (z : α) (i : Nat) (h : i < l.length) : (l.take (i + 1)).filter p = (l.take i).filter p ++ if p (l.getD i z) then [l.getD i z] else [] := by
  rw [take_step l z i h, List.filter_append, List.filter_cons, List.filter_nil]
theorem map_step {α β : Type} (f : α → β) (l : List α) (z : α) (i : Nat) (h : i < l.length) : (l.take (i + 1)).map f = (l.take i).map f ++ [f (l.getD i z)] := by
  rw [take_step l z i h, List.map_append, List.map_cons, List.map_nil]
theorem foldl_step {α β : Type} (f : β → α → β) (b : β) (l : List α) (z : α) (i : Nat) (h : i < l.length) : (l.take (i + 1)).foldl f b = f ((l.take i).foldl f b) (l.getD i z) := by
  rw [take_step l z i h, List.foldl_append, List.foldl_cons, List.foldl_nil]
theorem getD_in {α : Type} {l : List α} {i : Nat} {z : α} (h : i < l.length) : l.getD i z ∈ l := by
  rw [List.getD_eq_getElem?_getD, List.getElem?_eq_getElem h]; exact List.getElem_mem h
theorem cut_step {α : Type} (l : List α) (z : α) (i : Nat) (h : i < l.length) : (l.take (i + 1)).drop i = [l.getD i z] := by
  rw [take_step l z i h, List.drop_append_of_le_length (by simp; omega), List.drop_of_length_le (by simp; omega)]; rfl
/-! ### The parts of a text between spaces -/
def toksF : Str → Str → List Str
  | part, [] => if part = [] then [] else [part]
  | part, x :: l => if x = 32 then (if part = [] then toksF [] l else part :: toksF [] l) else toksF (part ++ [x]) l
def toks (s : Str) : List Str := toksF [] s
theorem toksF_skip : ∀ (a b part : Str), (∀ x ∈ a, x ≠ 32) → toksF part (a ++ b) = toksF (part ++ a) b
  | [], b, part, _ => by simp
  | x :: a, b, part, h => by
    have hx := h x (by simp)
    rw [List.cons_append, toksF, if_neg hx, toksF_skip a b (part ++ [x]) (fun y hy => h y (by simp [hy]))]
    simp
theorem getD_data (s : ByteArray) (pos : Nat) (h : pos < s.data.toList.length) : s.data.toList.getD pos 0 = s.data.toList[pos] := by
  rw [List.getD_eq_getElem?_getD, List.getElem?_eq_getElem h]; rfl
/-- The bytes of what is decoded, behind the first. -/
theorem rune_rest (n b0 b1 b2 b3 : Nat) :
    (1 < (Lib.decodeN n b0 b1 b2 b3).2 → b1 / 64 = 2) ∧ (2 < (Lib.decodeN n b0 b1 b2 b3).2 → b2 / 64 = 2) ∧ (3 < (Lib.decodeN n b0 b1 b2 b3).2 → b3 / 64 = 2) ∧ (Lib.decodeN n b0 b1 b2 b3).2 < 5 := by
  unfold Lib.decodeN
  (repeat' split) <;> refine ⟨?_, ?_, ?_, ?_⟩ <;> simp only <;> omega
/-- What is decoded at a place: a space just where the byte is one. -/
theorem decode_space (s : ByteArray) (pos : Nat) (h : pos < s.size) :
    (s.data.toList.getD pos 0 = 32 ∧ Utf8.decode s pos = (32, 1)) ∨
    ((Utf8.decode s pos).1 ≠ 32 ∧ 1 ≤ (Utf8.decode s pos).2 ∧ pos + (Utf8.decode s pos).2 ≤ s.size ∧ ∀ j, j < (Utf8.decode s pos).2 → s.data.toList.getD (pos + j) 0 ≠ 32) := by
  have hsz : s.data.toList.length = s.size := rfl
  have hd : Utf8.decode s pos = Lib.decodeN (s.data.toList.length - pos) (s.data.toList.getD pos 0).toNat (s.data.toList.getD (pos + 1) 0).toNat (s.data.toList.getD (pos + 2) 0).toNat (s.data.toList.getD (pos + 3) 0).toNat := Lib.decode_N s pos
  have hw := Lib.decodeN_ge1 (s.data.toList.length - pos) (s.data.toList.getD pos 0).toNat (s.data.toList.getD (pos + 1) 0).toNat (s.data.toList.getD (pos + 2) 0).toNat (s.data.toList.getD (pos + 3) 0).toNat
  have hl := Lib.decodeN_le_n' (s.data.toList.length - pos) (s.data.toList.getD pos 0).toNat (s.data.toList.getD (pos + 1) 0).toNat (s.data.toList.getD (pos + 2) 0).toNat (s.data.toList.getD (pos + 3) 0).toNat (by omega)
  obtain ⟨c1, c2, c3, c4⟩ := rune_rest (s.data.toList.length - pos) (s.data.toList.getD pos 0).toNat (s.data.toList.getD (pos + 1) 0).toNat (s.data.toList.getD (pos + 2) 0).toNat (s.data.toList.getD (pos + 3) 0).toNat
  have key : ∀ b : UInt8, b.toNat / 64 = 2 → b ≠ 32 := fun b hb e => by subst e; revert hb; decide
  have asc : ∀ n b0 b1 b2 b3, 128 ≤ b0 → (Lib.decodeN n b0 b1 b2 b3).1 ≠ 32 := fun n b0 b1 b2 b3 h0 => by
    unfold Lib.decodeN
    repeat' split
    all_goals (simp only; omega)
  rw [← hd] at hw hl c1 c2 c3 c4
  by_cases hb : s.data.toList.getD pos 0 = 32
  · refine .inl ⟨hb, ?_⟩
    rw [hd, hb, Lib.decodeN_ascii _ _ _ _ _ (by decide)]; rfl
  · right
    refine ⟨?_, hw, by omega, fun j hj => ?_⟩
    · rcases Nat.lt_or_ge (s.data.toList.getD pos 0).toNat 128 with h1 | h1
      · rw [hd, Lib.decodeN_ascii _ _ _ _ _ h1]
        intro e
        exact hb (UInt8.toNat_inj.1 (by simpa using e))
      · rw [hd]; exact asc _ _ _ _ _ h1
    · match j with
      | 0 => simpa using hb
      | 1 => exact key _ (c1 (by omega))
      | 2 => exact key _ (c2 (by omega))
      | 3 => exact key _ (c3 (by omega))
      | j + 4 => omega
theorem extract_list (s : ByteArray) (a b : Nat) : (s.extract a b).data.toList = (s.data.toList.take b).drop a := by
  rw [ByteArray.data_extract, Array.toList_extract]
  simp [List.extract, List.drop_take]
theorem spans_toks (s : ByteArray) : ∀ (f pos : Nat) (st : Option Nat) (acc : List (Nat × Nat)), s.size ≤ pos + f → pos ≤ s.size → (∀ a, st = some a → a < pos) →
    (Lib.closeSpans s (Lib.spansFromP (fun x => decide (x = 32)) s f pos st acc)).map (fun x => (s.extract x.1 x.2).data.toList) =
      acc.map (fun x => (s.extract x.1 x.2).data.toList) ++ toksF (match st with | none => [] | some a => (s.data.toList.take pos).drop a) (s.data.toList.drop pos) := by
  have hsz : s.data.toList.length = s.size := rfl
  have ending : ∀ (pos : Nat) (st : Option Nat) (acc : List (Nat × Nat)), pos = s.size → (∀ a, st = some a → a < pos) →
      (Lib.closeSpans s (acc, st)).map (fun x => (s.extract x.1 x.2).data.toList) =
      acc.map (fun x => (s.extract x.1 x.2).data.toList) ++ toksF (match st with | none => [] | some a => (s.data.toList.take pos).drop a) (s.data.toList.drop pos) := fun pos st acc hp hst => by
    subst hp
    rw [List.drop_of_length_le (Nat.le_of_eq hsz)]
    cases st with
    | none => simp [Lib.closeSpans, toksF]
    | some a =>
      have ha := hst a rfl
      have hne : (s.data.toList.take s.size).drop a ≠ [] := by
        intro h0
        have := congrArg List.length h0
        rw [List.length_drop, List.length_take, hsz] at this
        simp at this; omega
      simp only [Lib.closeSpans, toksF, if_neg hne, List.map_append, List.map_cons, List.map_nil, extract_list]
  intro f
  induction f with
  | zero =>
    intro pos st acc h1 h2 h3
    exact ending pos st acc (by omega) h3
  | succ f ih =>
    intro pos st acc h1 h2 h3
    by_cases hp : pos < s.size
    · simp only [Lib.spansFromP, hp, if_true]
      have hdrop : s.data.toList.drop pos = s.data.toList.getD pos 0 :: s.data.toList.drop (pos + 1) := by
        rw [List.drop_eq_getElem_cons (by rw [hsz]; exact hp), getD_data _ _ (by rw [hsz]; exact hp)]
      rcases decode_space s pos hp with ⟨hb, hd⟩ | ⟨hr, hk1, hk2, hall⟩
      · rw [hd]
        simp only [decide_true, if_true]
        rw [hdrop, hb]
        cases st with
        | none =>
          simp only
          rw [ih (pos + 1) none acc (by omega) (by omega) nofun]
          simp [toksF]
        | some a =>
          simp only
          have ha := h3 a rfl
          rw [ih (pos + 1) none _ (by omega) (by omega) nofun]
          have hne : (s.data.toList.take pos).drop a ≠ [] := by
            intro h0
            have := congrArg List.length h0
            rw [List.length_drop, List.length_take, hsz] at this
            simp at this; omega
          have he : ((s.extract a pos).data.toList) = (s.data.toList.take pos).drop a := extract_list s a pos
          simp only [List.map_append, List.map_cons, List.map_nil, he, toksF, if_pos, if_neg hne, List.append_assoc, List.cons_append, List.nil_append]
      · simp only [decide_eq_true_eq, hr, if_false]
        obtain ⟨K, hK⟩ : ∃ K, (Utf8.decode s pos).2 = K := ⟨_, rfl⟩
        rw [hK] at hk1 hk2 hall
        rw [hK]
        have hsplit : s.data.toList.drop pos = (s.data.toList.drop pos).take K ++ s.data.toList.drop (pos + K) := by
          rw [← List.drop_drop]; exact (List.take_append_drop K _).symm
        have hno : ∀ x ∈ (s.data.toList.drop pos).take K, x ≠ 32 := fun x hx => by
          obtain ⟨j, hj, rfl⟩ := List.mem_iff_getElem.1 hx
          have hjk : j < K := by simp at hj; omega
          have := hall j hjk
          rw [getD_data _ _ (by simp at hj; rw [hsz]; omega)] at this
          simpa using this
        have hcat : ∀ a, a ≤ pos → (s.data.toList.take pos).drop a ++ (s.data.toList.drop pos).take K = (s.data.toList.take (pos + K)).drop a := fun a ha => by
          rw [List.take_add, List.drop_append_of_le_length (by rw [List.length_take, hsz]; omega)]
        cases st with
        | none =>
          simp only
          rw [ih (pos + K) (some pos) acc (by omega) (by omega) (fun a ha => by cases ha; omega)]
          rw [hsplit, toksF_skip _ _ _ hno]
          simp only [List.nil_append]
          congr 2
          have := hcat pos (Nat.le_refl _)
          rw [← this, List.drop_of_length_le (by rw [List.length_take, hsz]; omega), List.nil_append]
        | some a =>
          simp only
          have ha := h3 a rfl
          rw [ih (pos + K) (some a) acc (by omega) (by omega) (fun b hb => by cases hb; omega)]
          rw [hsplit, toksF_skip _ _ _ hno, hcat a (by omega)]
    · rw [Lib.spansFromP_end _ _ _ _ _ _ hp]
      exact ending pos st acc (by omega) h3
theorem fields_toks (s : Str) : (Lib.goFieldsP (fun x => decide (x = 32)) ⟨s.toArray⟩).map (fun b => b.data.toList) = toks s := by
  unfold Lib.goFieldsP Lib.spansOfP
  rw [List.map_map]
  have := spans_toks ⟨s.toArray⟩ (⟨s.toArray⟩ : ByteArray).size 0 none [] (by omega) (Nat.zero_le _) nofun
  simpa [toks, Function.comp_def] using this
/-! ### strings.FieldsFunc with 'is a space' -/
theorem FnOK.enter {P : Program} {g : FuncId} (h : FnOK P g) (args : Array Value) (w : World) : (callFunc g args).run P w = .ok (.enter g args) w := by
  obtain ⟨fn, hfn, hbody, hname⟩ := h.ex
  have hname' : fn.name ≠ "runtime.NumGoroutine" := by simpa using hname
  have hbody' : fn.body ≠ none := by intro h0; rw [h0] at hbody; cases hbody
  simp [callFunc, hfn, hbody', hname']
theorem Ct.pred {P : Program} {g : FuncId} {p : Nat → Bool} (h : ∀ x : Nat, x ≤ 1114111 → Ct P g [.int .i32 x] fun r outs => r = .bool (p x) ∧ outs = []) (w : World) : Go.Proofs.PredGrows P g #[] p w := by
  intro W x hx _
  refine ((h x hx).ok W (fun _ => False) #[.int .i32 x] [] (fun _ h => h.elim) ?_ List.nodup_nil nofun).mono ?_
  · simp [OdT, Od, Rd]
  · rintro e w' ⟨v, r, outs, S', F', rfl, ⟨rfl, rfl⟩, hB, hod⟩
    simp only [OdT, Od, Rd] at hod
    obtain ⟨F1, F2, _, ⟨rfl, _⟩, _⟩ := hod
    exact ⟨rfl, hB.os, hB.tape, hB.output, hB.size, fun k hk => hB.old k hk nofun⟩
theorem fields_ct {P : Program} {f g : FuncId} {e : Nat} (hfn : FnOK P f) (s : Str) (hp : ∀ x : Nat, x ≤ 1114111 → Ct P g [.int .i32 x] fun r outs => r = .bool (decide (x = 32)) ∧ outs = [])
    (hc : ∀ (p : Nat → Bool) (s : ByteArray) (w : World), (∀ args w, (callFunc g args).run P w = .ok (.enter g args) w) → s.size ≤ 4294967296 → Go.Proofs.PredGrows P g #[] p w →
      Calls P f #[.string s, .func (.func g) #[] #[]] w fun e' w' => ∃ A, e' = .returned (.slice (some ⟨A, 0, none⟩) (Lib.goFieldsP p s).length (Lib.goFieldsP p s).length) ∧ w.heap.size ≤ A ∧
        w'.ownsRow w.heap.size e 1 (.slice (some ⟨A, 0, none⟩) (Lib.goFieldsP p s).length (Lib.goFieldsP p s).length) (Lib.goFieldsP p s).length ((Lib.goFieldsP p s).map Value.string) ∧ RowKit.Below w.heap.size w w')
    (hs : s.length ≤ 4294967296) : Ct P f [.str s, .fn g []] fun r outs => r = strsO e (toks s) ∧ outs = [] := by
  refine ⟨hfn, fun w S0 vs F hS hod hnd hFS => ?_⟩
  have hl := hod.length
  obtain ⟨va, vb, hvs⟩ : ∃ va vb, vs = #[va, vb] := by
    match vs, hl with
    | ⟨[a, b]⟩, _ => exact ⟨a, b, rfl⟩
  subst hvs
  simp only [OdT, OdL, Od, Rd] at hod
  obtain ⟨F1, F2, rfl, ⟨rfl, rfl⟩, F3, F4, rfl, ⟨cs, rfl, hcs⟩, rfl⟩ := hod
  obtain rfl : cs = #[] := by
    match cs, hcs with
    | ⟨[]⟩, _ => rfl
    | ⟨_ :: _⟩, h => simp [OdL] at h
  simp only [OdL] at hcs
  subst hcs
  refine (hc (fun x => decide (x = 32)) ⟨s.toArray⟩ w (fun args w => (hp 0 (by omega)).fn.enter args w) (by simpa [ByteArray.size] using hs) (Ct.pred hp w)).mono ?_
  rintro e' w' ⟨A, rfl, hA, hown, hb⟩
  have hft := fields_toks s
  generalize hL : Lib.goFieldsP (fun x => decide (x = 32)) ⟨s.toArray⟩ = L at *
  have hlen : (toks s).length = L.length := by rw [← hft, List.length_map]
  refine ⟨_, _, _, S0, [A], rfl, ⟨rfl, rfl⟩, ⟨hb.os, hb.tape, hb.output, hb.size, fun b h1 _ => hb.block b h1, fun b h => h, fun b h => .inl h, by simp, ?_, ?_⟩, ?_⟩
  · intro b hb1 hb2
    simp only [List.mem_singleton] at hb1
    subst hb1
    exact absurd (hS b hb2) (by omega)
  · intro b hb1
    simp only [List.mem_singleton] at hb1
    subst hb1
    exact .inr hA
  · simp only [OdT, strsO, Od, ioV]
    refine ⟨[A], [], by simp, ⟨⟨L.map Value.string, ?_, fun i hi => ?_, fun u hu => ?_⟩, by simp [Value.ownBlock]⟩, rfl⟩
    · rw [hlen]; exact OwnsH.of_row hown
    · rw [Nat.mul_one, List.drop_eq_getElem_cons (by simp; omega)]
      have hi' : i < L.length := by omega
      simp only [List.take_succ_cons, List.take_zero, RdL, Rd, and_true]
      rw [← hft]
      simp [Value.oneCell', List.getD, hi']
    · obtain ⟨x, _, rfl⟩ := List.mem_map.1 hu
      rfl
end Sx

