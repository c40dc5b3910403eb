/-
  Distances of texts: the recursion on texts read backwards, alignments, bounds.
  No condition beyond those written in each theorem.
-/

namespace Kx
abbrev St8 := List UInt8
/-- The distance of two texts that are read backwards; with so many steps. -/
def dsF : Nat → St8 → St8 → Nat
  | 0, _, _ => 0
  | _ + 1, [], b => b.length
  | _ + 1, _ :: a, [] => a.length + 1
  | n + 1, x :: a, y :: b =>
    let m := min (dsF n a b + if x = y then 0 else 1) (min (dsF n a (y :: b) + 1) (dsF n (x :: a) b + 1))
    match a, b with
    | x' :: a', y' :: b' => if x = y' ∧ x' = y then min m (dsF n a' b' + 1) else m
    | _, _ => m
theorem dsF_nil (n : Nat) (b : St8) : dsF (n + 1) [] b = b.length := by simp [dsF]
theorem dsF_more : ∀ (n m : Nat) (a b : St8), a.length + b.length < n → a.length + b.length < m → dsF n a b = dsF m a b
  | 0, _, _, _, h, _ => by omega
  | _ + 1, 0, _, _, _, h => by omega
  | n + 1, m + 1, [], b, _, _ => by simp [dsF]
  | n + 1, m + 1, x :: a, [], _, _ => by simp [dsF]
  | n + 1, m + 1, x :: a, y :: b, h1, h2 => by
    simp only [List.length_cons] at h1 h2
    have e1 := dsF_more n m a b (by omega) (by omega)
    have e2 := dsF_more n m a (y :: b) (by simp; omega) (by simp; omega)
    have e3 := dsF_more n m (x :: a) b (by simp; omega) (by simp; omega)
    unfold dsF
    rw [e1, e2, e3]
    cases a with
    | nil => rfl
    | cons x' a' =>
      cases b with
      | nil => rfl
      | cons y' b' =>
        simp only [List.length_cons] at h1 h2
        dsimp only
        rw [dsF_more n m a' b' (by omega) (by omega)]
def ds (a b : St8) : Nat := dsF (a.length + b.length + 1) a b
theorem ds_nil (b : St8) : ds [] b = b.length := by simp [ds, dsF]
theorem ds_nil' (a : St8) : ds a [] = a.length := by cases a <;> simp [ds, dsF]
def dsM (x y : UInt8) (a b : St8) : Nat := min (ds a b + if x = y then 0 else 1) (min (ds a (y :: b) + 1) (ds (x :: a) b + 1))
theorem ds_cons (x y : UInt8) (a b : St8) : ds (x :: a) (y :: b) = match a, b with
    | x' :: a', y' :: b' => if x = y' ∧ x' = y then min (dsM x y a b) (ds a' b' + 1) else dsM x y a b
    | _, _ => dsM x y a b := by
  have e0 : ds (x :: a) (y :: b) = dsF (a.length + b.length + 2 + 1) (x :: a) (y :: b) := by
    unfold ds
    exact dsF_more _ _ _ _ (by simp) (by simp; omega)
  have e1 : dsF (a.length + b.length + 2) a b = ds a b := dsF_more _ _ _ _ (by omega) (by omega)
  have e2 : dsF (a.length + b.length + 2) a (y :: b) = ds a (y :: b) := dsF_more _ _ _ _ (by simp; omega) (by omega)
  have e3 : dsF (a.length + b.length + 2) (x :: a) b = ds (x :: a) b := dsF_more _ _ _ _ (by simp; omega) (by omega)
  rw [e0]
  unfold dsF
  rw [e1, e2, e3]
  cases a with
  | nil => rfl
  | cons x' a' =>
    cases b with
    | nil => rfl
    | cons y' b' =>
      have e4 : dsF ((x' :: a').length + (y' :: b').length + 2) a' b' = ds a' b' := dsF_more _ _ _ _ (by simp; omega) (by omega)
      dsimp only
      rw [e4]; rfl
theorem ds_le (x y : UInt8) (a b : St8) : ds (x :: a) (y :: b) ≤ dsM x y a b := by
  rw [ds_cons]
  split
  · split
    · exact Nat.min_le_left _ _
    · exact Nat.le_refl _
  · exact Nat.le_refl _
/-- Texts that are read backwards, aligned with so many changes. -/
inductive Al : St8 → St8 → Nat → Prop where
  | nil : Al [] [] 0
  | keep (x : UInt8) {a b : St8} {n : Nat} : Al a b n → Al (x :: a) (x :: b) n
  | repl (x y : UInt8) {a b : St8} {n : Nat} : Al a b n → Al (x :: a) (y :: b) (n + 1)
  | del (x : UInt8) {a b : St8} {n : Nat} : Al a b n → Al (x :: a) b (n + 1)
  | ins (y : UInt8) {a b : St8} {n : Nat} : Al a b n → Al a (y :: b) (n + 1)
  | swap (x y : UInt8) {a b : St8} {n : Nat} : Al a b n → Al (x :: y :: a) (y :: x :: b) (n + 1)
theorem ds_keep (x : UInt8) (a b : St8) : ds (x :: a) (x :: b) ≤ ds a b := by
  refine Nat.le_trans (ds_le _ _ _ _) ?_
  unfold dsM; rw [if_pos rfl]; omega
theorem ds_repl (x y : UInt8) (a b : St8) : ds (x :: a) (y :: b) ≤ ds a b + 1 := by
  refine Nat.le_trans (ds_le _ _ _ _) ?_
  unfold dsM; split <;> omega
theorem ds_del (x : UInt8) (a b : St8) : ds (x :: a) b ≤ ds a b + 1 := by
  cases b with
  | nil => rw [ds_nil', ds_nil']; simp
  | cons y b => refine Nat.le_trans (ds_le _ _ _ _) ?_; unfold dsM; omega
theorem ds_ins (y : UInt8) (a b : St8) : ds a (y :: b) ≤ ds a b + 1 := by
  cases a with
  | nil => rw [ds_nil, ds_nil]; simp
  | cons x a => refine Nat.le_trans (ds_le _ _ _ _) ?_; unfold dsM; omega
theorem ds_swap (x y : UInt8) (a b : St8) : ds (x :: y :: a) (y :: x :: b) ≤ ds a b + 1 := by
  rw [ds_cons]
  dsimp only
  rw [if_pos ⟨rfl, rfl⟩]; exact Nat.min_le_right _ _
theorem Al.le {a b : St8} {n : Nat} (h : Al a b n) : ds a b ≤ n := by
  induction h with
  | nil => rw [ds_nil]; exact Nat.le_refl _
  | keep x _ ih => exact Nat.le_trans (ds_keep x _ _) ih
  | repl x y _ ih => exact Nat.le_trans (ds_repl x y _ _) (Nat.succ_le_succ ih)
  | del x _ ih => exact Nat.le_trans (ds_del x _ _) (Nat.succ_le_succ ih)
  | ins y _ ih => exact Nat.le_trans (ds_ins y _ _) (Nat.succ_le_succ ih)
  | swap x y _ ih => exact Nat.le_trans (ds_swap x y _ _) (Nat.succ_le_succ ih)
/-- What the distance is, at the last bytes. -/
theorem ds_cases (x y : UInt8) (a b : St8) : (x = y ∧ ds (x :: a) (y :: b) = ds a b) ∨ ds (x :: a) (y :: b) = ds a b + 1 ∨ ds (x :: a) (y :: b) = ds a (y :: b) + 1 ∨ ds (x :: a) (y :: b) = ds (x :: a) b + 1 ∨
    ∃ a' b', a = y :: a' ∧ b = x :: b' ∧ ds (x :: a) (y :: b) = ds a' b' + 1 := by
  have hM : (x = y ∧ dsM x y a b = ds a b) ∨ dsM x y a b = ds a b + 1 ∨ dsM x y a b = ds a (y :: b) + 1 ∨ dsM x y a b = ds (x :: a) b + 1 := by
    unfold dsM
    split
    · rename_i h
      rcases Nat.le_total (ds a b + 0) (min (ds a (y :: b) + 1) (ds (x :: a) b + 1)) with h1 | h1
      · exact .inl ⟨h, by omega⟩
      · omega
    · omega
  rw [ds_cons]
  split
  · rename_i x' a' y' b'
    split
    · rename_i h
      obtain ⟨rfl, rfl⟩ := h
      rcases Nat.le_total (dsM x x' (x' :: a') (x :: b')) (ds a' b' + 1) with h1 | h1
      · rw [Nat.min_eq_left h1]
        rcases hM with h | h | h | h
        · exact .inl h
        · exact .inr (.inl h)
        · exact .inr (.inr (.inl h))
        · exact .inr (.inr (.inr (.inl h)))
      · rw [Nat.min_eq_right h1]
        exact .inr (.inr (.inr (.inr ⟨a', b', rfl, rfl, rfl⟩)))
    · rcases hM with h | h | h | h
      · exact .inl h
      · exact .inr (.inl h)
      · exact .inr (.inr (.inl h))
      · exact .inr (.inr (.inr (.inl h)))
  · rcases hM with h | h | h | h
    · exact .inl h
    · exact .inr (.inl h)
    · exact .inr (.inr (.inl h))
    · exact .inr (.inr (.inr (.inl h)))
theorem Al.all_ins : ∀ b : St8, Al [] b b.length
  | [] => .nil
  | y :: b => .ins y (Al.all_ins b)
theorem Al.all_del : ∀ a : St8, Al a [] a.length
  | [] => .nil
  | x :: a => .del x (Al.all_del a)
theorem Al.best : ∀ (a b : St8), Al a b (ds a b)
  | [], b => by rw [ds_nil]; exact .all_ins b
  | x :: a, [] => by rw [ds_nil']; exact .all_del _
  | x :: a, y :: b => by
    rcases ds_cases x y a b with ⟨rfl, h⟩ | h | h | h | ⟨a', b', rfl, rfl, h⟩
    · rw [h]; exact .keep x (Al.best a b)
    · rw [h]; exact .repl x y (Al.best a b)
    · rw [h]; exact .del x (Al.best a (y :: b))
    · rw [h]; exact .ins y (Al.best (x :: a) b)
    · rw [h]; exact .swap x y (Al.best a' b')
termination_by a b => a.length + b.length
theorem Al.symm {a b : St8} {n : Nat} (h : Al a b n) : Al b a n := by
  induction h with
  | nil => exact .nil
  | keep x _ ih => exact .keep x ih
  | repl x y _ ih => exact .repl y x ih
  | del x _ ih => exact .ins x ih
  | ins y _ ih => exact .del y ih
  | swap x y _ ih => exact .swap y x ih
theorem ds_symm (a b : St8) : ds a b = ds b a := Nat.le_antisymm (Al.best b a).symm.le (Al.best a b).symm.le
theorem Al.refl : ∀ a : St8, Al a a 0
  | [] => .nil
  | x :: a => .keep x (Al.refl a)
theorem Al.eq {a b : St8} {n : Nat} (h : Al a b n) : n = 0 → a = b := by
  induction h with
  | nil => exact fun _ => rfl
  | keep x _ ih => exact fun e => by rw [ih e]
  | repl | del | ins | swap => exact fun e => by omega
theorem ds_zero (a b : St8) : ds a b = 0 ↔ a = b := ⟨(Al.best a b).eq, fun e => by subst e; have := (Al.refl a).le; omega⟩
theorem Al.diff {a b : St8} {n : Nat} (h : Al a b n) : a.length ≤ b.length + n ∧ b.length ≤ a.length + n := by
  induction h with
  | nil => simp
  | keep | repl | del | ins | swap => simp only [List.length_cons]; omega
theorem ds_diff (a b : St8) : a.length ≤ b.length + ds a b ∧ b.length ≤ a.length + ds a b := (Al.best a b).diff
theorem ds_max : ∀ (a b : St8), ds a b ≤ max a.length b.length
  | [], b => by rw [ds_nil]; omega
  | x :: a, [] => by rw [ds_nil']; omega
  | x :: a, y :: b => by
    have := ds_repl x y a b
    have := ds_max a b
    simp only [List.length_cons]; omega
theorem Al.app {a b : St8} {n : Nat} (h : Al a b n) (q : St8) : Al (a ++ q) (b ++ q) n := by
  induction h with
  | nil => exact Al.refl q
  | keep x _ ih => exact .keep x ih
  | repl x y _ ih => exact .repl x y ih
  | del x _ ih => exact .del x ih
  | ins y _ ih => exact .ins y ih
  | swap x y _ ih => exact .swap x y ih
theorem Al.pre {a b : St8} {n : Nat} (h : Al a b n) : ∀ p : St8, Al (p ++ a) (p ++ b) n
  | [] => h
  | x :: p => .keep x (h.pre p)
theorem ds_ends (a b p q : St8) : ds (p ++ a ++ q) (p ++ b ++ q) ≤ ds a b := by
  rw [List.append_assoc, List.append_assoc]
  exact (((Al.best a b).app q).pre p).le
end Kx
