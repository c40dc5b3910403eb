/-
  gram.Set: the texts of a list, ascending, each once.
  No condition beyond those written in each theorem.
-/
import Derived.Test.YtmngcdfpanhmoaaGreatDoorKA2
import Derived.Test.YtmngcdfpanhmoaaGreatDoorKB2
import Derived.WalkKit
import Derived.Maps.OwnSet
import Derived.Maps.Views
import Derived.Test.YtmngcdfpanhmoaaGreatDoorKB6
open Go Sx Go.Proofs
set_option linter.unusedSimpArgs false
set_option linter.unusedVariables false
namespace Kx
open Go.RowKit Go.Maps Go.WideMaps
def keysK (g : Nat → ByteArray) (k : Nat) : List Lit := (List.range k).map fun j => Lit.string (g j).data.toList
def SnU (g : Nat → ByteArray) (k : Nat) : DataW Unit := setOf (.agg []) (keysK g k)
theorem SnU_succ (g : Nat → ByteArray) (k : Nat) : SnU g (k + 1) = (SnU g k).put (.string (g k).data.toList) (.agg []) := by
  unfold SnU keysK
  rw [List.range_succ, List.map_append, List.map_singleton, setOf_snoc]
theorem SnU_zero (g : Nat → ByteArray) : SnU g 0 = .map [] := by simp [SnU, keysK, setOf]
theorem lawK : Keyed Tryz.prog 9 := string_keyed Tryz.underlying9
set_option maxRecDepth 100000 in
theorem of_none (g : Nat → ByteArray) (a : Option Addr) (cap : Nat) (w : World) : Calls Tryz.prog 261 #[.slice a 0 cap] w fun e w' => e = .returned (.map (some w.heap.size)) ∧ w'.ownsMap Tryz.prog 9 unitElem w.heap.size 0 (SnU g 0) ∧ Below w.heap.size w w' := by
  have hmm := @run_makeMap Tryz.prog
  go_enter Tryz.func261, Tryz.ntmps261
  go_wp2
  refine wp_loop_rounds 1 ?_
  rw [rounds_succ]
  go_wp2
  go_ret
  exact ⟨rfl, by rw [SnU_zero]; exact World.ownsMap_made _ _ _ _, (Below.refl _ _).alloc (Nat.le_refl _) _⟩
set_option maxRecDepth 100000 in
theorem of_some (b off cap n : Nat) (g : Nat → ByteArray) (w : World) (hl : n ≤ 1000) (hb : b < w.heap.size)
    (hc : ∀ j, j < n → w.cell? ⟨b, off + j, none⟩ = some (.string (g j))) (hsz : ∀ j, j < n → (g j).size ≤ maxLen) :
    Calls Tryz.prog 261 #[.slice (some ⟨b, off, none⟩) n cap] w fun e w' => e = .returned (.map (some w.heap.size)) ∧ w'.ownsMap Tryz.prog 9 unitElem w.heap.size n (SnU g n) ∧ Below w.heap.size w w' := by
  have hmm := @run_makeMap Tryz.prog
  go_enter Tryz.func261, Tryz.ntmps261
  go_wp2
  go_loopw [9] (fun i wr => ∃ k : Nat, k ≤ n ∧ i = .int .i64 k ∧ wr.ownsMap Tryz.prog 9 unitElem w.heap.size k (SnU g k) ∧ Below w.heap.size w wr)
    (fun i _ => n - (Go.RowKit.intOf i).toNat)
  case atStart => exact ⟨0, Nat.zero_le _, rfl, by rw [SnU_zero]; exact World.ownsMap_made _ _ _ _, (Below.refl _ _).alloc (Nat.le_refl _) _⟩
  case round =>
    obtain ⟨k, hk, rfl, hown, hnx⟩ := hrel
    have hcx : k < n → wr.cell? ⟨b, off + k, none⟩ = some (.string (g k)) := fun h => (hnx.cell (by exact hb)).trans (hc k h)
    have hkey : k < n → keyOf Tryz.prog 9 (.string (g k)) = some (.string (g k).data.toList) := fun h => keyOf_string_mk Tryz.underlying9 (hsz k h)
    go_wp2_with (first
      | (at_mapUpdate; refine wpList_mapUpdate_own _ rfl _ _ _ 282 rfl _ _ lawK Tryz.underlying282 unitElem w.heap.size k _ rfl hown (by unfold maxLen; omega) _ _ _ rfl rfl (hkey (by omega)) _ [] unitElem_mk ?_; intro w1 hown1 hgrow1)
      | go_in)
    · have hlt : k < n := by assumption
      go_roundw
      case rel => exact ⟨k + 1, by omega, by go_num, (SnU_succ g k).symm ▸ hown1, hnx.grown hgrow1 hnx.size (fun j hj => by cases hj; exact Nat.le_refl _)⟩
      case measure => simp [Go.RowKit.intOf]; omega
    · have : k = n := by omega
      subst this
      go_ret
      exact ⟨rfl, hown, hnx⟩
theorem sortsK (m : Nat) : AnyZ.SortsIn Tryz.prog Kx.sortedA_ren Fence.wide m :=
  ⟨fun blk off cap ss W hH hblk hsz => callsIn_wide.2 (Kx.slices_Sort_string blk off cap ss W hH hblk hsz), fun p cap W => callsIn_wide.2 (Kx.slices_Sort_string_none p cap W)⟩
set_option maxHeartbeats 1000000 in
/-- The keys of a map, ascending. -/
theorem sorted_keys (b nn : Nat) (D0 : DataW Unit) (w : World) (hown : w.ownsMap Tryz.prog 9 unitElem b nn D0) (hmax : Maps.size D0 ≤ 1000) :
    CallsIn Fence.wide 6 Tryz.prog 260 #[.map (some b)] w (fun e w' => e = .returned (.func (.func 271) #[] #[.pointer (some ⟨w.heap.size, 0, none⟩)]) ∧ w' = w.alloc (.cells #[.map (some b)] 282)) ∧
    CallsIn Fence.wide 6 Tryz.prog 259 #[.func (.func 271) #[] #[.pointer (some ⟨w.heap.size, 0, none⟩)]] (w.alloc (.cells #[.map (some b)] 282)) fun e w' => ∃ (v : Value) (ss : List (List UInt8)), e = .returned v ∧ ss.Perm (strKeys D0) ∧
      w'.ownsRow (w.alloc (.cells #[.map (some b)] 282)).heap.size 9 1 v ss.length ((ss.mergeSort (fun x y => decide (x ≤ y))).map encStr) ∧ Below (w.alloc (.cells #[.map (some b)] 282)).heap.size (w.alloc (.cells #[.map (some b)] 282)) w' := by
  have hbl := hown.lt
  have hseq : SeqGives Fence.wide 3 Tryz.prog 271 #[.pointer (some ⟨w.heap.size, 0, none⟩)] encStr (fun ss => ss.Perm (strKeys D0)) (Maps.size D0) (w.alloc (.cells #[.map (some b)] 282)) :=
    AnyZ.keys_gives (ρ := Kx.keysA_ren) { Kx.keysA with } Fence.wide _ trivial rfl (by omega) w.heap.size b nn D0 _ (by simp) (by simp) (by
      obtain ⟨es, clock, hb, Ft, hs, hD⟩ := hown
      exact ⟨es, clock, (Below.heap_alloc _ _ b hbl).trans hb, Ft, hs, hD⟩)
  refine ⟨AnyZ.keys_in Kx.keysA Fence.wide 6 trivial rfl (some b) w, ?_⟩
  have cS := AnyZ.sorted_in Kx.sortedA Fence.wide 6 trivial trivial trivial trivial rfl (by omega) (sortsK _) (enters_of Tryz.func270 (by kernel_rfl) rfl) 271 #[.pointer (some ⟨w.heap.size, 0, none⟩)] trivial (enters_of Tryz.func271 (by kernel_rfl) rfl) _ _ (by unfold maxLen; omega) (by omega) _ hseq
  exact cS.mono fun e w' ⟨v, ss, h1, h2, h3, _, h5⟩ => ⟨v, ss, h1, h2, h3, h5⟩
set_option maxHeartbeats 1000000 in
theorem set_law (n : Nat) (hn : n ≤ 1000) (g : Nat → ByteArray) (x : Value) (w : World) (hof : Calls Tryz.prog 261 #[x] w fun e w' => e = .returned (.map (some w.heap.size)) ∧ w'.ownsMap Tryz.prog 9 unitElem w.heap.size n (SnU g n) ∧ Below w.heap.size w w') :
    Calls Tryz.prog 233 #[x] w fun e w' => ∃ (v : Value) (ss : List (List UInt8)), e = .returned v ∧ ss.Perm (strKeys (SnU g n)) ∧
      w'.ownsRow w.heap.size 9 1 v ss.length ((ss.mergeSort (fun x y => decide (x ≤ y))).map encStr) ∧ Below w.heap.size w w' ∧ ∃ W b m, World.ownsMap W Tryz.prog 9 unitElem b m (SnU g n) := by
  refine (callsIn_wide (n := 7)).1 ?_
  have cO := (callsIn_wide (n := 6)).2 hof
  have cK := fun W (h : World.ownsMap W Tryz.prog 9 unitElem w.heap.size n (SnU g n)) => (sorted_keys _ _ _ W h (by have := h.size_le; omega)).1
  have cS := fun W (h : World.ownsMap W Tryz.prog 9 unitElem w.heap.size n (SnU g n)) => (sorted_keys _ _ _ W h (by have := h.size_le; omega)).2
  have f1 : Fence.wide.fn 261 := trivial
  have f2 : Fence.wide.fn 260 := trivial
  have f3 : Fence.wide.fn 259 := trivial
  refine callsIn_of_wp Tryz.func233 rfl trivial ?_ rfl
  simp only [Tryz.ntmps233, List.size_toArray, List.length_cons, List.length_nil, Nat.reduceAdd, Nat.reduceSub, Array.replicate_succ, Array.replicate_zero, List.push_toArray, List.append_toArray, List.nil_append, List.cons_append]
  gi_wp2_with (first
    | (gi_at_call 261; refine cO.mono ?_; rintro e w1 ⟨rfl, ho, hb1⟩)
    | (gi_at_call 260; refine (cK w1 ho).mono ?_; rintro e w2 ⟨rfl, rfl⟩)
    | (gi_at_call 259; refine (cS w1 ho).mono ?_; rintro e w3 ⟨v, ss, rfl, hS, hrow, hb⟩))
  go_ret
  have hb2 := hb1.trans (((Below.refl w1.heap.size w1).alloc (Nat.le_refl _) (.cells #[.map (some w.heap.size)] 282)).mono hb1.size)
  exact ⟨v, ss, rfl, hS, ownsRow_base_a hrow hb2.size, hb2.trans (hb.mono hb2.size), w1, _, _, ho⟩
theorem insS_iff (t : Str) : ∀ l : List Str, ∀ g, g ∈ insS t l ↔ g = t ∨ g ∈ l
  | [], g => by simp [insS]
  | u :: l, g => by
    have h := insS_iff t l g
    unfold insS
    split
    · rename_i e; subst e; simp
    · split
      · simp
      · simp only [List.mem_cons, h]
        constructor <;> (intro h; rcases h with h | h | h <;> simp [h])
theorem lt_iff : ∀ a b : Str, ltS a b = true ↔ a < b
  | [], [] => by simp [ltS]
  | [], _ :: _ => by simp [ltS]
  | _ :: _, [] => by simp [ltS]
  | x :: a, y :: b => by
    have h := lt_iff a b
    rw [List.cons_lt_cons_iff]
    unfold ltS
    by_cases e : x = y
    · subst e
      rw [if_pos rfl, h]
      constructor
      · exact fun h => .inr ⟨rfl, h⟩
      · rintro (h | h)
        · exact absurd h (by simp)
        · exact h.2
    · rw [if_neg e, decide_eq_true_eq]
      constructor
      · exact fun h => .inl (UInt8.lt_iff_toNat_lt.2 h)
      · rintro (h | h)
        · exact UInt8.lt_iff_toNat_lt.1 h
        · exact absurd h.1 e
theorem insS_sort (t : Str) : ∀ l : List Str, l.Pairwise (fun a b => a < b) → (insS t l).Pairwise (fun a b => a < b)
  | [], _ => by simp [insS]
  | u :: l, h => by
    have h1 := List.pairwise_cons.1 h
    have h2 := insS_sort t l h1.2
    unfold insS
    split
    · exact h
    · rename_i hne
      split
      · rename_i hlt
        rw [lt_iff] at hlt
        refine List.pairwise_cons.2 ⟨fun x hx => ?_, h⟩
        rcases List.mem_cons.1 hx with rfl | hx
        · exact hlt
        · exact List.lt_trans hlt (h1.1 x hx)
      · rename_i hlt
        rw [lt_iff] at hlt
        refine List.pairwise_cons.2 ⟨fun x hx => ?_, h2⟩
        rcases (insS_iff t l x).1 hx with rfl | hx
        · exact Classical.byContradiction fun h2 => hne (List.le_antisymm (List.not_lt.1 h2) (List.not_lt.1 hlt))
        · exact h1.1 x hx
theorem setS_iff : ∀ l : List Str, ∀ g, g ∈ setS l ↔ g ∈ l
  | [], g => by simp [setS]
  | t :: l, g => by rw [setS, insS_iff, setS_iff l g, List.mem_cons]
theorem setS_sort : ∀ l : List Str, (setS l).Pairwise (fun a b => a < b)
  | [] => by simp [setS]
  | t :: l => by rw [setS]; exact insS_sort t _ (setS_sort l)
theorem setS_merge (l : List Str) {ss : List (List UInt8)} (h : ss.Perm (setS l)) : ss.mergeSort (fun x y => decide (x ≤ y)) = setS l := by
  rw [mergeSort_of_perm h]
  refine List.mergeSort_of_pairwise ((setS_sort l).imp fun {a b} hab => ?_)
  exact decide_eq_true (List.le_of_lt hab)
theorem set_perm {n : Nat} {l : List Str} (hn : n = l.length) {w : World} {b m : Nat} (hown : w.ownsMap Tryz.prog 9 unitElem b m (SnU (fun i => ⟨(l.getD i []).toArray⟩) n)) : (setS l).Perm (strKeys (SnU (fun i => ⟨(l.getD i []).toArray⟩) n)) := by
  refine Collected.perm (left := fun _ => false) ⟨(setS_sort l).imp fun {a b} h e => ?_, fun x => ?_⟩ hown lawK Tryz.underlying9 fun _ => rfl
  · subst e; exact List.lt_irrefl _ h
  · rw [setS_iff, SnU, has_setOf _ _ _ (fun y hy => by obtain ⟨j, _, rfl⟩ := List.mem_map.1 hy; trivial)]
    subst hn
    simp only [keysK, List.any_map, List.any_eq_true, List.mem_range, Function.comp, and_true]
    constructor
    · intro hx
      obtain ⟨i, hi, rfl⟩ := List.getElem_of_mem hx
      exact ⟨i, hi, by simp [Lit.sameKey, List.getD, hi]⟩
    · rintro ⟨i, hi, e⟩
      simp [Lit.sameKey, List.getD, hi] at e
      rw [← e]; exact List.getElem_mem hi
theorem setO_ct (l : List Str) (hl : l.length ≤ 1000) (hg : ∀ g ∈ l, g.length ≤ 1000) : Ct Tryz.prog 233 [strs l] fun r outs => r = strsO 9 (setS l) ∧ outs = [] := by
  refine ⟨⟨Tryz.f233, Tryz.func233, by decide, by decide⟩, fun w S0 vs F hS hod hnd hFS => ?_⟩
  have hll := hod.length
  obtain ⟨va, hvs⟩ : ∃ va, vs = #[va] := by
    match vs, hll with
    | ⟨[a]⟩, _ => exact ⟨a, rfl⟩
  subst hvs
  simp only [OdT, strs, Od] at hod
  obtain ⟨F1, F2, rfl, ⟨hv, rfl⟩, rfl⟩ := hod
  simp only [Rd] at hv
  obtain ⟨a, cap, rfl, hn, hel⟩ := hv
  have hof : Calls Tryz.prog 261 #[.slice a l.length cap] w fun e w' => e = .returned (.map (some w.heap.size)) ∧ w'.ownsMap Tryz.prog 9 unitElem w.heap.size l.length (SnU (fun i => ⟨(l.getD i []).toArray⟩) l.length) ∧ Below w.heap.size w w' := by
    rcases Nat.eq_zero_or_pos l.length with h0 | h0
    · rw [h0]; exact of_none _ a cap w
    · obtain ⟨b, off, rfl, hb, _⟩ := hel 0 h0
      refine of_some b off cap l.length _ w hl (hS b hb) (fun j hj => ?_) (fun j hj => ?_)
      · obtain ⟨b', off', e, _, us, hu, hc, hr⟩ := hel j hj
        cases e
        match us, hr with
        | [u], hr =>
          simp only [RdL, Rd] at hr
          have := hc 0 (by simp)
          rw [cell?_at]
          simp only [Nat.mul_one, Nat.add_zero, MiS] at this
          rw [this, hr.2.1]; rfl
      · have := hg _ (getD_in (z := []) hj)
        have e : (⟨(l.getD j []).toArray⟩ : ByteArray).size = (l.getD j []).length := by simp [ByteArray.size]
        unfold maxLen
        omega
  refine (set_law l.length hl _ _ w hof).mono ?_
  rintro e w' ⟨v, ss, rfl, hp, hrow, hb, W, b1, m, hown⟩
  have hm := setS_merge l (hp.trans (set_perm rfl hown).symm)
  have hlen : ss.length = (setS l).length := by rw [← hm, List.length_mergeSort]
  rw [hm, hlen] at hrow
  have hblk : ∀ b, v.ownBlock = some b → w.heap.size ≤ b := fun b hb => by
    rcases hrow.2 with ⟨rfl, _⟩ | ⟨gb, c, cur, rfl, hge, _⟩
    · simp [Value.ownBlock] at hb
    · simp only [Value.ownBlock, Option.some.injEq] at hb; omega
  refine ⟨v, _, [], S0, v.ownBlock.toList, rfl, ⟨rfl, rfl⟩, ⟨hb.os, hb.tape, hb.output, hb.size, fun b h1 _ => hb.block b h1, fun b h => h, fun b h => .inl h, by cases v.ownBlock <;> simp, ?_, ?_⟩, ?_⟩
  · intro b hb1 hb2
    exact absurd (hS b hb2) (Nat.not_lt.2 (hblk b (by simpa using hb1)))
  · intro b hb1
    exact .inr (hblk b (by simpa using hb1))
  · simp only [OdT, strsO, Od, ioV]
    refine ⟨v.ownBlock.toList, [], by simp, ⟨⟨(setS l).map encStr, OwnsH.of_row hrow, fun i hi => ?_, fun u hu => ?_⟩, rfl⟩, rfl⟩
    · rw [Nat.mul_one, List.drop_eq_getElem_cons (by simpa using hi)]
      simp only [List.take_succ_cons, List.take_zero, RdL, Rd, and_true]
      simp [encStr, Value.oneCell', List.getD, hi]
    · obtain ⟨x, _, rfl⟩ := List.mem_map.1 hu
      rfl
theorem set_ok : SetOK := fun l hl hg => by
  refine Ct.det ((setO_ct l (by omega) fun g h => by have := hg g h; omega).mono ?_)
  rintro r outs ⟨rfl, rfl⟩
  exact ⟨⟨rfl, fun _ _ => rfl⟩, trivial⟩
end Kx
/-
  Numbers in digits of base sixteen.
-/
open Go Sx Go.Proofs
set_option linter.unusedSimpArgs false
set_option linter.unusedVariables false
namespace Kx
theorem ispow_ct : Ct Tryz.prog 215 [i64 16] fun r outs => r = .bool true ∧ outs = [] := by
  refine .det (.of_W (fn := Tryz.f215) hΓ hm Tryz.func215 [] [] (by kernel_rfl) (Step.out ?_))
  repeat' first
    | (refine Step.mk ?_; conv => whnf)
    | with_reducible trivial
    | (refine Wr.i64 ?_ ?_; omega)
    | (refine Two.mk (Step.out ?_) (Step.out ?_))
def hexD2 : Str := [48, 49, 50, 51, 52, 53, 54, 55, 56, 57, 97, 98, 99, 100, 101, 102, 103, 104, 105, 106, 107, 108, 109, 110, 111, 112, 113, 114, 115, 116, 117, 118, 119, 120, 121, 122]
/-- The digit before which j digits stand, from the end. -/
def dgE (x : Int) (j : Nat) : Int := (hexD2.getD (x / 16 ^ j % 16).toNat 0).toNat
def dgs (x : Int) (j : Nat) : Str := (List.range (j + 1)).map fun i => hexD2.getD (x / 16 ^ (j - i) % 16).toNat 0
theorem dgs_len (x : Int) (j : Nat) : (dgs x j).length = j + 1 := by simp [dgs]
theorem dgs_at (x : Int) (j i : Nat) (h : i < j + 1) : (((dgs x j).getD i 0).toNat : Int) = dgE x (j - i) := by simp [dgs, dgE, List.getD, h]
theorem u64_div {x : Int} (h : U64 x) (j : Nat) : U64 (x / 16 ^ j) := by
  have h1 : (0 : Int) < 16 ^ j := Int.pow_pos (by decide)
  exact ⟨Int.ediv_nonneg h.1 (Int.le_of_lt h1), Int.le_trans (Int.ediv_le_self _ h.1) h.2⟩
theorem div_step {x : Int} (h : U64 x) (j : Nat) : (x / 16 ^ j).fdiv (2 ^ (min (Int.toNat 4) IntKind.u64.bits)) = x / 16 ^ (j + 1) := by
  rw [Int.fdiv_eq_ediv_of_nonneg _ (by decide), show (2 : Int) ^ (min (Int.toNat 4) IntKind.u64.bits) = 16 from rfl, Int.ediv_ediv_of_nonneg (Int.le_of_lt (Int.pow_pos (by decide))), ← Int.pow_succ]
theorem dg_set (x : Int) (j : Nat) (hj : j ≤ 15) (k : Nat) (hk : k = 64 - j) (c : Int) (hc : c = dgE x j) (i : Nat) :
    D.ite (i = k) (.int .u8 c) (.int .u8 (if 65 - j ≤ i then dgE x (64 - i) else 0)) = .int .u8 (if 65 - (j + 1) ≤ i then dgE x (64 - i) else 0) := by
  show D.int .u8 (if i = k then c else if 65 - j ≤ i then dgE x (64 - i) else 0) = _
  subst hc hk
  congr 1
  by_cases h : i = 64 - j
  · rw [if_pos h, if_pos (by omega), show 64 - i = j by omega]
  · rw [if_neg h]
    by_cases h2 : 65 - j ≤ i
    · rw [if_pos h2, if_pos (by omega)]
    · rw [if_neg h2, if_neg (by omega)]
theorem fbits_ct (x : Int) (hx : U64 x) (tz : Ct Tryz.prog 216 [u64 16] fun r outs => r = i64 4 ∧ outs = []) : Ct Tryz.prog 156 [.nil, u64 x, i64 16, .lit false, .lit false] fun r outs => ∃ j : Nat, (j ≤ 15 ∧ x / 16 ^ j < 16) ∧ r = .tup [.nil, .str (dgs x j)] ∧ outs = [] := by
  refine .some (.of_W (fn := Tryz.f156) hΓ hm Tryz.func156 [] [] (by kernel_rfl) (Step.out ?_))
  repeat' first
    | (refine Step.mk ?_; conv => whnf)
    | (with_reducible refine Br.tt ?_)
    | (refine Br.dF ?_ ?_; omega)
    | (refine Met.by ispow_ct ?_; rintro q outs ⟨rfl, rfl⟩)
    | (refine Met.by tz ?_; rintro q outs ⟨rfl, rfl⟩)
    | (refine Wr.u64 ?_ ?_; omega)
    | (refine Br.swap ?_)
    | (refine CallOK.of_ct (Step.out ?_))
  refine CodeOK.loopW hΓ hm [] [] (by kernel_rfl) (α := Nat) (fun j => [(0, .nil), (1, u64 (x / 16 ^ j)), (3, .lit false), (4, .lit false), (10, .nil), (11, .str []), (12, .loc 0 0), (13, i64 (65 - (j : Int))), (14, u64 4), (15, u64 16), (16, u64 15)]) (fun j => [(0, .vec 65 fun k => .int .u8 (if 65 - j ≤ k then dgE x (64 - k) else 0))]) 1 (fun j => j ≤ 15) (fun j => 16 - j) ?_ ?_
  · refine Again.by 0 (Nat.zero_le _) ?_
    repeat' first
      | (refine Step.mk ?_; conv => whnf)
      | (refine Vc.om ?_ ?_; first | omega | with_reducible rfl | with_reducible exact same_rfl)
      | with_reducible trivial
      | (exact fun i hi => ⟨by dsimp only; rw [if_neg (by omega)], rfl⟩)
      | (refine Vc.mk ?_ (Step.out ?_))
  · intro j hj
    have hd := u64_div hx j
    have ha := and15 _ hd
    have h15 : 16 ≤ x / 16 ^ j → j ≤ 14 := fun h => by
      refine Classical.byContradiction fun hn => ?_
      obtain rfl : j = 15 := by omega
      have := Int.mul_ediv_self_le (x := x) (k := 16 ^ 15) (by decide)
      have := hx.2
      have e : (16 : Int) ^ 15 = 1152921504606846976 := by decide
      rw [e] at *
      omega
    repeat' first
      | (refine Step.mk ?_; conv => whnf)
      | (refine Vc.om ?_ ?_; first | omega | with_reducible rfl | with_reducible exact same_rfl)
      | (refine Wr.i64 ?_ ?_; omega)
      | (rw [ha]; exact ⟨by omega, by show _ < (36 : Int); omega⟩)
      | (exact ⟨hd.1, by show _ < (36 : Int); omega⟩)
      | (show 0 + _ * 1 < 65; omega)
      | (refine Br.d (fun h => ?_) (fun h => ?_))
      | (refine Vc.mk ?_ (Step.out ?_))
    · refine Again.by (j + 1) ⟨by have := h15 ‹_›; omega, by omega⟩ ?_
      repeat' first
        | (refine Step.mk ?_; conv => whnf)
        | (refine Vc.om ?_ ?_; first | omega | with_reducible rfl | with_reducible exact same_rfl)
        | with_reducible trivial
        | (exact div_step hx j)
        | (exact fun i hi => ⟨dg_set x j hj _ (by show 0 + _ * 1 = _; omega) _ (by rw [ha]; rfl) i, rfl⟩)
        | (refine Vc.mk ?_ (Step.out ?_))
    · exact ⟨by omega, fun i hi => rfl⟩
    · refine Lf.by (dgs x j) ⟨by rw [dgs_len]; omega, fun i hi => ?_⟩ ?_
      · have hk : i < j + 1 := by omega
        rw [dgs_at x j i hk]
        have := dg_set x j hj (0 + (65 - (j : Int) - 1).toNat * 1) (by omega) ((hexD2.getD (x / 16 ^ j).toNat 0).toNat : Int) (by unfold dgE; rw [Int.emod_eq_of_lt hd.1 (by omega)]) ((65 - (j : Int) - 1).toNat + i)
        refine (congrArg (fun d => [d]) this).trans ?_
        rw [if_pos (by omega), show 64 - ((65 - (j : Int) - 1).toNat + i) = j - i by omega]
      · repeat' first
          | (refine Step.mk ?_; conv => whnf)
        refine Lf.by j ⟨hj, by omega⟩ ?_
        repeat' first
          | (refine Step.mk ?_; conv => whnf)
          | with_reducible trivial
          | (refine Two.mk (Step.out ?_) (Step.out ?_))
theorem tab_named : Tryz.prog.globalNamed "math/bits.deBruijn64tab" = some (Kx.laysTz_ren.g 1) := by kernel_rfl
theorem tz_ct : Ct Tryz.prog 216 [u64 16] fun r outs => r = i64 4 ∧ outs = [] := by
  refine Ct.lib (vs := [.int .u64 (16 : Nat)]) ⟨Tryz.f216, Tryz.func216, by decide, by decide⟩ rfl (fun _ => ⟨rfl, rfl⟩) fun w hl => ?_
  refine (Any7.bits_TrailingZeros Kx.laysTz 16 (by decide) w fun _ j hj => ?_).mono ?_
  · obtain ⟨h1, _, h3⟩ := hl ("math/bits.deBruijn64tab", Lib.deBruijn64tab) (List.mem_cons_self ..) _ tab_named
    have := h3 j (by simpa using hj)
    rw [Nat.zero_add] at this
    rw [cell?_at]
    refine this.trans ?_
    simp [List.getD, hj]
  · rintro e w' ⟨rfl, rfl⟩
    exact ⟨by rw [show Lib.ctz 64 16 = 4 from by decide +kernel]; rfl, below_same rfl⟩
theorem fuint_ct (x : Int) (hx : U64 x) : Ct Tryz.prog 111 [u64 x, i64 16] fun r outs => ∃ j : Nat, (j ≤ 15 ∧ x / 16 ^ j < 16) ∧ r = .str (dgs x j) ∧ outs = [] := by
  refine .some (.of_W (fn := Tryz.f111) hΓ hm Tryz.func111 [] [] (by kernel_rfl) (Step.out ?_))
  repeat' first
    | (refine Step.mk ?_; conv => whnf)
    | (refine Br.dF ?_ ?_; omega)
    | (refine Met.by (fbits_ct x hx tz_ct) ?_; rintro q outs ⟨j, hj, rfl, rfl⟩)
    | (refine CallOK.of_ct (Step.out ?_))
  refine Lf.by j hj ?_
  repeat' first
    | (refine Step.mk ?_; conv => whnf)
    | with_reducible trivial
    | (refine Two.mk (Step.out ?_) (Step.out ?_))
theorem fuint2_ct (x : Int) (hx : U64 x) : Ct Tryz.prog 66 [u64 x, i64 16] fun r outs => ∃ j : Nat, (j ≤ 15 ∧ x / 16 ^ j < 16) ∧ r = .str (dgs x j) ∧ outs = [] := by
  refine .some (.of_W (fn := Tryz.f66) hΓ hm Tryz.func66 [] [] (by kernel_rfl) (Step.out ?_))
  repeat' first
    | (refine Step.mk ?_; conv => whnf)
    | (refine Met.by (fuint_ct x hx) ?_; rintro q outs ⟨j, hj, rfl, rfl⟩)
    | (refine CallOK.of_ct (Step.out ?_))
  refine Lf.by j hj ?_
  repeat' first
    | (refine Step.mk ?_; conv => whnf)
    | with_reducible trivial
    | (refine Two.mk (Step.out ?_) (Step.out ?_))
theorem repeat_ct (n : Nat) (hn : n ≤ 100) : Ct Tryz.prog 68 [.str [48], i64 n] fun r outs => r = .str (List.replicate n 48) ∧ outs = [] := by
  refine Ct.lib (vs := [.string ⟨#[48]⟩, .int .i64 n]) ⟨Tryz.f68, Tryz.func68, by decide, by decide⟩ rfl (fun _ => ⟨rfl, rfl⟩) fun w _ => ?_
  refine (Kx.strings_Repeat ⟨#[48]⟩ n w (by omega) (by show 1 * n ≤ _; omega)).mono ?_
  rintro e w' ⟨rfl, hb⟩
  refine ⟨?_, hb⟩
  have : ∀ n, Lib.repeatL [48] n = List.replicate n (48 : UInt8) := fun n => by
    induction n with
    | zero => rfl
    | succ n ih => rw [Lib.repeatL, ih]; rfl
  show Ending.returned (.string ⟨(Lib.repeatL [48] n).toArray⟩) = _
  rw [this]
theorem repeat_at (n : Nat) (hn : n ≤ 100) (m : Int) (hm : m = n) : Ct Tryz.prog 68 [.str [48], i64 m] fun r outs => r = .str (List.replicate n 48) ∧ outs = [] := hm ▸ repeat_ct n hn
/-- Sixteen digits. -/
def hex16 (x : Int) : Str := (List.range 16).map fun i => hexD2.getD (x / 16 ^ (15 - i) % 16).toNat 0
theorem hex16_is {x : Int} (hx : U64 x) {j : Nat} (hj : j ≤ 15) (h : x / 16 ^ j < 16) : List.replicate (15 - j) 48 ++ dgs x j = hex16 x := by
  apply List.ext_getElem?
  intro i
  by_cases h1 : i < 15 - j
  · rw [List.getElem?_append_left (by simp; omega), List.getElem?_replicate, if_pos h1]
    have hz : x / 16 ^ (15 - i) = 0 := by
      have hp : (0 : Int) < 16 ^ j := Int.pow_pos (by decide)
      rw [show 15 - i = j + 1 + (14 - i - j) by omega, Int.pow_add, ← Int.ediv_ediv_of_nonneg (Int.le_of_lt (Int.pow_pos (by decide))), Int.pow_succ, ← Int.ediv_ediv_of_nonneg (Int.le_of_lt hp)]
      have := (u64_div hx j).1
      rw [show x / 16 ^ j / 16 = 0 by omega, Int.zero_ediv]
    simp only [hex16, List.getElem?_map, List.getElem?_range (show i < 16 by omega), Option.map_some, hz]
    rfl
  · rw [List.getElem?_append_right (by simp; omega), List.length_replicate]
    by_cases h2 : i < 16
    · simp only [hex16, dgs, List.getElem?_map, List.getElem?_range (show i < 16 by omega), List.getElem?_range (show i - (15 - j) < j + 1 by omega), Option.map_some, show j - (i - (15 - j)) = 15 - i by omega]
    · rw [List.getElem?_eq_none (by rw [dgs_len]; omega), List.getElem?_eq_none (by simp [hex16]; omega)]
/-- The sum of a line. -/
def sumS (l : Str) : Str := hex16 (sip (0, 0) (partsB [l]))
theorem rsum_ct (l : Str) (hl : l.length ≤ 9000) : Ct Tryz.prog 31 [.str l] fun r outs => r = .str (sumS l) ∧ outs = [] := by
  have hs := sip_in (0, 0) (partsB [l])
  have h1 := parts1_ct (0, 0) l hl
  unfold sumS
  generalize sip (0, 0) (partsB [l]) = x at *
  have h2 := fuint2_ct x hs
  have hr := fun (j : Nat) (hj : j ≤ 15) => repeat_at (15 - j) (by omega) (16 - ((dgs x j).length : Int)) (by rw [dgs_len]; omega)
  have hlen := dgs_len x
  refine .det (.of_W (fn := Tryz.f31) hΓ hm Tryz.func31 [] [] (by kernel_rfl) (Step.out ?_))
  repeat' first
    | (refine Step.mk ?_; conv => whnf)
    | with_reducible trivial
    | exact noSh_int _ _
    | (refine Met.by h1 ?_; rintro q outs ⟨rfl, rfl⟩)
    | (refine Met.by h2 ?_; rintro q outs ⟨j, hj, rfl, rfl⟩)
    | (refine Wr.i64 ?_ ?_; focus ((rw [hlen]; omega); done))
    | (refine Vc.om ?_ ?_; focus ((rw [List.length_replicate, hlen]; omega); done))
    | (refine Met.by (hr _ hj.1) ?_; rintro q outs ⟨rfl, rfl⟩)
    | (refine Two.mk (Step.out ?_) (Step.out ?_))
    | (refine CallOK.of_ct (Step.out ?_))
    | (refine Vc.mk ?_ (Step.out ?_))
  exact hex16_is hs hj.1 hj.2
end Kx
/-
  Files of records.
-/
open Go Sx Go.Proofs
set_option linter.unusedSimpArgs false
set_option linter.unusedVariables false
namespace Kx
theorem lineS_len {s : Sc} (hs : s.ok) {r : Rc} (hr : r.ok s) : (lineS r).length ≤ 600 := by
  have i1 := hr.i1; have i2 := hr.i2; have v1 := hr.v1; have v2 := hr.v2; have hn := hr.n; have n5 := hs.n5
  have e1 := itS_len r.id.toNat (by omega)
  have h4 := tail9_len 64 (itS r.ver.toNat :: r.v) fun t ht => by
    rcases List.mem_cons.1 ht with rfl | ht
    · have := itS_len r.ver.toNat (by omega); omega
    · obtain ⟨j, hj, rfl⟩ := List.getElem_of_mem ht
      have h9 := (hr.v j (by omega)).le
      rw [List.getD_eq_getElem?_getD, List.getElem?_eq_getElem hj] at h9
      simpa using h9
  unfold lineS
  simp only [joinS, List.length_append]
  simp only [List.length_cons] at h4
  omega
theorem sumS_len (l : Str) : (sumS l).length = 16 := by simp [sumS, hex16]
/-- A row, with its end. -/
def rowF (r : Rc) : Str := (lineS r ++ [9] ++ sumS (lineS r)) ++ [10]
def rowsF (l : List Rc) : Str := l.flatMap rowF
def endF (n : Nat) : Str := [101, 110, 100, 32] ++ itS n ++ [10]
def fileF (l : List Rc) : Str := rowsF l ++ endF l.length
theorem rowF_len {s : Sc} (hs : s.ok) {r : Rc} (hr : r.ok s) : (rowF r).length ≤ 700 := by
  have := lineS_len hs hr
  simp [rowF, sumS_len]; omega
theorem rowsF_len {s : Sc} (hs : s.ok) : ∀ l : List Rc, (∀ r ∈ l, r.ok s) → (rowsF l).length ≤ 700 * l.length
  | [], _ => by simp [rowsF]
  | r :: l, h => by
    have h1 := rowsF_len hs l fun r hr => h r (by simp [hr])
    have h2 := rowF_len hs (h r (by simp))
    simp only [rowsF, List.flatMap_cons, List.length_append, List.length_cons] at h1 ⊢
    omega
theorem rowsF_snoc (l : List Rc) (i : Nat) (h : i < l.length) : rowsF (l.take (i + 1)) = rowsF (l.take i) ++ rowF (l.getD i Rc.z) := by
  rw [take_step l Rc.z i h]; simp [rowsF]
/-- The orders of File; a builder's WriteString writes. -/
def ordFile : Ords := [(8, .ph [0, 3] (.qc 1 (.ph [2] (.qc 4 (.qc 5 (.ph [6] (.ph [7] (.st 8 (.fin)))))))))]
theorem byS_app (a b : Str) : ByS (a.length + b.length) (fun i => iteL (i < a.length) (bytesF a i) (bytesF b (i - a.length))) (a ++ b) := ⟨by simp, fun i hi => (bytes_app a b).2 i (by simp; omega)⟩
theorem file_ct (s : Sc) (hs : s.ok) (l : List Rc) (hl : RsOk s l) : Ct Tryz.prog 11 [s.d, rcs l] fun q outs => q = .tup [.str (fileF l), i64 0] ∧ outs = [] := by
  have hn := hl.n
  have h1 := rAll_ct s hs l hl
  have hR := fun i (h : i < l.length) => hl.ok (l.getD i Rc.z) (getD_in h)
  have hline := fun i (h : i < l.length) => line_ct s hs (l.getD i Rc.z) (hR i h)
  have hll := fun i (h : i < l.length) => lineS_len hs (hR i h)
  have hit := itoa_ct l.length (by omega)
  have hil := itS_len l.length (by omega)
  have hsl := sumS_len
  have htk : ∀ i, (rowsF (l.take i)).length ≤ 700 * 64 := fun i => by
    have h1 := rowsF_len hs (l.take i) fun r hr => hl.ok r (List.mem_of_mem_take hr)
    have : (l.take i).length ≤ 64 := by simp; omega
    omega
  have hst := rowsF_snoc l
  have hall : rowsF (l.take l.length) = rowsF l := by rw [List.take_length]
  have hz : rowsF (l.take 0) = [] := rfl
  unfold fileF endF
  rw [← hall]
  generalize hO : (fun i => rowsF (l.take i)) = O at *
  have hO' : ∀ i, rowsF (l.take i) = O i := fun i => by rw [← hO]
  simp only [hO'] at *
  refine .det (.of_W (fn := Tryz.f11) hΓ hm Tryz.func11 ordFile [] (by kernel_rfl) (Step.out ?_))
  repeat' first
    | (refine Step.mk ?_; conv => whnf)
    | (refine Br.dT ?_ ?_; omega)
    | (refine Met.by h1 ?_; rintro q outs ⟨rfl, rfl⟩)
    | (refine Br.bnot ?_)
    | (refine CallOK.of_ct (Step.out ?_))
  refine CodeOK.loopW hΓ hm ordFile [] (by kernel_rfl) (α := Nat × Bool) (fun z => [(1, rcs l), (7, .loc 0 0), (16, rcs l), (17, i64 l.length), (18, i64 z.1)]) (fun z => [(0, .bld 85 z.2 (.own 1)), (1, .arr 5 1 (O z.1).length (bytesF (O z.1)))]) 2 (fun z => z.1 ≤ l.length) (fun z => l.length - z.1) ?_ ?_
  · refine Again.by (0, false) (Nat.zero_le _) ?_
    repeat' first
      | (refine Step.mk ?_; conv => whnf)
      | (refine Vc.om ?_ ?_; first | omega | with_reducible rfl | with_reducible exact same_rfl)
      | with_reducible trivial
      | (dsimp only; rw [hz]; rfl)
      | (refine Vc.mk ?_ (Step.out ?_))
  · intro ⟨i, u⟩ hi
    dsimp only at hi ⊢
    have hOi := htk i
    by_cases hlt : i < l.length
    · have h2 := hline (i : Int).toNat (by omega)
      have h3 := rsum_ct (lineS (l.getD (i : Int).toNat Rc.z)) (by have := hll (i : Int).toNat (by omega); omega)
      have h4 := hll (i : Int).toNat (by omega)
      have h5 := hsl (lineS (l.getD (i : Int).toNat Rc.z))
      have h6 := hst i hlt
      rw [rowF] at h6
      rw [show (i : Int).toNat = i from Int.toNat_natCast i] at *
      generalize lineS (l.getD i Rc.z) = T at *
      generalize sumS T = S at *
      repeat' first
        | (refine Step.mk ?_; conv => whnf)
        | (refine Vc.om ?_ ?_; first | omega | with_reducible rfl | with_reducible exact same_rfl)
        | (refine Wr.i64 ?_ ?_; omega)
        | (refine Br.dT ?_ ?_; omega)
        | (refine Met.by h2 ?_; rintro q outs ⟨rfl, rfl⟩)
        | (refine Met.by h3 ?_; rintro q outs ⟨rfl, rfl⟩)
        | (refine Vc.om ?_ ?_; focus ((simp only [List.length_append, List.length_cons, List.length_nil]; omega); done))
        | (refine CallOK.inl (f := 29) (fn := Tryz.f29) hΓ hm Tryz.func29 [] [] (by kernel_rfl) (fun V => ?_))
        | (refine CallOK.cc (g := 65) (T := 85) cc_fn cc_used cc_fresh ?_)
        | (refine CallQ.of_ct (Step.out ?_))
      all_goals refine Again.by (i + 1, true) ⟨by dsimp only; omega, by dsimp only; omega⟩ ?_
      all_goals
        repeat' first
          | (refine Step.mk ?_; conv => whnf)
          | (refine Vc.om ?_ ?_; first | omega | with_reducible rfl | with_reducible exact same_rfl)
          | with_reducible trivial
          | (rw [h6]; exact bytes_app _ _)
          | (refine Vc.mk ?_ (Step.out ?_))
    · obtain rfl : i = l.length := by omega
      repeat' first
        | (refine Step.mk ?_; conv => whnf)
        | (refine Vc.om ?_ ?_; first | omega | with_reducible rfl | with_reducible exact same_rfl)
        | with_reducible trivial
        | (refine Br.dF ?_ ?_; omega)
        | (refine Met.by hit ?_; rintro q outs ⟨rfl, rfl⟩)
        | (refine Lf.by _ (byS_app _ _) ?_)
        | (refine Vc.om ?_ ?_; focus ((simp only [List.length_append, List.length_cons, List.length_nil]; omega); done))
        | (refine Br.dT ?_ ?_; focus ((simp only [List.length_append, List.length_cons, List.length_nil]; omega); done))
        | (refine Two.mk (Step.out ?_) (Step.out ?_))
        | (refine CallOK.inl (f := 29) (fn := Tryz.f29) hΓ hm Tryz.func29 [] [] (by kernel_rfl) (fun V => ?_))
        | (refine CallOK.inl (f := 33) (fn := Tryz.f33) hΓ hm Tryz.func33 ord33 [] (by kernel_rfl) (fun V => ?_))
        | (refine CallOK.cc (g := 65) (T := 85) cc_fn cc_used cc_fresh ?_)
        | (refine CallOK.of_ct (Step.out ?_))
end Kx
