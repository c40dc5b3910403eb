/-
  Rows of a file: sums, numbers, lines divided.
  No condition beyond those written in each theorem.
-/
import Derived.Test.YtmngcdfpanhmoaaGreatDoorKB7
import Derived.WalkKit
import Derived.Test.YtmngcdfpanhmoaaGreatDoorFC
import Derived.OwnWalkIn
import Derived.TacticsInMore
import Derived.LoopNIn
import Derived.LoopIn
import Derived.RangeFuncLeaves
import Derived.Shelf.RegionOpenPlain
open Go Sx Go.Proofs
set_option linter.unusedSimpArgs false
set_option linter.unusedVariables false
namespace Kx
def hexA : Str := [48, 49, 50, 51, 52, 53, 54, 55, 56, 57, 97, 98, 99, 100, 101, 102]
theorem dropW_all (p : UInt8 → Bool) : ∀ l : Str, (∀ c ∈ l, p c = true) → l.dropWhile p = []
  | [], _ => rfl
  | c :: l, h => by
    rw [List.dropWhile_cons, if_pos (h c (by simp))]
    exact dropW_all p l fun d hd => h d (by simp [hd])
theorem sum_hex (l : Str) : ∀ c ∈ sumS l, hexA.contains c = true := fun c hc => by
  unfold sumS hex16 at hc
  obtain ⟨i, _, rfl⟩ := List.mem_map.1 hc
  generalize hx : (sip (0, 0) (partsB [l]) / 16 ^ (15 - i) % 16).toNat = k
  have hk : k < 16 := by omega
  have : ∀ k < 16, hexA.contains (hexD2.getD k 0) = true := by decide +kernel
  exact this k hk
theorem trim_sum (l : Str) : Lib.trimS (sumS l) hexA = [] := by
  unfold Lib.trimS Lib.trimRightS
  rw [dropW_all _ _ fun c hc => sum_hex l c (by simpa using hc)]
  rfl
theorem trimx_ct (l : Str) : Ct Tryz.prog 118 [.str (sumS l), .str hexA] fun r outs => r = .str [] ∧ outs = [] := by
  have hl := sumS_len l
  refine Ct.lib (v := .string ⟨#[]⟩) ⟨Tryz.f118, Tryz.func118, by decide, by decide⟩ rfl (fun _ => ⟨rfl, rfl⟩) fun w _ => ?_
  refine (Any.strings_Trim_laid Kx.lays160 (by kernel_rfl) ⟨(sumS l).toArray⟩ ⟨hexA.toArray⟩ w (by show (sumS l).toArray.size ≤ _; simp [hl]) (by decide) (ascii_of_all (by decide))).mono ?_
  rintro e w' ⟨rfl, hb⟩
  refine ⟨?_, hb⟩
  show Ending.returned (.string ⟨(Lib.trimS (sumS l) hexA).toArray⟩) = _
  rw [trim_sum]
theorem digits_ct (l : Str) : Ct Tryz.prog 74 [.str (sumS l)] fun r outs => r = .bool true ∧ outs = [] := by
  have hl := sumS_len l
  have h1 := trimx_ct l
  unfold hexA at h1
  generalize sumS l = S at *
  refine .det (.of_W (fn := Tryz.f74) hΓ hm Tryz.func74 [] [] (by kernel_rfl) (Step.out ?_))
  repeat' first
    | (refine Step.mk ?_; conv => whnf)
    | with_reducible trivial
    | (refine Br.dT ?_ ?_; omega)
    | (refine Met.by h1 ?_; rintro q outs ⟨rfl, rfl⟩)
    | (refine Two.mk (Step.out ?_) (Step.out ?_))
    | (refine CallOK.of_ct (Step.out ?_))
set_option maxHeartbeats 1000000 in
theorem number_law (i : Nat) (hi : i < 100) (w : World) : Calls Tryz.prog 119 #[.string ⟨(itS i).toArray⟩] w fun e w' => e = .returned (.tuple #[.int .i64 i, .bool true]) ∧ RowKit.Below w.heap.size w w' := by
  have h1 : ∀ i < 100, (itS i).length ≤ 18 ∧ Lib.atoi (itS i) = some (i : Int) := by decide +kernel
  have h2 := h1 i hi
  have hl := itS_len i hi
  have cA := Kx.strconv_Atoi ⟨(itS i).toArray⟩ i (by simpa [ByteArray.size] using h2.1) h2.2
  have cI := fun w => Kx.strconv_Itoa_small i hi w
  go_enter Tryz.func119, Tryz.ntmps119
  go_wp2_with (first
    | (go_at_call 45; refine (cA _).mono ?_; rintro e w1 ⟨rfl, t, rfl⟩)
    | (go_at_call 32; refine (cI _).mono ?_; rintro e w2 ⟨rfl, hb⟩))
  have hb' : (Lib.decDigits i == itS i) = true := by show (itS i == itS i) = true; simp
  rw [hb']
  go_ret2
  exact ⟨rfl, rfl, rfl, rfl, by rw [Lib.bytesWorld_size]; omega, fun k hk => Lib.bytesWorld_at_old _ _ _ k hk⟩
theorem number_ct (i : Nat) (hi : i < 100) : Ct Tryz.prog 119 [.str (itS i)] fun r outs => r = .tup [i64 i, .lit true] ∧ outs = [] :=
  Ct.lib (v := .tuple #[.int .i64 i, .bool true]) ⟨Tryz.f119, Tryz.func119, by decide, by decide⟩ rfl (fun M => by
    simp only [Od, OdT, Rd]
    exact ⟨_, rfl, [], [], rfl, ⟨rfl, rfl⟩, [], [], rfl, ⟨rfl, rfl⟩, rfl⟩) fun w _ => number_law i hi w
/-- The words of a line. -/
def fldsL (r : Rc) : List Str := itS r.id.toNat :: itS r.ver.toNat :: r.v
theorem itS_free (i : Nat) (hi : i < 100) : ∀ c ∈ itS i, 48 ≤ c ∧ c ≤ 57 := by
  have : ∀ i < 100, (itS i).all (fun c => decide (48 ≤ c ∧ c ≤ 57)) = true := by decide +kernel
  have := this i hi
  rw [List.all_eq_true] at this
  exact fun c hc => by simpa using this c hc
theorem an_free {c : UInt8} (h : isAn c = true ∨ c = 32) : c ≠ 9 ∧ c ≠ 10 := by
  constructor <;> rintro rfl <;> rcases h with h | h <;> revert h <;> decide
theorem words_free {s : Sc} {r : Rc} (hr : r.ok s) : ∀ t ∈ fldsL r, ∀ c ∈ t, c ≠ 9 ∧ c ≠ 10 := fun t ht c hc => by
  have i1 := hr.i1; have i2 := hr.i2; have v1 := hr.v1; have v2 := hr.v2; have hn := hr.n
  have dg : ∀ c : UInt8, 48 ≤ c ∧ c ≤ 57 → c ≠ 9 ∧ c ≠ 10 := fun c h => by
    constructor <;> rintro rfl <;> revert h <;> decide
  rcases List.mem_cons.1 ht with rfl | ht
  · exact dg c (itS_free _ (by omega) c hc)
  rcases List.mem_cons.1 ht with rfl | ht
  · exact dg c (itS_free _ (by omega) c hc)
  obtain ⟨j, hj, rfl⟩ := List.getElem_of_mem ht
  have h9 := (hr.v j (by omega)).an
  rw [List.getD_eq_getElem?_getD, List.getElem?_eq_getElem hj] at h9
  exact an_free (h9 c hc)
theorem slice2_at (s : Sc) {r : Rc} {g : FuncId} {R : D → List D → Prop} (H : Ct Tryz.prog g [s.d, r.d] R) (m : Nat) (hm : m = r.v.length) (f : Nat → List D) (hf : ∀ i, i < m → f i = [.str (r.v.getD i [])]) : Ct Tryz.prog g [s.d, .agg [i64 r.id, i64 r.ver, .tab 1 m f]] R :=
  H.arg ⟨rfl, ⟨⟨rfl, fun _ _ => rfl⟩, ⟨rfl, fun _ _ => rfl⟩, ⟨rfl, fun _ _ => rfl⟩, ⟨rfl, fun _ _ => rfl⟩, trivial⟩, ⟨rfl, rfl, ⟨hm, fun i hi => hf i (by omega)⟩, trivial⟩, trivial⟩
theorem rowp_ct (s : Sc) (hs : s.ok) (r : Rc) (hr : r.ok s) : Ct Tryz.prog 75 [s.d, .str (lineS r)] fun q outs => q = .tup [r.d, i64 0] ∧ outs = [] := by
  have i1 := hr.i1; have i2 := hr.i2; have v1 := hr.v1; have v2 := hr.v2; have hn := hr.n; have n5 := hs.n5
  have hll : (joinS [9] (fldsL r)).length ≤ 100000 := by have := lineS_len hs hr; unfold lineS at this; unfold fldsL; omega
  have hs1 := split_ct 9 (fldsL r) nofun (by simp only [fldsL, List.length_cons]; omega) hll (fun t ht hc => (words_free hr t ht 9 hc).1 rfl)
  have h2 := number_ct r.id.toNat (by omega)
  have h3 := number_ct r.ver.toNat (by omega)
  rw [show ((r.id.toNat : Nat) : Int) = r.id by omega] at h2
  rw [show ((r.ver.toNat : Nat) : Int) = r.ver by omega] at h3
  have hc := slice2_at s (rcheck1_ct s hs r hr)
  have hat : ∀ i, (fldsL r).getD (2 + i) [] = r.v.getD i [] := fun i => by rw [Nat.add_comm]; rfl
  have hw : (fldsL r).length = r.v.length + 2 := rfl
  have e0 : (fldsL r).getD 0 [] = itS r.id.toNat := rfl
  have e1 : (fldsL r).getD 1 [] = itS r.ver.toNat := rfl
  rw [← e0] at h2
  rw [← e1] at h3
  rw [show lineS r = joinS [9] (fldsL r) from rfl]
  generalize fldsL r = L at *
  refine .det (.of_W (fn := Tryz.f75) hΓ hm Tryz.func75 [] [] (by kernel_rfl) (Step.out ?_))
  repeat' first
    | (refine Step.mk ?_; conv => whnf)
    | (refine Vc.om ?_ ?_; first | omega | with_reducible rfl | with_reducible exact same_rfl)
    | with_reducible trivial
    | (refine Wr.i64 ?_ ?_; omega)
    | (refine Br.dT ?_ ?_; omega)
    | (refine Met.by hs1 ?_; rintro q outs ⟨rfl, rfl⟩)
    | (refine Met.by h2 ?_; rintro q outs ⟨rfl, rfl⟩)
    | (refine Met.by h3 ?_; rintro q outs ⟨rfl, rfl⟩)
    | (refine Met.by (hc _ (show ((L.length : Int)).toNat - Int.toNat 2 = r.v.length by omega) _ fun i hi => by rw [← hat i]; rfl) ?_; rintro q outs ⟨rfl, rfl⟩)
    | (refine Br.bnot ?_)
    | (refine Two.mk (Step.out ?_) (Step.out ?_))
    | (refine CallOK.of_ct (Step.out ?_))
  exact ⟨by omega, fun i _ => by dsimp only; rw [← hat i]; rfl⟩
end Kx
/-
  record.take: one row.
-/
open Go Sx Go.Proofs
set_option linter.unusedSimpArgs false
set_option linter.unusedVariables false
namespace Kx
def rowT (r : Rc) : Str := lineS r ++ [9] ++ sumS (lineS r)
theorem sum_no9 (l : Str) : ∀ c ∈ sumS l, c ≠ 9 ∧ c ≠ 10 := fun c hc => by
  have h := sum_hex l c hc
  constructor <;> rintro rfl <;> revert h <;> decide
theorem last9 (a b : Str) (h : ∀ c ∈ b, c ≠ 9 ∧ c ≠ 10) : Lib.lastIndexByte ⟨(a ++ [9] ++ b).toArray⟩ 9 = a.length := by
  have hg : ∀ j, (a ++ [9] ++ b).toArray[j]! = (a ++ [9] ++ b).getD j 0 := fun j => by
    rw [List.getD_eq_getElem?_getD]
    rw [getElem!_def]
    simp only [List.getElem?_toArray]
    cases (a ++ [9] ++ b)[j]? <;> rfl
  rcases Lib.lastIdx_spec ⟨(a ++ [9] ++ b).toArray⟩ 9 (a ++ [9] ++ b).length with ⟨_, h2⟩ | ⟨i, hi, he, h3, h4⟩
  · have := h2 a.length (by simp)
    rw [hg] at this
    simp at this
  · have e : Lib.lastIndexByte ⟨(a ++ [9] ++ b).toArray⟩ 9 = i := by
      unfold Lib.lastIndexByte
      rw [← he]
      rfl
    rw [e]
    rw [hg] at h3
    by_cases h5 : i < a.length
    · have := h4 a.length h5 (by simp)
      rw [hg] at this
      simp at this
    by_cases h6 : a.length < i
    · exfalso
      have hib : i - a.length - 1 < b.length := by simp at hi; omega
      have : (a ++ [9] ++ b).getD i 0 = b[i - a.length - 1] := by
        rw [List.getD_eq_getElem?_getD, List.getElem?_append_right (by simp; omega)]
        simp only [List.length_append, List.length_cons, List.length_nil]
        rw [show i - (a.length + (0 + 1)) = i - a.length - 1 by omega, List.getElem?_eq_getElem hib]
        rfl
      rw [this] at h3
      have h7 := (h _ (List.getElem_mem hib)).1
      apply h7
      exact UInt8.toNat_inj.1 (by show _ = 9; omega)
    · congr 1; omega
theorem last_ct (a b : Str) (h : ∀ c ∈ b, c ≠ 9 ∧ c ≠ 10) (hl : (a ++ [9] ++ b).length ≤ 10000) : Ct Tryz.prog 73 [.str (a ++ [9] ++ b), .int .u8 9] fun r outs => r = i64 a.length ∧ outs = [] := by
  have e9 := last9 a b h
  generalize a ++ [9] ++ b = X at *
  generalize a.length = n at *
  refine Ct.lib (vs := [.string ⟨X.toArray⟩, .int .u8 9]) (v := .int .i64 n) ⟨Tryz.f73, Tryz.func73, by decide, by decide⟩ rfl (fun _ => ⟨rfl, rfl⟩) fun w _ => ?_
  have hs : (⟨X.toArray⟩ : ByteArray).size < 4611686018427387904 := by
    have e : (⟨X.toArray⟩ : ByteArray).size = X.length := rfl
    rw [e]; omega
  refine (Kx.strings_LastIndexByte ⟨X.toArray⟩ 9 hs w).mono ?_
  rintro e w' ⟨h1, h2⟩
  rw [e9] at h1
  exact ⟨h1, below_same h2⟩
theorem rowT_line (a b : Str) : ((a ++ [9] ++ b).take ((a.length : Int)).toNat).drop (Int.toNat 0) = a := by
  rw [List.append_assoc, Int.toNat_natCast, List.take_left' rfl]; rfl
theorem rowT_sum (a b : Str) (n : Int) (hn : n = (a ++ [9] ++ b).length) : ((a ++ [9] ++ b).take n.toNat).drop ((a.length : Int) + 1).toNat = b := by
  subst hn
  rw [Int.toNat_natCast, List.take_length, List.drop_left' (by simp)]
end Kx
/-
  The rows of a file: the iterator.
-/
open Go Sx Go.Proofs
set_option linter.unusedSimpArgs false
set_option linter.unusedVariables false
namespace Kx
open Go.RowKit
/-- The first row of a text, and what is behind it. -/
def cutS (s : Str) : Option (Str × Str) := if (10 : UInt8) ∈ s then some (s.take (Lib.indexByte s 10).toNat, s.drop ((Lib.indexByte s 10).toNat + 1)) else none
theorem ixb_ge (c : UInt8) : ∀ s : Str, (c ∈ s → 0 ≤ Lib.indexByte s c ∧ Lib.indexByte s c < s.length) ∧ (c ∉ s → Lib.indexByte s c = -1)
  | [] => ⟨nofun, fun _ => rfl⟩
  | x :: s => by
    obtain ⟨h1, h2⟩ := ixb_ge c s
    by_cases hx : x = c
    · subst hx
      refine ⟨fun _ => ?_, fun h => absurd (by simp) h⟩
      unfold Lib.indexByte
      simp
    · have hx' : (x == c) = false := by rwa [beq_eq_false_iff_ne]
      by_cases hs : c ∈ s
      · obtain ⟨a, b⟩ := h1 hs
        have h3 : (Lib.indexByte s c == -1) = false := by rw [beq_eq_false_iff_ne]; omega
        refine ⟨fun _ => ?_, fun h => absurd (by simp [hs]) h⟩
        unfold Lib.indexByte
        rw [hx', h3]
        simp
        omega
      · have h3 := h2 hs
        refine ⟨fun h => ?_, fun _ => ?_⟩
        · rcases List.mem_cons.1 h with h | h
          · exact absurd h.symm hx
          · exact absurd h hs
        · unfold Lib.indexByte
          rw [hx', h3]
          rfl
set_option maxHeartbeats 1000000 in
theorem cut1_law (s : Str) (hs : s.length ≤ 1000000) (w : World) : Calls Tryz.prog 116 #[.string ⟨s.toArray⟩, .string ⟨#[10]⟩] w fun e w' => (∀ row rest, cutS s = some (row, rest) → e = .returned (.tuple #[.string ⟨row.toArray⟩, .string ⟨rest.toArray⟩, .bool true])) ∧ (cutS s = none → e = .returned (.tuple #[.string ⟨s.toArray⟩, .string ⟨#[]⟩, .bool false])) ∧ ∃ n, w' = w.drewN n := by
  have cI := Kx.stringslite_Index_one ⟨s.toArray⟩ 10
  have hix := ixb_ge 10 s
  have hsz : (⟨s.toArray⟩ : ByteArray).size = s.length := rfl
  have hd : (⟨s.toArray⟩ : ByteArray).data.toList = s := rfl
  rw [hd] at cI
  unfold cutS
  by_cases h10 : (10 : UInt8) ∈ s
  · obtain ⟨c1, c2⟩ := hix.1 h10
    clear hix
    generalize Lib.indexByte s 10 = x at *
    have mixed : Tryz.prog.follows .mixedOrders = true := by kernel_rfl
    have hc2 : x ≤ (s.length : Int) := by omega
    have hc3 : 0 ≤ x + 1 := by omega
    have hc4 : x + 1 ≤ (s.length : Int) := by omega
    have hc5 : x + ((⟨#[10]⟩ : ByteArray).size : Int) ≤ (s.length : Int) := hc4
    have hc6 : 0 ≤ x + ((⟨#[10]⟩ : ByteArray).size : Int) := hc3
    simp only [if_pos h10]
    go_enter Tryz.func116, Tryz.ntmps116
    go_wp2_with (go_at_call 162; refine (cI _).mono ?_; rintro e w1 ⟨rfl, rfl⟩)
    go_region_o
    go_wp2
    go_ret3
    refine ⟨?_, nofun, 1, rfl⟩
    rintro row rest he
    obtain ⟨rfl, rfl⟩ : s.take x.toNat = row ∧ s.drop (x.toNat + 1) = rest := by simpa using he
    have e1 : (⟨s.toArray⟩ : ByteArray).extract 0 x.toNat = ⟨(s.take x.toNat).toArray⟩ := by rw [ba_extract]; rfl
    have e2 : (⟨s.toArray⟩ : ByteArray).extract (x + 1).toNat s.length = ⟨(s.drop (x.toNat + 1)).toArray⟩ := by
      rw [ba_extract, List.take_length, show (x + 1).toNat = x.toNat + 1 by omega]
    rw [← e1, ← e2]
    rfl
  · have c1 := hix.2 h10
    rw [c1] at cI
    simp only [if_neg h10]
    go_enter Tryz.func116, Tryz.ntmps116
    go_wp2_with (go_at_call 162; refine (cI _).mono ?_; rintro e w1 ⟨rfl, rfl⟩)
    go_ret3
    exact ⟨nofun, fun _ => rfl, 0, rfl⟩
theorem cut2_law (s : Str) (hs : s.length ≤ 1000000) (w : World) : Calls Tryz.prog 71 #[.string ⟨s.toArray⟩, .string ⟨#[10]⟩] w fun e w' => (∀ row rest, cutS s = some (row, rest) → e = .returned (.tuple #[.string ⟨row.toArray⟩, .string ⟨rest.toArray⟩, .bool true])) ∧ (cutS s = none → e = .returned (.tuple #[.string ⟨s.toArray⟩, .string ⟨#[]⟩, .bool false])) ∧ ∃ n, w' = w.drewN n := by
  have cC := cut1_law s hs
  cases hc : cutS s with
  | none =>
    rw [hc] at cC
    go_enter Tryz.func71, Tryz.ntmps71
    go_wp2_with (go_at_call 116; refine (cC _).mono ?_; rintro e w1 ⟨-, h2, n, rfl⟩; obtain rfl := h2 rfl)
    go_ret3
    exact ⟨nofun, fun _ => rfl, n, rfl⟩
  | some p =>
    obtain ⟨row, rest⟩ := p
    rw [hc] at cC
    go_enter Tryz.func71, Tryz.ntmps71
    go_wp2_with (go_at_call 116; refine (cC _).mono ?_; rintro e w1 ⟨h1, -, n, rfl⟩; obtain rfl := h1 _ _ rfl)
    go_ret3
    refine ⟨?_, nofun, n, rfl⟩
    rintro r t he
    cases he
    rfl
theorem below_drewN (W : World) : ∀ n, Below W.heap.size W (W.drewN n)
  | 0 => .refl _ _
  | n + 1 => by
    have := below_drewN W n
    exact this.drew
theorem cell_box {W : World} {B : Nat} {v : Value} {t : TypeId} (h : W.heap[B]? = some (.cells #[v] t (0, 0))) : W.cell? ⟨B, 0, none⟩ = some v ∧ W.frozen? ⟨B, 0, none⟩ = false := by
  constructor <;> simp [World.cell?, World.frozen?, h]
theorem cutS_len {s row rest : Str} (h : cutS s = some (row, rest)) : rest.length < s.length := by
  unfold cutS at h
  split at h
  · rename_i h10
    obtain ⟨_, rfl⟩ : _ ∧ s.drop ((Lib.indexByte s 10).toNat + 1) = rest := by simpa using h
    have := List.length_pos_of_mem h10
    simp; omega
  · cases h
open Classical in
/-- How long the text is that a world holds, for the measure. -/
noncomputable def txtLen (b : Nat) (W : World) : Nat := if h : ∃ s : Str, W.cell? ⟨b, 0, none⟩ = some (.string ⟨s.toArray⟩) then (Classical.choose h).length else 0
theorem txtLen_eq {b : Nat} {W : World} {s : Str} (h : W.cell? ⟨b, 0, none⟩ = some (.string ⟨s.toArray⟩)) : txtLen b W = s.length := by
  have hex : ∃ s : Str, W.cell? ⟨b, 0, none⟩ = some (.string ⟨s.toArray⟩) := ⟨s, h⟩
  unfold txtLen
  rw [dif_pos hex]
  have e := Classical.choose_spec hex
  generalize Classical.choose hex = t at e ⊢
  rw [h] at e
  simp only [Option.some.injEq, Value.string.injEq, ByteArray.mk.injEq] at e
  have := congrArg Array.toList e
  simp only [List.toList_toArray] at this
  rw [← this]
set_option maxRecDepth 100000 in
set_option maxHeartbeats 2000000 in
theorem rowsIt : RowsIt Tryz.prog 70 cutS := by
  refine ⟨⟨Tryz.f70, Tryz.func70, by decide, by decide⟩, fun n l b J Jm Jx s W hgrow hlen hhold hset hyield hJ => ?_⟩
  refine (callsIn_wide (n := n)).2 ((callsIn_wide (n := 5)).1 ?_)
  have hY : ∀ s row rest W, J s W → cutS s = some (row, rest) → YieldAt Fence.wide (5 - 1) Tryz.prog l #[.string ⟨row.toArray⟩, .string ⟨rest.toArray⟩] W fun e W' => (e = .returned (.bool true) ∧ Jm s rest W') ∨ (e = .returned (.bool false) ∧ Jx W') := fun s row rest W h1 h2 => by
    obtain ⟨fn, tm, asg, bo, e1, e2⟩ := hyield s row rest W h1 h2
    exact ⟨fn, tm, asg, bo, e1, e2.1, fun c cs _ => e2.2 c cs fun d h => by cases h⟩
  have f1 : Fence.wide.fn 71 := trivial
  refine callsIn_of_wp Tryz.func70 rfl trivial ?_ rfl
  simp only [Tryz.ntmps70, List.size_toArray, List.length_cons, List.length_nil, Nat.reduceAdd, Nat.reduceSub, Array.replicate_succ, Array.replicate_zero, List.push_toArray, List.append_toArray, List.nil_append, List.cons_append]
  gi_wp2
  gi_loopw [] (fun wr => ∃ s : Str, J s wr) (fun wr => txtLen b wr)
  case atStart => exact ⟨s, hJ⟩
  case round =>
    obtain ⟨s, hJs⟩ := hrel
    obtain ⟨ty, hb⟩ := hhold s wr hJs
    have hl := hlen s wr hJs
    have hcx := (cell_box hb).1
    have hmu := txtLen_eq hcx
    have cC := fun W => (callsIn_wide (n := 4)).2 (cut2_law s hl W)
    cases hc : cutS s with
    | none =>
      rw [hc] at cC
      gi_wp2_with (gi_at_call 71; refine (cC _).mono ?_; rintro e w1 ⟨-, h2, n, rfl⟩; obtain rfl := h2 rfl)
      refine ⟨nofun, ?_⟩
      gi_wp2
      (try simp only [Exit.inBlock, Exit.then])
      refine bodyPost_ret (results_none rfl _ _ _) rfl ?_
      exact ⟨⟨_, rfl⟩, .inl ⟨s, hc, hgrow _ _ _ hJs (below_drewN _ _)⟩⟩
    | some p =>
      obtain ⟨row, rest⟩ := p
      rw [hc] at cC
      have hlt := cutS_len hc
      have hY1 := fun n => hY s row rest (wr.drewN n) (hgrow _ _ _ hJs (below_drewN _ n)) hc
      gi_wp2_with (gi_at_call 71; refine (cC _).mono ?_; rintro e w1 ⟨h1, -, n, rfl⟩; obtain rfl := h1 _ _ rfl; obtain ⟨fn, tmps, assign, body, hy, hR⟩ := hY1 n)
      refine hR.mono ?_
      rintro e W3 (⟨rfl, hm⟩ | ⟨rfl, hx⟩)
      · obtain ⟨⟨ty3, hb3⟩, hJ3⟩ := hset _ _ _ hm
        have h4 := (cell_box hb3).1
        have h5 := (cell_box hb3).2
        obtain ⟨ty4, hb4⟩ := hhold _ _ hJ3
        have h6 := txtLen_eq (cell_box hb4).1
        gi_wp2
        go_roundw
        case rel => exact ⟨rest, hJ3⟩
        case measure => rw [h6, hmu]; exact hlt
      · gi_wp2
        (try simp only [Exit.inBlock, Exit.then])
        refine bodyPost_ret (results_none rfl _ _ _) rfl ?_
        exact ⟨⟨_, rfl⟩, .inr hx⟩
end Kx
/-
  record.Read.
-/
open Go Sx Go.Proofs
set_option linter.unusedSimpArgs false
set_option linter.unusedVariables false
namespace Kx
theorem rows_ct (t : Str) : Ct Tryz.prog 34 [.str t] fun r outs => r = .fn 70 [.fbox [.str t]] ∧ outs = [] := by
  refine .det (.of_W (fn := Tryz.f34) hΓ hm Tryz.func34 [] [] (by kernel_rfl) (Step.out ?_))
  repeat' first
    | (refine Step.mk ?_; conv => whnf)
    | (refine Vc.om ?_ ?_; first | omega | with_reducible rfl | with_reducible exact same_rfl)
    | with_reducible trivial
    | (refine Two.mk (Step.out ?_) (Step.out ?_))
theorem pfx_ct (a p : Str) : Ct Tryz.prog 35 [.str a, .str p] fun r outs => r = .bool (Lib.hasPrefix a p) ∧ outs = [] :=
  Ct.lib (vs := [.string ⟨a.toArray⟩, .string ⟨p.toArray⟩]) ⟨Tryz.f35, Tryz.func35, by decide, by decide⟩ rfl (fun _ => ⟨rfl, rfl⟩) fun w _ => (Kx.strings_HasPrefix ⟨a.toArray⟩ ⟨p.toArray⟩ w).mono fun _ _ ⟨h1, h2⟩ => ⟨h1, below_same h2⟩
theorem cutS_pre {t T s row rest : Str} (h : (10 : UInt8) ∉ t) (hp : s <+: t ++ 10 :: T) (hc : cutS s = some (row, rest)) : row = t ∧ s = t ++ 10 :: rest ∧ rest <+: T := by
  unfold cutS at hc
  split at hc
  · rename_i h10
    by_cases hle : s.length ≤ t.length
    · exact absurd ((List.prefix_of_prefix_length_le hp (List.prefix_append t _) hle).subset h10) h
    · obtain ⟨s', rfl⟩ := List.prefix_of_prefix_length_le (List.prefix_append t (10 :: T)) hp (by omega)
      have hp' : s' <+: 10 :: T := (List.prefix_append_right_inj t).1 hp
      cases s' with
      | nil => simp at hle
      | cons c s' =>
        obtain ⟨rfl, hp2⟩ := List.cons_prefix_cons.1 hp'
        rw [ixb_at 10 s' t h] at hc
        simp only [Option.some.injEq, Prod.mk.injEq, Int.toNat_natCast] at hc
        obtain ⟨rfl, rfl⟩ := hc
        rw [List.take_left' rfl, show t ++ 10 :: s' = t ++ [10] ++ s' by simp, List.drop_left' (by simp)]
        exact ⟨rfl, by simp, hp2⟩
  · cases hc
theorem rowT_free {s : Sc} {r : Rc} (hr : r.ok s) : (10 : UInt8) ∉ rowT r := fun h => by
  unfold rowT at h
  simp only [List.mem_append, List.mem_singleton] at h
  rcases h with (h | h) | h
  · have hj : ∀ l : List Str, (∀ t ∈ l, ∀ c ∈ t, c ≠ 9 ∧ c ≠ 10) → (10 : UInt8) ∉ joinS [9] l := by
      intro l
      cases l with
      | nil => intro _ h; cases h
      | cons x l =>
        intro hl h
        simp only [joinS, List.mem_append] at h
        rcases h with h | h
        · exact (hl x (by simp) 10 h).2 rfl
        · have : ∀ l : List Str, (∀ t ∈ l, ∀ c ∈ t, c ≠ 9 ∧ c ≠ 10) → (10 : UInt8) ∉ tailS [9] l := by
            intro l
            induction l with
            | nil => intro _ h; cases h
            | cons y l ih =>
              intro hl h
              have e : tailS [9] (y :: l) = [9] ++ y ++ tailS [9] l := by simp [tailS]
              rw [e] at h
              simp only [List.mem_append, List.mem_singleton] at h
              rcases h with (h | h) | h
              · cases h
              · exact (hl y (by simp) 10 h).2 rfl
              · exact ih (fun t ht => hl t (by simp [ht])) h
          exact this l (fun t ht => hl t (by simp [ht])) h
    exact hj _ (words_free hr) h
  · cases h
  · exact (sum_no9 _ 10 h).2 rfl
/-- What is still to come behind the first i rows. -/
def restF (l : List Rc) (i : Nat) : Str := rowsF (l.drop i) ++ endF l.length
theorem restF_step (l : List Rc) (i : Nat) (h : i < l.length) : restF l i = rowT (l.getD i Rc.z) ++ 10 :: restF l (i + 1) := by
  unfold restF
  rw [drop_step l Rc.z i h]
  simp [rowsF, rowF, rowT]
theorem restF_last (l : List Rc) : restF l l.length = ([101, 110, 100, 32] ++ itS l.length) ++ 10 :: [] := by
  unfold restF endF
  rw [List.drop_of_length_le (Nat.le_refl _)]
  simp [rowsF]
theorem fileF_split (l : List Rc) (i : Nat) : fileF l = rowsF (l.take i) ++ restF l i := by
  unfold fileF restF
  rw [← List.append_assoc, rowsF, rowsF, rowsF, ← List.flatMap_append, List.take_append_drop]
theorem end_free (n : Nat) (hn : n < 100) : (10 : UInt8) ∉ [101, 110, 100, 32] ++ itS n := fun h => by
  simp only [List.mem_append] at h
  rcases h with h | h
  · revert h; decide
  · have := itS_free n hn 10 h
    revert this; decide
theorem row_pfx (r : Rc) {s : Sc} (hr : r.ok s) : Lib.hasPrefix (rowT r) [101, 110, 100, 32] = false := by
  have i1 := hr.i1; have i2 := hr.i2
  have h1 : ∀ i < 100, (itS i).head? ≠ some 101 ∧ itS i ≠ [] := by decide +kernel
  obtain ⟨h2, h3⟩ := h1 r.id.toNat (by omega)
  unfold rowT lineS joinS
  cases hx : itS r.id.toNat with
  | nil => exact absurd hx h3
  | cons c t =>
    rw [hx] at h2
    have h4 : c ≠ 101 := fun e => h2 (by rw [e]; rfl)
    have h5 : ((101 : UInt8) == c) = false := by rw [beq_eq_false_iff_ne]; exact fun e => h4 e.symm
    simp [Lib.hasPrefix, List.isPrefixOf, h5]
theorem end_pfx (x : Str) : Lib.hasPrefix ([101, 110, 100, 32] ++ x) [101, 110, 100, 32] = true := by
  simp [Lib.hasPrefix, List.isPrefixOf]
def keysIn (lv : List Nat) : List (Nat × D) → Bool
  | [] => true
  | (t, _) :: l => match memN t lv with
    | true => keysIn lv l
    | false => false
theorem lkE_off {lv : List Nat} {t : Nat} (h : memN t lv = false) : ∀ sl : List (Nat × D), keysIn lv sl = true → lkE sl t = .any
  | [], _ => rfl
  | (k, d) :: sl, hk => by
    unfold keysIn at hk
    split at hk
    · rename_i h1
      unfold lkE
      split
      · rename_i e
        rw [Nat.eq_of_beq_eq_true e, h] at h1; cases h1
      · exact lkE_off h sl hk
    · cases hk
def setB (k : Nat) (v : Box) : List (Nat × Box) → List (Nat × Box)
  | [] => [(k, v)]
  | (t, b) :: l => match Nat.beq t k with
    | true => (t, v) :: l
    | false => (t, b) :: setB k v l
theorem lkB_setB (k : Nat) (v : Box) : ∀ bx : List (Nat × Box), upd (lkB bx) k v = lkB (setB k v bx)
  | [] => by
    funext n
    simp only [upd, setB, lkB, beq_eq]
    by_cases h : n = k
    · subst h; simp
    · simp [h, Ne.symm h, fun e : k = n => h e.symm]
  | (t, b) :: l => by
    have ih := lkB_setB k v l
    funext n
    have ih := congrFun ih n
    simp only [upd, setB, lkB, beq_eq] at ih ⊢
    by_cases h1 : t = k
    · subst h1
      simp only [decide_true]
      by_cases h : n = t
      · subst h; simp [lkB, beq_eq]
      · have h2 : ¬t = n := fun e => h e.symm
        simp only [h2, decide_false, lkB, beq_eq]
        simp only [h, decide_false]
    · simp only [h1, decide_false, lkB, beq_eq]
      by_cases h : n = k
      · subst h; simp only [h1, decide_false]; simpa using ih
      · simp only [h, decide_false] at ih ⊢; rw [ih]
/-- Between two rows: which row is next, and what is left of the text. -/
structure RdP (l : List Rc) (t : Str) (i : Nat) (x : Str) : Prop where
  le : i ≤ l.length
  p : x <+: restF l i
  n : x.length + (rowsF (l.take i)).length = t.length
theorem fread_ct (s : Sc) (hs : s.ok) (l : List Rc) (hl : RsOk s l) (t : Str) (ht : t <+: fileF l) : Ct Tryz.prog 13 [s.d, .str t] fun r outs => ∃ k : Nat × Int × Int, (k.1 ≤ l.length ∧ 0 ≤ k.2.1 ∧ k.2.1 ≤ t.length ∧ ((k.2.2 = 0 ∧ k.1 = l.length ∧ t.length = (fileF l).length) ∨ (k.2.2 = 15 ∧ t.length < (fileF l).length))) ∧ r = .tup [rcs (l.take k.1), i64 k.2.1, i64 k.2.2] ∧ outs = [] := by
  have hn := hl.n
  have htl : t.length ≤ 1000000 := by
    have h1 := ht.length_le
    have h2 := rowsF_len hs l hl.ok
    have h3 := itS_len l.length (by omega)
    unfold fileF endF at h1
    simp at h1
    omega
  refine .some (.of_W (fn := Tryz.f13) hΓ hm Tryz.func13 ord13 [] (by kernel_rfl) (Step.out ?_))
  repeat' first
    | (refine Step.mk ?_; conv => whnf)
    | (refine Br.dT ?_ ?_; omega)
    | (refine Met.by (rows_ct t) ?_; rintro q outs ⟨rfl, rfl⟩)
    | (refine Br.bnot ?_)
    | (refine CallOK.of_ct (Step.out ?_))
    | (refine Met.by (g := 22) (scheck_ct _ (by assumption)) ?_; rintro q outs ⟨rfl, rfl⟩)
  · refine CodeOK.rows (tg := 20) hΓ hm rowsIt ord13 (by kernel_rfl) (Y := Nat) [2, 3, 4, 5, 6, 8, 9, 20]
      (fun _ => [(2, .loc 0 0), (3, .loc 1 0), (4, .loc 2 0), (5, .loc 3 0), (6, .loc 4 0), (8, .loc 5 0), (9, .loc 6 0), (20, .fn 70 [.loc 7 0])])
      (fun i x => [(0, .var s.l), (1, .var [.str t]), (2, .var [.nil]), (3, .var [i64 0]), (4, .var [i64 0]), (5, .var [.own 8]), (6, .var [i64 ((rowsF (l.take i)).length : Nat)]), (7, .var [.str x]), (8, .arr 65 3 (l.take i).length fun j => ((l.take i).getD j Rc.z).l)]) 9 7
      (RdP l t) (fun y t h => lkE_off h _ rfl) (by kernel_rfl) (fun _ => rfl) (fun _ _ => rfl) (fun y x x' => lkB_setB _ _ _) ?_ ?_ ?_ ?_
    · intro i x h
      have h1 := h.n
      omega
    · refine Again.by (0, t) ⟨Nat.zero_le _, by have := ht; rw [fileF_split l 0] at this; simpa [rowsF] using this, by simp [rowsF]⟩ ?_
      repeat' first
        | (refine Step.mk ?_; conv => whnf)
        | (refine Vc.om ?_ ?_; first | omega | with_reducible rfl | with_reducible exact same_rfl)
        | with_reducible trivial
        | (refine Cho.r ?_)
        | (rfl)
        | (refine Vc.mk ?_ (Step.out ?_))
    · intro i x row rest hp hc
      by_cases hlt : i < l.length
      · have hr := hl.ok (l.getD i Rc.z) (getD_in hlt)
        obtain ⟨rfl, hx, hrest⟩ := cutS_pre (rowT_free hr) (restF_step l i hlt ▸ hp.p) hc
        have h1 := pfx_ct (rowT (l.getD i Rc.z)) [101, 110, 100, 32]
        rw [row_pfx _ hr] at h1
        have hti : (l.take i).length = i := by simp; omega
        have hgi : 0 < ((l.take i).length : Int) → ((l.take i).getD (((l.take i).length : Int) - 1).toNat Rc.z).id < (l.getD i Rc.z).id := fun h0 => by
          rw [hti] at h0 ⊢
          have := hl.asc (i - 1) (by omega)
          rw [show ((i : Int) - 1).toNat = i - 1 by omega, List.getD_eq_getElem?_getD, List.getElem?_take_of_lt (by omega), ← List.getD_eq_getElem?_getD]
          rwa [show i - 1 + 1 = i by omega] at this
        have hgn : ((l.take i).length : Int) < 64 := by rw [hti]; omega
        have g1 := last_ct (lineS (l.getD i Rc.z)) (sumS (lineS (l.getD i Rc.z))) (sum_no9 _) (by have := lineS_len hs hr; simp only [List.length_append, List.length_cons, List.length_nil, sumS_len]; omega)
        have g2 := digits_ct (lineS (l.getD i Rc.z))
        have g3 := rsum_ct (lineS (l.getD i Rc.z)) (by have := lineS_len hs hr; omega)
        have g4 := rowp_ct s hs (l.getD i Rc.z) hr
        have e1 := rowT_line (lineS (l.getD i Rc.z)) (sumS (lineS (l.getD i Rc.z)))
        have e2 := rowT_sum (lineS (l.getD i Rc.z)) (sumS (lineS (l.getD i Rc.z)))
        have hll := lineS_len hs hr
        have hsl := sumS_len (lineS (l.getD i Rc.z))
        have hid := hr.i1
        have happ := rc_app (l.take i) (l.getD i Rc.z)
        rw [← take_step l Rc.z i hlt] at happ
        have hrl : (rest.length : Int) + (rowsF (l.take (i + 1))).length = t.length := by
          have := hp.n
          rw [rowsF_snoc l i hlt]
          rw [hx] at this
          simp only [List.length_append, List.length_cons, rowF, rowT, List.length_nil] at this ⊢
          omega
        have hP : RdP l t (i + 1) rest := ⟨hlt, hrest, by omega⟩
        unfold rowT at *
        generalize lineS (l.getD i Rc.z) = L at *
        generalize sumS L = S at *
        have hL : ((L ++ [9] ++ S).length : Int) = (L.length : Int) + 17 := by simp; omega
        repeat' first
          | (refine Step.mk ?_; conv => whnf)
          | (refine Vc.om ?_ ?_; first | omega | with_reducible rfl | with_reducible exact same_rfl)
          | (refine Vc.om ?_ ?_; (simp only [bytes_2, bytes_3, bytes_4, bytes_5, bytes_9, bytes_12, bytes_21, bytes_22, bytes_25, bytes_27, bytes_28, bytes_29, bytes_30, bytes_31, bytes_32, bytes_33, bytes_35, bytes_37, bytes_38, bytes_39, bytes_41, bytes_43, bytes_49, bytes_53, bytes_54, bytes_55, bytes_60, bytes_61, bytes_62, bytes_63, bytes_64, bytes_65, bytes_74, bytes_75, bytes_82, bytes_83, bytes_84, bytes_85, bytes_95, bytes_103, bytes_104, bytes_105, bytes_125, bytes_126, bytes_127, bytes_131, bytes_150, bytes_151, bytes_152, bytes_153, bytes_154, bytes_159, bytes_167, bytes_168, bytes_181, bytes_182, bytes_190, bytes_197, bytes_210, bytes_214, bytes_215, bytes_218, bytes_251, bytes_252, bytes_254, bytes_259, bytes_260, bytes_261, bytes_269, bytes_272, bytes_279, bytes_286, bytes_287, bytes_288, bytes_289, bytes_290, bytes_294, bytes_296, bytes_302, bytes_305, bytes_307, true_and, and_true] <;> omega))
          | with_reducible trivial
          | (refine Wr.i64 ?_ ?_; omega)
          | (with_reducible refine Br.tt ?_)
          | (with_reducible refine Br.ff ?_)
          | (refine Br.dT ?_ ?_; omega)
          | (refine Br.dF ?_ ?_; omega)
          | (refine Met.by h1 ?_; rintro q outs ⟨rfl, rfl⟩)
          | (refine CallOK.inl (f := 36) (fn := Tryz.f36) hΓ hm Tryz.func36 ord36 [] (by kernel_rfl) (fun V => ?_))
          | (refine Met.by g1 ?_; rintro q outs ⟨rfl, rfl⟩)
          | (rw [e2 _ rfl])
          | (rw [e1])
          | (refine Met.by g2 ?_; rintro q outs ⟨rfl, rfl⟩)
          | (refine Met.by g3 ?_; rintro q outs ⟨rfl, rfl⟩)
          | (refine Met.by g4 ?_; rintro q outs ⟨rfl, rfl⟩)
          | (refine Br.d (fun h => ?_) (fun h => ?_))
          | (refine Br.swap ?_)
          | (refine Br.bnot ?_)
          | (refine Two.mk (Step.out ?_) (Step.out ?_))
          | (refine CallOK.of_ct (Step.out ?_))
          | (refine CallQ.of_ct (Step.out ?_))
        all_goals
          refine Again.by (i + 1) hP ?_
          repeat' first
            | (refine Step.mk ?_; conv => whnf)
            | (refine Vc.om ?_ ?_; first | omega | with_reducible rfl | with_reducible exact same_rfl)
            | with_reducible trivial
            | (refine Cho.r ?_)
            | (exact happ)
            | (refine Vc.mk ?_ (Step.out ?_))
      · obtain rfl : i = l.length := by have := hp.le; omega
        obtain ⟨rfl, hx, hrest⟩ := cutS_pre (end_free l.length (by omega)) (restF_last l ▸ hp.p) hc
        obtain rfl : rest = [] := List.prefix_nil.1 hrest
        have h1 := pfx_ct ([101, 110, 100, 32] ++ itS l.length) [101, 110, 100, 32]
        rw [end_pfx] at h1
        have hti : (l.take l.length).length = l.length := by simp
        have h2 := itoa_ct l.length (by omega)
        have hil := itS_len l.length (by omega)
        have hfin : t.length = (fileF l).length := by
          have := hp.n
          rw [fileF_split l l.length, restF_last, List.length_append, ← hp.n, hx]
          omega
        repeat' first
          | (refine Step.mk ?_; conv => whnf)
          | with_reducible trivial
          | (with_reducible refine Br.tt ?_)
          | (refine Met.by h1 ?_; rintro q outs ⟨rfl, rfl⟩)
          | (refine Br.d (fun h => ?_) (fun h => ?_))
          | (refine Br.swap ?_)
          | (refine Br.bnot ?_)
          | (refine Two.mk (Step.out ?_) (Step.out ?_))
          | (refine CallOK.of_ct (Step.out ?_))
          | (refine Met.by (g := 32) (itoa_ct _ (by omega)) ?_; rintro q outs ⟨rfl, rfl⟩)
          | (refine Vc.mk ?_ (Step.out ?_))
        all_goals first
          | (show 4 + _ ≤ _; rw [hti]; omega)
          | exact absurd (by first | (rw [hti]; done) | (rw [hti]; rfl)) h
          | exact absurd rfl h
          | skip
        all_goals
          refine Lf.by (l.length, (t.length : Int), 0) ⟨Nat.le_refl _, by dsimp only; omega, Int.le_refl _, .inl ⟨rfl, rfl, hfin⟩⟩ ?_
          repeat' first
            | (refine Step.mk ?_; conv => whnf)
            | with_reducible trivial
            | with_reducible exact same_rfl
            | (refine Two.mk (Step.out ?_) (Step.out ?_))
    · intro i x hp hc
      have hlen : t.length < (fileF l).length := by
        have h1 := hp.n
        have h2 := hp.p.length_le
        have h3 : (fileF l).length = (rowsF (l.take i)).length + (restF l i).length := by rw [← List.length_append, ← fileF_split]
        rcases Nat.lt_or_ge x.length (restF l i).length with h4 | h4
        · omega
        · have h5 : x = restF l i := hp.p.eq_of_length (by omega)
          have h6 : (10 : UInt8) ∈ x := by
            rw [h5]
            unfold restF endF
            simp
          unfold cutS at hc
          rw [if_pos h6] at hc
          cases hc
      have hp1 := hp.n
      have hp2 := hp.le
      repeat' first
        | (refine Step.mk ?_; conv => whnf)
        | (refine Two.mk (Step.out ?_) (Step.out ?_))
      all_goals
        refine Lf.by (i, ((rowsF (l.take i)).length : Int), 15) ⟨hp2, by dsimp only; omega, by dsimp only; omega, .inr ⟨rfl, hlen⟩⟩ ?_
        repeat' first
          | (refine Step.mk ?_; conv => whnf)
          | with_reducible trivial
          | with_reducible exact same_rfl
          | (refine Two.mk (Step.out ?_) (Step.out ?_))
end Kx
