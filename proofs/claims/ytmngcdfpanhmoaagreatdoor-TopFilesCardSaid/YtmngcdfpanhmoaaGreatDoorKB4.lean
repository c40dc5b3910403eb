/-
  Arrays of bits as hexadecimal digits.
  No condition beyond those written in each theorem.
-/
import Derived.Test.YtmngcdfpanhmoaaGreatDoorKB3
import Derived.Test.YtmngcdfpanhmoaaGreatDoorKB1
import Derived.Laws.Bits64b
import Derived.Test.YtmngcdfpanhmoaaGreatDoorKA2
import Derived.Test.YtmngcdfpanhmoaaGreatDoorFD
open Go Sx Go.Proofs
set_option linter.unusedSimpArgs false
set_option linter.unusedVariables false
namespace Kx
theorem bitI_nat (a b : Nat) (ha : a < 18446744073709551616) (hb : b < 18446744073709551616) : bitI .and .u64 (a : Int) (b : Int) = ((a &&& b : Nat) : Int) ∧ bitI .or .u64 (a : Int) (b : Int) = ((a ||| b : Nat) : Int) :=
  ⟨bits_and_u64_nat a b ha hb, bits_or_u64_nat a b ha hb⟩
theorem and15 (x : Int) (h : U64 x) : bitI .and .u64 x 15 = x % 16 := by
  obtain ⟨n, rfl⟩ := Int.eq_ofNat_of_zero_le h.1
  have h2 := h.2
  have := (bitI_nat n 15 (by omega) (by omega)).1
  rw [show (15 : Int) = ((15 : Nat) : Int) from rfl, this, show (15 : Nat) = 2 ^ 4 - 1 from rfl, Nat.and_two_pow_sub_one_eq_mod]
  omega
theorem or_lo (a v : Int) (h0 : 0 ≤ a) (h1 : a < 1152921504606846976) (h2 : 0 ≤ v) (h3 : v < 16) : bitI .or .u64 (16 * a) v = 16 * a + v := by
  obtain ⟨n, rfl⟩ := Int.eq_ofNat_of_zero_le h0
  obtain ⟨m, rfl⟩ := Int.eq_ofNat_of_zero_le h2
  have := (bitI_nat (2 ^ 4 * n) m (by omega) (by omega)).2
  rw [show (16 : Int) * (n : Int) = ((2 ^ 4 * n : Nat) : Int) by omega, this, ← Nat.two_pow_add_eq_or_of_lt (by omega)]
  omega
/-- The first j digits of a word are those of this number. -/
def hiP (x : Int) (j : Nat) : Int := x / 16 ^ (16 - j)
def nibP (x : Int) (j : Nat) : Int := hiP x (j + 1) % 16
def hexD : Str := [48, 49, 50, 51, 52, 53, 54, 55, 56, 57, 97, 98, 99, 100, 101, 102]
def hxc (x : Int) (j : Nat) : UInt8 := hexD.getD (nibP x j).toNat 0
def hexL (w : List Int) : Str := (List.range (16 * w.length)).map fun i => hxc (w.getD (i / 16) 0) (i % 16)
theorem hexL_len (w : List Int) : (hexL w).length = 16 * w.length := by simp [hexL]
theorem hexL_at (w : List Int) (i : Nat) (h : i < 16 * w.length) : (hexL w).getD i 0 = hxc (w.getD (i / 16) 0) (i % 16) := by simp [hexL, List.getD, h]
theorem hiP_in {x : Int} (h : U64 x) (j : Nat) : U64 (hiP x j) := by
  have h1 : (0 : Int) < 16 ^ (16 - j) := Int.pow_pos (by decide)
  refine ⟨Int.ediv_nonneg h.1 (Int.le_of_lt h1), Int.le_trans (Int.ediv_le_self _ h.1) h.2⟩
theorem hiP_zero {x : Int} (h : U64 x) : hiP x 0 = 0 := by
  have h1 := h.1; have h2 := h.2
  exact Int.ediv_eq_zero_of_lt h1 (by show x < 18446744073709551616; omega)
theorem hiP_all (x : Int) : hiP x 16 = x := by simp [hiP]
theorem hiP_succ {x : Int} (h : U64 x) (j : Nat) (hj : j < 16) : hiP x (j + 1) = 16 * hiP x j + nibP x j := by
  unfold nibP
  have e : hiP x j = hiP x (j + 1) / 16 := by
    unfold hiP
    rw [Int.ediv_ediv_of_nonneg (Int.le_of_lt (Int.pow_pos (by decide))), ← Int.pow_succ]
    congr 2; omega
  rw [e]; omega
theorem hiP_lo {x : Int} (h : U64 x) (j : Nat) (hj : j < 16) : hiP x j < 1152921504606846976 := by
  have h1 := hiP_succ h j hj
  have h2 := (hiP_in h (j + 1)).2
  have h3 : 0 ≤ nibP x j := by unfold nibP; omega
  omega
theorem nib_is {x : Int} (h : U64 x) (j : Nat) (hj : j < 16) : bitI .and .u64 (x.fdiv (2 ^ (min (60 - 4 * (j : Int)).toNat IntKind.u64.bits))) 15 = nibP x j := by
  have e : x.fdiv (2 ^ (min (60 - 4 * (j : Int)).toNat IntKind.u64.bits)) = hiP x (j + 1) := by
    rw [Int.fdiv_eq_ediv_of_nonneg _ (Int.le_of_lt (Int.pow_pos (by decide)))]
    unfold hiP
    congr 1
    rw [show (16 : Int) = 2 ^ 4 from rfl, ← Int.pow_mul]
    congr 1
    show min _ 64 = _
    omega
  rw [e, and15 _ (hiP_in h _)]; rfl
theorem nib_in (x : Int) (j : Nat) : 0 ≤ nibP x j ∧ nibP x j < 16 := by unfold nibP; omega
/-- The words of a valid array. -/
structure WOk (w : Int × List Int) : Prop where
  L : LenOk w.1
  n : w.2.length = (w.1 / 64).toNat
  u : ∀ i, i < w.2.length → U64 (w.2.getD i 0)
theorem WOk.b {w : Int × List Int} (h : WOk w) : (Bs.mk w.1 w.2).ok := ⟨h.L, h.n⟩
theorem WOk.le {w : Int × List Int} (h : WOk w) : 1 ≤ w.2.length ∧ w.2.length ≤ 3 := by
  have := len_pos h.L; have := h.n; omega
theorem validW_ct (w : Int × List Int) (h : WOk w) : Ct Tryz.prog 83 [bitD w] fun r outs => r = .bool true ∧ outs = [] := bvalid_ct ⟨w.1, w.2⟩ h.b
theorem hx_step (w : List Int) (hu : ∀ i, i < w.length → U64 (w.getD i 0)) (k j : Nat) (hk : k < w.length) (hj : j < 16) (m : Nat) (hm : m = 16 * k + j) :
    (hexL w).getD m 0 = hexD.getD (bitI .and .u64 ((w.getD k 0).fdiv (2 ^ (min (60 - 4 * (j : Int)).toNat IntKind.u64.bits))) 15).toNat 0 := by
  rw [hexL_at _ _ (by omega), nib_is (hu k hk) j hj, hxc, show m / 16 = k by omega, show m % 16 = j by omega]
theorem bytes_one (H : Str) (m : Nat) (c : UInt8) (hc : H.getD m 0 = c) (i : Nat) (hi : i < m + 1) : iteL (i < m) (bytesF H i) (selC [[D.int .u8 c.toNat]] (i - m)) = bytesF H i := by
  by_cases h : i < m
  · rw [iteL_same rfl, if_pos h]
  · obtain rfl : i = m := by omega
    rw [Nat.sub_self, iteL_same rfl, if_neg h, ← hc]; rfl
theorem hexh_ct (w : Int × List Int) (h : WOk w) : Ct Tryz.prog 42 [bitD w] fun r outs => r = .tup [.str (hexL w.2), i64 0] ∧ outs = [] := by
  have h1 := validW_ct w h
  have hu := h.u
  have hle := h.le
  have hl := hexL_len w.2
  have hst := hx_step w.2 hu
  have hnb := fun k hk j hj => nib_is (hu k hk) j hj
  generalize hH : hexL w.2 = H at *
  refine .det (.of_W (fn := Tryz.f42) hΓ hm Tryz.func42 [] [] (by kernel_rfl) (Step.out ?_))
  repeat' first
    | (refine Step.mk ?_; conv => whnf)
    | (with_reducible refine Br.tt ?_)
    | (refine Met.by h1 ?_; rintro q outs ⟨rfl, rfl⟩)
    | (refine Br.bnot ?_)
    | (refine CallOK.of_ct (Step.out ?_))
  refine CodeOK.loopW hΓ hm [] [] (by kernel_rfl) (α := Nat) (fun k => [(4, .own 0), (12, u64s w.2), (13, i64 w.2.length), (14, i64 k)]) (fun k => [(0, .arr 5 1 (16 * k) (bytesF H))]) 1 (fun k => k ≤ w.2.length) (fun k => w.2.length - k) ?_ ?_
  · refine Again.by 0 (Nat.zero_le _) ?_
    repeat' first
      | (refine Step.mk ?_; conv => whnf)
      | (refine Vc.om ?_ ?_; first | omega | with_reducible rfl | with_reducible exact same_rfl)
      | with_reducible trivial
  · intro k hk
    repeat' first
      | (refine Step.mk ?_; conv => whnf)
      | (refine Vc.om ?_ ?_; first | omega | with_reducible rfl | with_reducible exact same_rfl)
      | (refine Br.d (fun h => ?_) (fun h => ?_))
    · refine CodeOK.loopW hΓ hm [] [] (by kernel_rfl) (α := Nat) (fun j => [(4, .own 0), (6, u64 (w.2.getD k 0)), (7, i64 (60 - 4 * (j : Int))), (12, u64s w.2), (13, i64 w.2.length), (14, i64 k)]) (fun j => [(0, .arr 5 1 (16 * k + j) (bytesF H))]) 1 (fun j => j ≤ 16) (fun j => 16 - j) ?_ ?_
      · refine Again.by 0 (Nat.zero_le _) ?_
        repeat' first
          | (refine Step.mk ?_; conv => whnf)
          | (refine Vc.om ?_ ?_; first | omega | with_reducible rfl | with_reducible exact same_rfl)
          | with_reducible trivial
          | (rfl)
          | (exact ⟨rfl, fun _ _ => rfl⟩)
          | (refine Vc.mk ?_ (Step.out ?_))
      · intro j hj
        have hr := fun h : j < 16 => (show 0 ≤ bitI .and .u64 ((w.2.getD k 0).fdiv (2 ^ (min (60 - 4 * (j : Int)).toNat IntKind.u64.bits))) 15 ∧ bitI .and .u64 ((w.2.getD k 0).fdiv (2 ^ (min (60 - 4 * (j : Int)).toNat IntKind.u64.bits))) 15 < 16 from by rw [hnb k (by omega) j h]; exact nib_in _ _)
        repeat' first
          | (refine Step.mk ?_; conv => whnf)
          | (refine Vc.om ?_ ?_; first | omega | with_reducible rfl | with_reducible exact same_rfl)
          | (refine Vc.om ?_ ?_; (simp only [bytes_2, bytes_3, bytes_4, bytes_5, bytes_9, bytes_12, bytes_21, bytes_22, bytes_25, bytes_27, bytes_28, bytes_29, bytes_30, bytes_31, bytes_32, bytes_33, bytes_35, bytes_37, bytes_38, bytes_39, bytes_41, bytes_43, bytes_49, bytes_53, bytes_54, bytes_55, bytes_60, bytes_61, bytes_62, bytes_63, bytes_64, bytes_65, bytes_74, bytes_75, bytes_82, bytes_83, bytes_84, bytes_85, bytes_95, bytes_103, bytes_104, bytes_105, bytes_125, bytes_126, bytes_127, bytes_131, bytes_150, bytes_151, bytes_152, bytes_153, bytes_154, bytes_159, bytes_167, bytes_168, bytes_181, bytes_182, bytes_190, bytes_197, bytes_210, bytes_214, bytes_215, bytes_218, bytes_251, bytes_252, bytes_254, bytes_259, bytes_260, bytes_261, bytes_269, bytes_272, bytes_279, bytes_286, bytes_287, bytes_288, bytes_289, bytes_290, bytes_294, bytes_296, bytes_302, bytes_305, bytes_307, true_and, and_true] <;> omega))
          | (refine Wr.i64 ?_ ?_; omega)
          | (exact hr (by omega))
          | (refine Br.d (fun h => ?_) (fun h => ?_))
          | (refine Vc.mk ?_ (Step.out ?_))
        · refine Again.by (j + 1) ⟨by omega, by omega⟩ ?_
          have hs := hst k j (by omega) (by omega) (16 * k + j) rfl
          repeat' first
            | (refine Step.mk ?_; conv => whnf)
            | (refine Vc.om ?_ ?_; first | omega | with_reducible rfl | with_reducible exact same_rfl)
            | with_reducible trivial
            | (exact ⟨rfl, fun i hi => bytes_one H (16 * k + j) _ hs i (by omega)⟩)
            | (refine Vc.mk ?_ (Step.out ?_))
        · refine Again.by (k + 1) ⟨by omega, by omega⟩ ?_
          obtain rfl : j = 16 := by omega
          repeat' first
            | (refine Step.mk ?_; conv => whnf)
            | (refine Vc.om ?_ ?_; first | omega | with_reducible rfl | with_reducible exact same_rfl)
            | with_reducible trivial
            | (exact ⟨rfl, fun _ _ => rfl⟩)
            | (refine Vc.mk ?_ (Step.out ?_))
    · refine Lf.by H ⟨by omega, fun _ _ => rfl⟩ ?_
      repeat' first
        | (refine Step.mk ?_; conv => whnf)
        | with_reducible trivial
        | (refine Two.mk (Step.out ?_) (Step.out ?_))
theorem hexh0_ct : Ct Tryz.prog 42 [bitD (0, [])] fun r outs => r = .tup [.str [], i64 8] ∧ outs = [] := by
  refine .det (.of_W (fn := Tryz.f42) hΓ hm Tryz.func42 [] [] (by kernel_rfl) (Step.out ?_))
  repeat' first
    | (refine Step.mk ?_; conv => whnf)
    | with_reducible trivial
    | (with_reducible refine Br.ff ?_)
    | (refine Met.by bvalid0_ct ?_; rintro q outs ⟨rfl, rfl⟩)
    | (refine Br.bnot ?_)
    | (refine Two.mk (Step.out ?_) (Step.out ?_))
    | (refine CallOK.of_ct (Step.out ?_))
theorem value_ct (x : Int) (j : Nat) : Ct Tryz.prog 89 [.int .u8 (hxc x j).toNat] fun r outs => r = .tup [u64 (nibP x j), .bool true] ∧ outs = [] := by
  have hn := nib_in x j
  have hc : ((hxc x j).toNat : Int) = if nibP x j < 10 then 48 + nibP x j else 87 + nibP x j := by
    unfold hxc
    generalize nibP x j = n at *
    obtain ⟨m, rfl⟩ := Int.eq_ofNat_of_zero_le hn.1
    have hm : m < 16 := by omega
    rcases m with _ | _ | _ | _ | _ | _ | _ | _ | _ | _ | _ | _ | _ | _ | _ | _ | m <;> first | rfl | omega
  generalize hcc : ((hxc x j).toNat : Int) = c at *
  by_cases h : nibP x j < 10
  · rw [if_pos h] at hc
    subst hc
    refine .det (.of_W (fn := Tryz.f89) hΓ hm Tryz.func89 [] [] (by kernel_rfl) (Step.out ?_))
    repeat' first
      | (refine Step.mk ?_; conv => whnf)
      | with_reducible trivial
      | (refine Wr.u8 ?_ ?_; omega)
      | (refine Br.dT ?_ ?_; omega)
      | (refine Wr.raw ?_; rw [wu _ (by omega)])
      | (refine Two.mk (Step.out ?_) (Step.out ?_))
    all_goals (congr 1; omega)
  · rw [if_neg h] at hc
    subst hc
    refine .det (.of_W (fn := Tryz.f89) hΓ hm Tryz.func89 [] [] (by kernel_rfl) (Step.out ?_))
    repeat' first
      | (refine Step.mk ?_; conv => whnf)
      | with_reducible trivial
      | (refine Wr.u8 ?_ ?_; omega)
      | (refine Br.dT ?_ ?_; omega)
      | (refine Br.dF ?_ ?_; omega)
      | (refine Wr.raw ?_; rw [wu _ (by omega)])
      | (refine Two.mk (Step.out ?_) (Step.out ?_))
    all_goals (congr 1; omega)
/-- The words when m digits are read. -/
def wdP (w : List Int) (m i : Nat) : Int := hiP (w.getD i 0) (min 16 (m - 16 * i))
theorem wdP_zero (w : List Int) (hu : ∀ i, i < w.length → U64 (w.getD i 0)) (i : Nat) (hi : i < w.length) : wdP w 0 i = 0 := by
  unfold wdP
  rw [show min 16 (0 - 16 * i) = 0 by omega, hiP_zero (hu i hi)]
theorem wdP_all (w : List Int) (i : Nat) (hi : i < w.length) : wdP w (16 * w.length) i = w.getD i 0 := by
  unfold wdP
  rw [show min 16 (16 * w.length - 16 * i) = 16 by omega, hiP_all]
theorem wdP_ne (w : List Int) (m i : Nat) (h : i ≠ m / 16) : wdP w (m + 1) i = wdP w m i := by
  unfold wdP
  rw [show min 16 (m + 1 - 16 * i) = min 16 (m - 16 * i) by omega]
theorem wdP_at (w : List Int) (hu : ∀ i, i < w.length → U64 (w.getD i 0)) (m : Nat) (h : m / 16 < w.length) : wdP w (m + 1) (m / 16) = bitI .or .u64 (IntKind.u64.wrap (wdP w m (m / 16) * 2 ^ (min (Int.toNat 4) IntKind.u64.bits))) (nibP (w.getD (m / 16) 0) (m % 16)) := by
  unfold wdP
  rw [show min 16 (m + 1 - 16 * (m / 16)) = m % 16 + 1 by omega, show min 16 (m - 16 * (m / 16)) = m % 16 by omega]
  have hx := hu _ h
  generalize w.getD (m / 16) 0 = x at *
  have h1 := hiP_lo hx (m % 16) (by omega)
  have h0 := (hiP_in hx (m % 16)).1
  have hn := nib_in x (m % 16)
  rw [hiP_succ hx _ (by omega), show hiP x (m % 16) * 2 ^ (min (Int.toNat 4) IntKind.u64.bits) = 16 * hiP x (m % 16) from Int.mul_comm _ 16, show IntKind.u64.wrap (16 * hiP x (m % 16)) = 16 * hiP x (m % 16) from wu _ (by omega), or_lo _ _ h0 h1 hn.1 hn.2]
theorem wd_set (w : List Int) (hu : ∀ i, i < w.length → U64 (w.getD i 0)) (i : Nat) (hi : i < 16 * w.length) : ∀ j, j < w.length →
    iteL (j = ((i : Int) / 16).toNat) [u64 (bitI .or .u64 (IntKind.u64.wrap (wdP w i ((i : Int) / 16).toNat * 2 ^ (min (Int.toNat 4) IntKind.u64.bits))) (nibP (w.getD (i / 16) 0) (i % 16)))] [u64 (wdP w i j)] = [u64 (wdP w (i + 1) j)] := fun j hj => by
  rw [show ((i : Int) / 16).toNat = i / 16 by omega, iteL_same rfl]
  split
  · rename_i h
    subst h
    rw [wdP_at w hu i hj]
  · rename_i h
    rw [wdP_ne w i j h]
theorem dig_ct (w : List Int) (i : Nat) (hi : i < 16 * w.length) : Ct Tryz.prog 89 [.int .u8 ((hexL w).getD i 0).toNat] fun r outs => r = .tup [u64 (nibP (w.getD (i / 16) 0) (i % 16)), .bool true] ∧ outs = [] := by
  rw [hexL_at _ _ hi]; exact value_ct _ _
set_option maxHeartbeats 1000000 in
theorem bparse_ct (w : Int × List Int) (h : WOk w) : Ct Tryz.prog 48 [.str (hexL w.2)] fun r outs => r = .tup [bitD w, i64 0] ∧ outs = [] := by
  have hu := h.u
  have hle := h.le
  have hl := hexL_len w.2
  have hL := len_pos h.L
  have hn := h.n
  have h64 : w.1 % 64 = 0 := by rcases h.L with e | e | e <;> rw [e] <;> rfl
  have hd := dig_ct w.2
  have hz := wdP_zero w.2 hu
  have hall := wdP_all w.2
  have hne := wdP_ne w.2
  have hat := wdP_at w.2 hu
  generalize hH : hexL w.2 = H at *
  have hnew := bnew_ct (4 * (H.length : Int)) (by rw [show 4 * (H.length : Int) = w.1 by omega]; exact h.L)
  refine .det (.of_W (fn := Tryz.f48) hΓ hm Tryz.func48 ord48 [] (by kernel_rfl) (Step.out ?_))
  repeat' first
    | (refine Step.mk ?_; conv => whnf)
    | (refine Wr.i64 ?_ ?_; omega)
    | (refine Br.dT ?_ ?_; omega)
    | (refine Met.by hnew ?_; rintro q outs ⟨rfl, rfl⟩)
    | (refine Br.bnot ?_)
    | (refine CallOK.of_ct (Step.out ?_))
  refine CodeOK.loopW hΓ hm ord48 [] (by kernel_rfl) (α := Nat) (fun i => [(0, .str H), (2, .loc 0 0), (4, .loc 1 0), (20, i64 H.length), (21, i64 i)]) (fun i => [(0, .var [i64 0, .nil]), (1, .var [i64 w.1, .own 2]), (2, .arr 37 1 w.2.length fun j => [u64 (wdP w.2 i j)])]) 3 (fun i => i ≤ H.length) (fun i => H.length - i) ?_ ?_
  · refine Again.by 0 (Nat.zero_le _) ?_
    repeat' first
      | (refine Step.mk ?_; conv => whnf)
      | (refine Vc.om ?_ ?_; first | omega | with_reducible rfl | with_reducible exact same_rfl)
      | with_reducible trivial
      | (refine Vc.mk ?_ (Step.out ?_))
    exact ⟨by rw [List.length_replicate]; omega, fun j hj => by dsimp only; rw [hz j hj]; congr 1; congr 1; rw [List.getD_eq_getElem?_getD, List.getElem?_replicate]; split <;> rfl⟩
  · intro i hi
    repeat' first
      | (rw [Int.tdiv_eq_ediv_of_nonneg (by omega)])
      | (refine Step.mk ?_; conv => whnf)
      | (refine Vc.om ?_ ?_; first | omega | with_reducible rfl | with_reducible exact same_rfl)
      | with_reducible trivial
      | (refine Wr.i64 ?_ ?_; omega)
      | (with_reducible refine Br.tt ?_)
      | (refine Met.by (hd i (by omega)) ?_; rintro q outs ⟨rfl, rfl⟩)
      | (refine Wr.raw ?_)
      | (refine Br.d (fun h => ?_) (fun h => ?_))
      | (refine Br.bnot ?_)
      | (refine Two.mk (Step.out ?_) (Step.out ?_))
      | (refine CallOK.of_ct (Step.out ?_))
    · refine Again.by (i + 1) ⟨by omega, by omega⟩ ?_
      repeat' first
        | (refine Step.mk ?_; conv => whnf)
        | (refine Vc.om ?_ ?_; first | omega | with_reducible rfl | with_reducible exact same_rfl)
        | with_reducible trivial
        | (exact ⟨rfl, wd_set w.2 hu i (by omega)⟩)
        | (refine Vc.mk ?_ (Step.out ?_))
    · exact ⟨rfl, fun j hj => by dsimp only; rw [show i = 16 * w.2.length by omega, hall j hj]⟩
end Kx
/-
  Texts divided at a byte.
-/
open Go Sx Go.Proofs
set_option linter.unusedSimpArgs false
set_option linter.unusedVariables false
namespace Kx
theorem ixb_at (c : UInt8) (rest : Str) : ∀ t : Str, c ∉ t → Lib.indexByte (t ++ c :: rest) c = t.length
  | [], _ => by simp [Lib.indexByte]
  | x :: t, h => by
    have h1 := ixb_at c rest t fun h2 => h (by simp [h2])
    have h2 : (x == c) = false := by
      rw [beq_eq_false_iff_ne]; rintro rfl; exact h (by simp)
    rw [List.cons_append]
    unfold Lib.indexByte
    rw [h1, h2]
    have h3 : ((t.length : Int) == -1) = false := by rw [beq_eq_false_iff_ne]; omega
    rw [h3]
    simp
theorem joinS_two (c : UInt8) (x y : Str) (l : List Str) : joinS [c] (x :: y :: l) = x ++ c :: joinS [c] (y :: l) := by simp [joinS, tailS]
theorem cnt_join (c : UInt8) : ∀ (l : List Str), (∀ t ∈ l, c ∉ t) → (joinS [c] l).count c = l.length - 1
  | [], _ => rfl
  | [x], h => by
    simp only [joinS, tailS, List.map_nil, List.flatten_nil, List.append_nil, List.length_singleton]
    exact List.count_eq_zero.2 (h x (by simp))
  | x :: y :: l, h => by
    have := cnt_join c (y :: l) fun t ht => h t (by simp at ht ⊢; exact .inr ht)
    rw [joinS_two, List.count_append, List.count_cons_self, this, List.count_eq_zero.2 (h x (by simp))]
    simp
theorem index1_ct (s : Str) (c : UInt8) : Ct Tryz.prog 128 [.str s, .str [c]] fun r outs => r = i64 (Lib.indexByte s c) ∧ outs = [] :=
  Ct.lib ⟨Tryz.f128, Tryz.func128, by decide, by decide⟩ rfl (fun _ => by simp [Od, Rd]) fun w _ => (Kx.strings_Index_one ⟨s.toArray⟩ c w).mono fun _ _ ⟨h1, h2⟩ => ⟨h1, below_same h2⟩
theorem count1_ct (s : Str) (c : UInt8) : Ct Tryz.prog 127 [.str s, .str [c]] fun r outs => r = i64 (s.count c : Nat) ∧ outs = [] :=
  Ct.lib ⟨Tryz.f127, Tryz.func127, by decide, by decide⟩ rfl (fun _ => ⟨rfl, rfl⟩) fun w _ => (Kx.strings_Count_one ⟨s.toArray⟩ c w).mono fun _ _ ⟨h1, h2⟩ => ⟨h1, below_same h2⟩
/-- The texts behind the first i. -/
def restS (c : UInt8) (l : List Str) (i : Nat) : Str := joinS [c] (l.drop i)
theorem rest_step (c : UInt8) (l : List Str) (i : Nat) (h : i + 1 < l.length) : restS c l i = l.getD i [] ++ c :: restS c l (i + 1) := by
  rw [restS, drop_step l [] i (by omega), drop_step l [] (i + 1) h, joinS_two, restS, drop_step l [] (i + 1) h]
theorem rest_last (c : UInt8) (l : List Str) (i : Nat) (h : i + 1 = l.length) : restS c l i = l.getD i [] := by
  rw [restS, drop_step l [] i (by omega), List.drop_of_length_le (by omega)]
  simp [joinS, tailS]
theorem tail_drop (c : UInt8) : ∀ (l : List Str) (i : Nat), (joinS [c] (l.drop i)).length ≤ (joinS [c] l).length
  | [], i => by simp
  | x :: l, 0 => Nat.le_refl _
  | [x], i + 1 => by simp [joinS]
  | x :: y :: l, i + 1 => by
    refine Nat.le_trans (tail_drop c (y :: l) i) ?_
    rw [joinS_two]; simp; omega
theorem rest_le (c : UInt8) (l : List Str) (i : Nat) : (restS c l i).length ≤ (joinS [c] l).length := tail_drop c l i
theorem str_set (l : List Str) (i k : Nat) (x : Str) (hk : k = i) (hx : x = l.getD i []) {n : Nat} : ∀ j, j < n → iteL (j = k) [.str x] [.str (if j < i then l.getD j [] else [])] = [.str (if j < i + 1 then l.getD j [] else [])] := fun j _ => by
  subst hk hx
  rw [iteL_same rfl]
  by_cases h : j = k
  · subst h; rw [if_pos rfl, if_pos (by omega)]
  · rw [if_neg h]
    by_cases h2 : j < k
    · rw [if_pos h2, if_pos (by omega)]
    · rw [if_neg h2, if_neg (by omega)]
theorem cut_at (c : UInt8) {s t r : Str} (h : s = t ++ c :: r) : (s.take ((t.length : Int) + 0).toNat).drop (Int.toNat 0) = t := by
  subst h
  rw [show ((t.length : Int) + 0).toNat = t.length by omega]
  simp
theorem cut_tail (c : UInt8) {s t r : Str} (h : s = t ++ c :: r) : (s.take ((s.length : Int)).toNat).drop ((t.length : Int) + ([c].length : Nat)).toNat = r := by
  rw [show ((t.length : Int) + ([c].length : Nat)).toNat = t.length + 1 by simp only [List.length_cons, List.length_nil]; omega, show ((s.length : Int)).toNat = s.length by omega, List.take_length, h]
  simp
theorem gsplit_ct (c : UInt8) (l : List Str) (h0 : l ≠ []) (hl : l.length ≤ 100000) (hlen : (joinS [c] l).length ≤ 100000) (h : ∀ t ∈ l, c ∉ t) : Ct Tryz.prog 85 [.str (joinS [c] l), .str [c], i64 0, i64 (-1)] fun r outs => r = strs l ∧ outs = [] := by
  have hpos : 0 < l.length := List.length_pos_iff.2 h0
  have hc := count1_ct (joinS [c] l) c
  rw [cnt_join c l h] at hc
  have h1 : l.length ≤ (joinS [c] l).length + 1 := by
    have := List.count_le_length (a := c) (l := joinS [c] l)
    rw [cnt_join c l h] at this
    omega
  have hx := fun i => index1_ct (restS c l i) c
  have hstep := rest_step c l
  have hlast := rest_last c l
  have hix : ∀ i, i + 1 < l.length → Lib.indexByte (restS c l i) c = (l.getD i []).length := fun i hi => by
    rw [hstep i hi, ixb_at _ _ _ (h _ (getD_in (by omega)))]
  have hRl : ∀ i, (restS c l i).length ≤ 100000 := fun i => by
    refine Nat.le_trans ?_ hlen
    exact rest_le c l i
  have he : restS c l 0 = joinS [c] l := rfl
  generalize hR : restS c l = R at *
  rw [← he] at hc h1 hlen ⊢
  clear hR
  refine .det (.of_W (fn := Tryz.f85) hΓ hm Tryz.func85 [] [] (by kernel_rfl) (Step.out ?_))
  repeat' first
    | (refine Step.mk ?_; conv => whnf)
    | (refine Vc.om ?_ ?_; (simp only [bytes_2, bytes_3, bytes_4, bytes_5, bytes_9, bytes_12, bytes_21, bytes_22, bytes_25, bytes_27, bytes_28, bytes_29, bytes_30, bytes_31, bytes_32, bytes_33, bytes_35, bytes_37, bytes_38, bytes_39, bytes_41, bytes_43, bytes_49, bytes_53, bytes_54, bytes_55, bytes_60, bytes_61, bytes_62, bytes_63, bytes_64, bytes_65, bytes_74, bytes_75, bytes_82, bytes_83, bytes_84, bytes_85, bytes_95, bytes_103, bytes_104, bytes_105, bytes_125, bytes_126, bytes_127, bytes_131, bytes_150, bytes_151, bytes_152, bytes_153, bytes_154, bytes_159, bytes_167, bytes_168, bytes_181, bytes_182, bytes_190, bytes_197, bytes_210, bytes_214, bytes_215, bytes_218, bytes_251, bytes_252, bytes_254, bytes_259, bytes_260, bytes_261, bytes_269, bytes_272, bytes_279, bytes_286, bytes_287, bytes_288, bytes_289, bytes_290, bytes_294, bytes_296, bytes_302, bytes_305, bytes_307, true_and, and_true] <;> omega))
    | with_reducible trivial
    | (refine Wr.i64 ?_ ?_; omega)
    | (refine Br.dT ?_ ?_; omega)
    | (refine Br.dF ?_ ?_; omega)
    | (refine Met.by hc ?_; rintro q outs ⟨rfl, rfl⟩)
    | (refine Br.d (fun h => ?_) (fun h => ?_))
    | (refine CallOK.of_ct (Step.out ?_))
  refine CodeOK.loopW hΓ hm [] [] (by kernel_rfl) (α := Nat) (fun i => [(0, .str (R i)), (1, .str [c]), (2, i64 0), (3, i64 ((l.length : Int) - 1)), (9, .own 0), (10, i64 i)]) (fun i => [(0, .arr 9 1 l.length fun j => [.str (if j < i then l.getD j [] else [])])]) 1 (fun i => i + 1 ≤ l.length) (fun i => l.length - i) ?_ ?_
  · refine Again.by 0 (by omega) ?_
    repeat' first
      | (refine Step.mk ?_; conv => whnf)
      | (refine Vc.om ?_ ?_; first | omega | with_reducible rfl | with_reducible exact same_rfl)
      | with_reducible trivial
      | (exact ⟨by omega, fun _ _ => rfl⟩)
      | (refine Vc.mk ?_ (Step.out ?_))
  · intro i hi
    by_cases hi1 : i + 1 < l.length
    · have hx1 := hx i
      rw [hix i hi1] at hx1
      have hl1 : (R i).length = (l.getD i []).length + 1 + (R (i + 1)).length := by rw [hstep i hi1]; simp; omega
      have hLi := hRl i
      have hc1 : [c].length = 1 := rfl
      repeat' first
        | (refine Step.mk ?_; conv => whnf)
        | (refine Vc.om ?_ ?_; first | omega | with_reducible rfl | with_reducible exact same_rfl)
        | (refine Wr.i64 ?_ ?_; omega)
        | (refine Br.dT ?_ ?_; omega)
        | (refine Br.dF ?_ ?_; omega)
        | (refine Met.by hx1 ?_; rintro q outs ⟨rfl, rfl⟩)
        | (refine CallOK.of_ct (Step.out ?_))
      refine Again.by (i + 1) ⟨by omega, by omega⟩ ?_
      have hs1 := hstep i hi1
      repeat' first
        | (refine Step.mk ?_; conv => whnf)
        | (refine Vc.om ?_ ?_; first | omega | with_reducible rfl | with_reducible exact same_rfl)
        | with_reducible trivial
        | (exact ⟨rfl, str_set l i (i : Int).toNat _ (Int.toNat_natCast i) (cut_at c hs1)⟩)
        | (exact cut_tail c hs1)
        | (refine Vc.mk ?_ (Step.out ?_))
    · have e : i + 1 = l.length := by omega
      have hla := hlast i e
      repeat' first
        | (refine Step.mk ?_; conv => whnf)
        | (refine Vc.om ?_ ?_; first | omega | with_reducible rfl | with_reducible exact same_rfl)
        | with_reducible trivial
        | (refine Wr.i64 ?_ ?_; omega)
        | (refine Br.dF ?_ ?_; omega)
        | (refine Two.mk (Step.out ?_) (Step.out ?_))
      exact ⟨by omega, fun j hj => by
        have := str_set l i (i : Int).toNat (R i) (Int.toNat_natCast i) hla j hj
        exact this.trans (by dsimp only; rw [if_pos (show j < i + 1 by omega)])⟩
theorem split_ct (c : UInt8) (l : List Str) (h0 : l ≠ []) (hl : l.length ≤ 100000) (hlen : (joinS [c] l).length ≤ 100000) (h : ∀ t ∈ l, c ∉ t) : Ct Tryz.prog 44 [.str (joinS [c] l), .str [c]] fun r outs => r = strs l ∧ outs = [] := by
  have h1 := gsplit_ct c l h0 hl hlen h
  refine .det (.of_W (fn := Tryz.f44) hΓ hm Tryz.func44 [] [] (by kernel_rfl) (Step.out ?_))
  repeat' first
    | (refine Step.mk ?_; conv => whnf)
    | with_reducible trivial
    | with_reducible exact same_rfl
    | (refine Met.by h1 ?_; rintro q outs ⟨rfl, rfl⟩)
    | (refine Two.mk (Step.out ?_) (Step.out ?_))
    | (refine CallOK.of_ct (Step.out ?_))
end Kx
