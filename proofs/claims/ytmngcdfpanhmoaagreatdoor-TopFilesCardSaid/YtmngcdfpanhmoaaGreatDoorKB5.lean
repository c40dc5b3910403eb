/-
  Lines of encoded records.
  No condition beyond those written in each theorem.
-/
import Derived.Test.YtmngcdfpanhmoaaGreatDoorKB4
import Derived.Test.YtmngcdfpanhmoaaGreatDoorKB2
open Go Sx Go.Proofs
set_option linter.unusedSimpArgs false
set_option linter.unusedVariables false
namespace Kx
/-- Nothing, or the words of a valid array. -/
def MOk (w : Int × List Int) : Prop := w = (0, []) ∨ WOk w
def noneB (w : Int × List Int) : Bool := decide (w.2 = [])
theorem MOk.two {w : Int × List Int} (h : MOk w) : (w = (0, []) ∧ noneB w = true) ∨ (WOk w ∧ noneB w = false ∧ w.2.length ≠ 0 ∧ w.1 ≠ 0) := by
  rcases h with rfl | h
  · exact .inl ⟨rfl, rfl⟩
  · have := h.le; have := len_pos h.L
    have hne : w.2.length ≠ 0 := by omega
    exact .inr ⟨h, decide_eq_false fun e => hne (by rw [e]; rfl), hne, by omega⟩
theorem none_ct (w : Int × List Int) (h : MOk w) : Ct Tryz.prog 82 [bitD w] fun r outs => r = .bool (noneB w) ∧ outs = [] := by
  rcases h.two with ⟨rfl, e⟩ | ⟨_, e, h1, h2⟩
  · rw [e]
    refine .det (.of_W (fn := Tryz.f82) hΓ hm Tryz.func82 [] [] (by kernel_rfl) (Step.out ?_))
    repeat' first
      | (refine Step.mk ?_; conv => whnf)
      | with_reducible trivial
      | (refine Br.dT ?_ ?_; omega)
      | (refine Two.mk (Step.out ?_) (Step.out ?_))
  · rw [e]
    refine .det (.of_W (fn := Tryz.f82) hΓ hm Tryz.func82 [] [] (by kernel_rfl) (Step.out ?_))
    repeat' first
      | (refine Step.mk ?_; conv => whnf)
      | with_reducible trivial
      | (refine Br.dF ?_ ?_; omega)
      | (refine Two.mk (Step.out ?_) (Step.out ?_))
theorem validM_ct (w : Int × List Int) (h : MOk w) : Ct Tryz.prog 83 [bitD w] fun r outs => r = .bool (!noneB w) ∧ outs = [] := by
  rcases h.two with ⟨rfl, e⟩ | ⟨h, e, h1, h2⟩
  · exact bvalid0_ct
  · rw [e]; exact validW_ct w h
theorem valid1_ct (w : Int × List Int) (h : MOk w) : Ct Tryz.prog 81 [bitD w] fun r outs => r = .bool false ∧ outs = [] := by
  have h1 := none_ct w h
  have h2 := validM_ct w h
  cases hw : noneB w
  all_goals
    rw [hw] at h1 h2
    refine .det (.of_W (fn := Tryz.f81) hΓ hm Tryz.func81 [] [] (by kernel_rfl) (Step.out ?_))
    repeat' first
      | (refine Step.mk ?_; conv => whnf)
      | with_reducible trivial
      | (with_reducible refine Br.tt ?_)
      | (with_reducible refine Br.ff ?_)
      | (refine Met.by h1 ?_; rintro q outs ⟨rfl, rfl⟩)
      | (refine Met.by h2 ?_; rintro q outs ⟨rfl, rfl⟩)
      | (refine Br.bnot ?_)
      | (refine Two.mk (Step.out ?_) (Step.out ?_))
      | (refine CallOK.of_ct (Step.out ?_))
theorem indexB_ct (n : Nat) (hn : n ≤ 100) (W : Nat → Int × List Int) (h : ∀ i, i < n → MOk (W i)) : Ct Tryz.prog 123 [.tab 2 n fun i => bitL (W i), .fn 81 []] fun r outs => r = i64 (-1) ∧ outs = [] := by
  refine .det (.of_W (fn := Tryz.f123) hΓ hm Tryz.func123 [] [] (by kernel_rfl) (Step.out ?_))
  repeat' first
    | (refine Step.mk ?_; conv => whnf)
  refine CodeOK.loopW hΓ hm [] [] (by kernel_rfl) (α := Nat) (fun i => [(0, .tab 2 n fun i => bitL (W i)), (1, .fn 81 []), (7, i64 n), (8, i64 i)]) (fun i => []) 0 (fun i => i ≤ n) (fun i => n - i) ?_ ?_
  · refine Again.by 0 (Nat.zero_le _) ?_
    repeat' first
      | (refine Step.mk ?_; conv => whnf)
      | (refine Vc.om ?_ ?_; first | omega | with_reducible rfl | with_reducible exact same_rfl)
      | with_reducible trivial
      | (refine Cho.l ?_)
      | (refine Vc.mk ⟨rfl, rfl⟩ (Step.out ?_))
  · intro i hi
    have h1 := fun hi : i < n => valid1_ct (W i) (h i hi)
    repeat' first
      | (refine Step.mk ?_; conv => whnf)
      | (refine Vc.om ?_ ?_; first | omega | with_reducible rfl | with_reducible exact same_rfl)
      | with_reducible trivial
      | (refine Wr.i64 ?_ ?_; omega)
      | (with_reducible refine Br.ff ?_)
      | (refine Met.by (h1 (by omega)) ?_; rintro q outs ⟨rfl, rfl⟩)
      | (refine Br.d (fun h => ?_) (fun h => ?_))
      | (refine Two.mk (Step.out ?_) (Step.out ?_))
      | (refine CallOK.of_ct (Step.out ?_))
    refine Again.by (i + 1) ⟨by omega, by omega⟩ ?_
    repeat' first
      | (refine Step.mk ?_; conv => whnf)
      | (refine Vc.om ?_ ?_; first | omega | with_reducible rfl | with_reducible exact same_rfl)
      | with_reducible trivial
      | (refine Cho.l ?_)
      | (refine Vc.mk ⟨rfl, rfl⟩ (Step.out ?_))
theorem containsB_ct (n : Nat) (hn : n ≤ 100) (W : Nat → Int × List Int) (h : ∀ i, i < n → MOk (W i)) : Ct Tryz.prog 80 [.tab 2 n fun i => bitL (W i), .fn 81 []] fun r outs => r = .bool false ∧ outs = [] := by
  have h1 := indexB_ct n hn W h
  refine .det (.of_W (fn := Tryz.f80) hΓ hm Tryz.func80 [] [] (by kernel_rfl) (Step.out ?_))
  repeat' first
    | (refine Step.mk ?_; conv => whnf)
    | with_reducible trivial
    | (refine Met.by h1 ?_; rintro q outs ⟨rfl, rfl⟩)
    | (refine Two.mk (Step.out ?_) (Step.out ?_))
    | (refine CallOK.of_ct (Step.out ?_))
def erL (id ver : Int) (n : Nat) (W : Nat → Int × List Int) : List D := [i64 id, i64 ver, .tab 2 n fun i => bitL (W i)]
structure ErOk (id ver : Int) (n : Nat) (W : Nat → Int × List Int) : Prop where
  i1 : 1 ≤ id
  i2 : id ≤ 90
  v1 : 1 ≤ ver
  v2 : ver ≤ 90
  n1 : 1 ≤ n
  n5 : n ≤ 5
  w : ∀ i, i < n → MOk (W i)
theorem evalid_ct (id ver : Int) (n : Nat) (W : Nat → Int × List Int) (h : ErOk id ver n W) : Ct Tryz.prog 41 [.agg (erL id ver n W)] fun r outs => r = .bool true ∧ outs = [] := by
  have i1 := h.i1; have i2 := h.i2; have v1 := h.v1; have v2 := h.v2; have n1 := h.n1; have n5 := h.n5
  have h1 := containsB_ct n (by omega) W h.w
  refine .det (.of_W (fn := Tryz.f41) hΓ hm Tryz.func41 [] [] (by kernel_rfl) (Step.out ?_))
  repeat' first
    | (refine Step.mk ?_; conv => whnf)
    | with_reducible trivial
    | (refine Br.dT ?_ ?_; omega)
    | (refine Met.by h1 ?_; rintro q outs ⟨rfl, rfl⟩)
    | (refine Two.mk (Step.out ?_) (Step.out ?_))
    | (refine CallOK.of_ct (Step.out ?_))
def wordS (w : Int × List Int) : Str := if w.2 = [] then [45] else hexL w.2
theorem hexM_ct (w : Int × List Int) (h : MOk w) : Ct Tryz.prog 42 [bitD w] fun r outs => r = .tup [.str (hexL w.2), i64 (if noneB w then 8 else 0)] ∧ outs = [] := by
  rcases h.two with ⟨rfl, e⟩ | ⟨h, e, h1, h2⟩
  · exact hexh0_ct
  · rw [e]; exact hexh_ct w h
def wordsL (n : Nat) (W : Nat → Int × List Int) : List Str := (List.range n).map fun i => wordS (W i)
def lineE (id ver : Int) (n : Nat) (W : Nat → Int × List Int) : List Str := itS id.toNat :: itS ver.toNat :: wordsL n W

theorem lineE_len (id ver : Int) (n : Nat) (W : Nat → Int × List Int) : (lineE id ver n W).length = n + 2 := by simp [lineE, wordsL]
theorem lineE_at (id ver : Int) (n : Nat) (W : Nat → Int × List Int) (i : Nat) (hi : i < n) : (lineE id ver n W).getD (i + 2) [] = wordS (W i) := by simp [lineE, wordsL, List.getD, hi]
theorem wordS_is (w : Int × List Int) : wordS w = if noneB w then [45] else hexL w.2 := by
  unfold wordS noneB
  by_cases h : w.2 = [] <;> simp [h]
theorem hexL_len' (w : List Int) (h : w.length ≤ 3) : (hexL w).length ≤ 48 := by rw [hexL_len]; omega
theorem wordS_len {w : Int × List Int} (h : MOk w) : (wordS w).length ≤ 48 := by
  rw [wordS_is]
  rcases h.two with ⟨rfl, e⟩ | ⟨h, e, _⟩
  · decide
  · rw [e]; exact hexL_len' _ h.le.2
theorem hxc_in (x : Int) (j : Nat) : hxc x j ∈ hexD := by
  have := nib_in x j
  exact getD_in (show (nibP x j).toNat < 16 by omega)
theorem wordS_mem (w : Int × List Int) : ∀ c ∈ wordS w, c = 45 ∨ c ∈ hexD := fun c hc => by
  rw [wordS_is] at hc
  split at hc
  · simp at hc; exact .inl hc
  · obtain ⟨i, _, rfl⟩ := List.mem_map.1 hc
    exact .inr (hxc_in _ _)
theorem itS_mem (i : Nat) (hi : i < 100) : ∀ c ∈ itS i, 48 ≤ c ∧ c ≤ 57 := by
  have : ∀ i < 100, ∀ c ∈ itS i, 48 ≤ c ∧ c ≤ 57 := by decide +kernel
  exact this i hi
theorem lineE_free {id ver : Int} {n : Nat} {W : Nat → Int × List Int} (h : ErOk id ver n W) : ∀ t ∈ lineE id ver n W, (32 : UInt8) ∉ t := fun t ht h32 => by
  have i1 := h.i1; have i2 := h.i2; have v1 := h.v1; have v2 := h.v2
  simp only [lineE, wordsL, List.mem_cons, List.mem_map] at ht
  rcases ht with rfl | rfl | ⟨i, _, rfl⟩
  · exact absurd (itS_mem id.toNat (by omega) 32 h32).1 (by decide)
  · exact absurd (itS_mem ver.toNat (by omega) 32 h32).1 (by decide)
  · rcases wordS_mem _ 32 h32 with h | h
    · exact absurd h (by decide)
    · exact absurd h (by decide)
theorem str_one (H : List Str) (m : Nat) (c : Str) (hc : H.getD m [] = c) (i : Nat) (hi : i < m + 1) : iteL (i < m) [D.str (H.getD i [])] (selC [[D.str c]] (i - m)) = [D.str (H.getD i [])] := by
  by_cases h : i < m
  · rw [iteL_same rfl, if_pos h]
  · obtain rfl : i = m := by omega
    rw [Nat.sub_self, iteL_same rfl, if_neg h, ← hc]; rfl
theorem join_len (c : UInt8) (b : Nat) : ∀ l : List Str, (∀ t ∈ l, t.length ≤ b) → (joinS [c] l).length ≤ (b + 1) * l.length
  | [], _ => by simp [joinS]
  | [x], h => by
    have := h x (by simp)
    simp [joinS, tailS]; omega
  | x :: y :: l, h => by
    have h1 := join_len c b (y :: l) fun t ht => h t (by simp at ht ⊢; exact .inr ht)
    have h2 := h x (by simp)
    rw [joinS_two]
    simp only [List.length_append, List.length_cons, Nat.mul_add, Nat.mul_one] at h1 ⊢
    omega
theorem lineE_join {id ver : Int} {n : Nat} {W : Nat → Int × List Int} (h : ErOk id ver n W) : (joinS [32] (lineE id ver n W)).length ≤ 1000 := by
  have i1 := h.i1; have i2 := h.i2; have v1 := h.v1; have v2 := h.v2; have n1 := h.n1; have n5 := h.n5
  have := join_len 32 48 (lineE id ver n W) fun t ht => by
    simp only [lineE, wordsL, List.mem_cons, List.mem_map, List.mem_range] at ht
    rcases ht with rfl | rfl | ⟨i, hi, rfl⟩
    · have := itS_len id.toNat (by omega); omega
    · have := itS_len ver.toNat (by omega); omega
    · exact wordS_len (h.w i hi)
  rw [lineE_len] at this
  omega
theorem eline_ct (id ver : Int) (n : Nat) (W : Nat → Int × List Int) (h : ErOk id ver n W) : Ct Tryz.prog 15 [.agg (erL id ver n W)] fun r outs => r = .tup [.str (joinS [32] (lineE id ver n W)), i64 0] ∧ outs = [] := by
  have i1 := h.i1; have i2 := h.i2; have v1 := h.v1; have v2 := h.v2; have n1 := h.n1; have n5 := h.n5
  have h1 := evalid_ct id ver n W h
  have h2 := itoa_ct id.toNat (by omega)
  have h3 := itoa_ct ver.toNat (by omega)
  rw [show ((id.toNat : Nat) : Int) = id by omega] at h2
  rw [show ((ver.toNat : Nat) : Int) = ver by omega] at h3
  have hl := lineE_len id ver n W
  have hat := lineE_at id ver n W
  have hJ := lineE_join h
  have hj := sjoin_ct (lineE id ver n W) [32] (by omega) (by omega)
  have e0 : (lineE id ver n W).getD 0 [] = itS id.toNat := rfl
  have e1 : (lineE id ver n W).getD 1 [] = itS ver.toNat := rfl
  generalize lineE id ver n W = L at *
  refine .det (.of_W (fn := Tryz.f15) hΓ hm Tryz.func15 ord15 [] (by kernel_rfl) (Step.out ?_))
  repeat' first
    | (refine Step.mk ?_; conv => whnf)
    | (with_reducible refine Br.tt ?_)
    | (refine Met.by h1 ?_; rintro q outs ⟨rfl, rfl⟩)
    | (refine Met.by h2 ?_; rintro q outs ⟨rfl, rfl⟩)
    | (refine Met.by h3 ?_; rintro q outs ⟨rfl, rfl⟩)
    | (refine Br.bnot ?_)
    | (refine CallOK.of_ct (Step.out ?_))
    | (refine CallQ.of_ct (Step.out ?_))
  refine CodeOK.loopW hΓ hm ord15 [] (by kernel_rfl) (α := Nat) (fun i => [(4, .own 0), (20, .tab 2 n fun i => bitL (W i)), (21, i64 n), (22, i64 i)]) (fun i => [(0, .arr 9 1 (i + 2) fun j => [.str (L.getD j [])])]) 1 (fun i => i ≤ n) (fun i => n - i) ?_ ?_
  · refine Again.by 0 (Nat.zero_le _) ?_
    repeat' first
      | (refine Step.mk ?_; conv => whnf)
      | (refine Vc.om ?_ ?_; first | omega | with_reducible rfl | with_reducible exact same_rfl)
      | with_reducible trivial
      | (refine Vc.mk ?_ (Step.out ?_))
    exact ⟨rfl, fun j hj => match j, hj with
      | 0, _ => by dsimp only; rw [e0]; rfl
      | 1, _ => by dsimp only; rw [e1]; rfl⟩
  · intro i hi
    have hx := fun hi : i < n => hexM_ct (W i) (h.w i hi)
    have hwi := hat i
    rw [wordS_is] at hwi
    by_cases hlt : i < n
    · have hwi := hwi hlt
      have hx := hx hlt
      cases hb : noneB (W i)
      all_goals
        rw [hb] at hwi hx
        repeat' first
          | (refine Step.mk ?_; conv => whnf)
          | (refine Vc.om ?_ ?_; first | omega | with_reducible rfl | with_reducible exact same_rfl)
          | (refine Vc.om ?_ ?_; (simp only [bytes_2, bytes_3, bytes_4, bytes_5, bytes_9, bytes_12, bytes_21, bytes_22, bytes_25, bytes_27, bytes_28, bytes_29, bytes_30, bytes_31, bytes_32, bytes_33, bytes_35, bytes_37, bytes_38, bytes_39, bytes_41, bytes_43, bytes_49, bytes_53, bytes_54, bytes_55, bytes_60, bytes_61, bytes_62, bytes_63, bytes_64, bytes_65, bytes_74, bytes_75, bytes_82, bytes_83, bytes_84, bytes_85, bytes_95, bytes_103, bytes_104, bytes_105, bytes_125, bytes_126, bytes_127, bytes_131, bytes_150, bytes_151, bytes_152, bytes_153, bytes_154, bytes_159, bytes_167, bytes_168, bytes_181, bytes_182, bytes_190, bytes_197, bytes_210, bytes_214, bytes_215, bytes_218, bytes_251, bytes_252, bytes_254, bytes_259, bytes_260, bytes_261, bytes_269, bytes_272, bytes_279, bytes_286, bytes_287, bytes_288, bytes_289, bytes_290, bytes_294, bytes_296, bytes_302, bytes_305, bytes_307, true_and, and_true] <;> omega))
          | with_reducible trivial
          | (refine Wr.i64 ?_ ?_; omega)
          | (refine Br.dT ?_ ?_; omega)
          | (refine Met.by hx ?_; rintro q outs ⟨rfl, rfl⟩)
          | (refine Br.d (fun h => ?_) (fun h => ?_))
          | (refine Br.bnot ?_)
          | (refine CallOK.of_ct (Step.out ?_))
        refine Again.by (i + 1) ⟨by omega, by omega⟩ ?_
        repeat' first
          | (refine Step.mk ?_; conv => whnf)
          | (refine Vc.om ?_ ?_; first | omega | with_reducible rfl | with_reducible exact same_rfl)
          | with_reducible trivial
          | (exact ⟨rfl, fun j hj => str_one L (i + 2) _ hwi j hj⟩)
          | (refine Vc.mk ?_ (Step.out ?_))
    · obtain rfl : i = n := by omega
      have hj' : Ct Tryz.prog 43 [.tab 1 (i + 2) fun j => [.str (L.getD j [])], .str [32]] fun r outs => r = .str (joinS [32] L) ∧ outs = [] := by rw [← hl]; exact hj
      repeat' first
        | (refine Step.mk ?_; conv => whnf)
        | with_reducible trivial
        | exact noSh_str _
        | (refine Br.dF ?_ ?_; omega)
        | (refine Met.by hj' ?_; rintro q outs ⟨rfl, rfl⟩)
        | (refine Two.mk (Step.out ?_) (Step.out ?_))
        | (refine CallOK.of_ct (Step.out ?_))
        | (refine Vc.mk ?_ (Step.out ?_))
theorem atoi_ct (i : Nat) (hi : i < 100) : Ct Tryz.prog 45 [.str (itS i)] fun r outs => r = .tup [i64 i, .any] ∧ outs = [] := by
  have h1 : ∀ i < 100, (itS i).length ≤ 18 ∧ Lib.atoi (itS i) = some (i : Int) := by decide +kernel
  have h2 := h1 i hi
  refine Ct.lib (v := .tuple #[.int .i64 i, .nilIface]) ⟨Tryz.f45, Tryz.func45, by decide, by decide⟩ rfl (fun M => ?_) fun w _ => (Kx.strconv_Atoi ⟨(itS i).toArray⟩ i (by simpa [ByteArray.size] using h2.1) h2.2 w).mono fun _ _ ⟨h3, t, h4⟩ => ⟨h3, ?_⟩
  · simp only [Od, OdT, Rd]
    exact ⟨_, rfl, [], [], rfl, ⟨rfl, rfl⟩, [], [], rfl, ⟨trivial, rfl⟩, rfl⟩
  · rw [h4]; exact ⟨rfl, rfl, rfl, by rw [Lib.bytesWorld_size]; omega, fun k hk => Lib.bytesWorld_at_old _ _ _ k hk⟩
theorem parse1_ct (i : Int) (w : Int × List Int) (h : MOk w) : Ct Tryz.prog 47 [i64 i, .str (wordS w)] fun r outs => r = .tup [bitD w, i64 0] ∧ outs = [] := by
  rw [wordS_is]
  rcases h.two with ⟨rfl, e⟩ | ⟨h, e, _⟩
  · rw [e]
    refine .det (.of_W (fn := Tryz.f47) hΓ hm Tryz.func47 [] [] (by kernel_rfl) (Step.out ?_))
    repeat' first
      | (refine Step.mk ?_; conv => whnf)
      | with_reducible trivial
      | (refine Br.d (fun h => ?_) (fun h => ?_))
      | (refine Two.mk (Step.out ?_) (Step.out ?_))
    all_goals rfl
  · rw [e]
    have h1 := bparse_ct w h
    have hne : hexL w.2 ≠ [45] := fun e => by
      have := hexL_len w.2
      rw [e] at this
      simp at this; omega
    refine .det (.of_W (fn := Tryz.f47) hΓ hm Tryz.func47 [] [] (by kernel_rfl) (Step.out ?_))
    repeat' first
      | (refine Step.mk ?_; conv => whnf)
      | with_reducible trivial
      | with_reducible exact same_rfl
      | (refine Met.by h1 ?_; rintro q outs ⟨rfl, rfl⟩)
      | (refine Br.d (fun h => ?_) (fun h => ?_))
      | (refine Two.mk (Step.out ?_) (Step.out ?_))
      | (refine CallOK.of_ct (Step.out ?_))
    all_goals first | rfl | exact absurd ‹_› hne
theorem each3_ct (n : Nat) (hn : n ≤ 100) (W : Nat → Int × List Int) (h : ∀ i, i < n → MOk (W i)) (f : Nat → List D) (hf : ∀ i, i < n → f i = [.str (wordS (W i))]) :
    Ct Tryz.prog 46 [.tab 1 n f, .fn 47 []] fun q outs => q = .tup [.tab 2 n fun i => bitL (W i), i64 0] ∧ outs = [] := by
  refine Ct.arg (args' := [.tab 1 n fun i => [.str (wordS (W i))], .fn 47 []]) ?_ ⟨rfl, ⟨rfl, hf⟩, ⟨rfl, trivial⟩, trivial⟩
  refine .det (.of_W (fn := Tryz.f46) hΓ hm Tryz.func46 [] [] (by kernel_rfl) (Step.out ?_))
  repeat' first
    | (refine Step.mk ?_; conv => whnf)
  refine CodeOK.loopW hΓ hm [] [] (by kernel_rfl) (α := Nat) (fun i => [(1, .fn 47 []), (6, .own 0), (11, .tab 1 n fun i => [.str (wordS (W i))]), (12, i64 n), (13, i64 i)]) (fun i => [(0, .arr 105 2 i fun j => bitL (W j))]) 1 (fun i => i ≤ n) (fun i => n - i) ?_ ?_
  · refine Again.by 0 (Nat.zero_le _) ?_
    repeat' first
      | (refine Step.mk ?_; conv => whnf)
      | (refine Vc.om ?_ ?_; first | omega | with_reducible rfl | with_reducible exact same_rfl)
      | with_reducible trivial
      | (refine Cho.l ?_)
      | (refine Vc.mk ⟨rfl, rfl⟩ (Step.out ?_))
  · intro i hi
    have h1 := fun hi : i < n => parse1_ct i (W i) (h i hi)
    repeat' first
      | (refine Step.mk ?_; conv => whnf)
      | (refine Vc.om ?_ ?_; first | omega | with_reducible rfl | with_reducible exact same_rfl)
      | (refine Vc.om ?_ ?_; (simp only [bytes_2, bytes_3, bytes_4, bytes_5, bytes_9, bytes_12, bytes_21, bytes_22, bytes_25, bytes_27, bytes_28, bytes_29, bytes_30, bytes_31, bytes_32, bytes_33, bytes_35, bytes_37, bytes_38, bytes_39, bytes_41, bytes_43, bytes_49, bytes_53, bytes_54, bytes_55, bytes_60, bytes_61, bytes_62, bytes_63, bytes_64, bytes_65, bytes_74, bytes_75, bytes_82, bytes_83, bytes_84, bytes_85, bytes_95, bytes_103, bytes_104, bytes_105, bytes_125, bytes_126, bytes_127, bytes_131, bytes_150, bytes_151, bytes_152, bytes_153, bytes_154, bytes_159, bytes_167, bytes_168, bytes_181, bytes_182, bytes_190, bytes_197, bytes_210, bytes_214, bytes_215, bytes_218, bytes_251, bytes_252, bytes_254, bytes_259, bytes_260, bytes_261, bytes_269, bytes_272, bytes_279, bytes_286, bytes_287, bytes_288, bytes_289, bytes_290, bytes_294, bytes_296, bytes_302, bytes_305, bytes_307, true_and, and_true] <;> omega))
      | with_reducible trivial
      | (refine Wr.i64 ?_ ?_; omega)
      | (refine Br.dT ?_ ?_; omega)
      | (refine Met.by (h1 (by omega)) ?_; rintro q outs ⟨rfl, rfl⟩)
      | (refine Br.d (fun h => ?_) (fun h => ?_))
      | (refine Br.bnot ?_)
      | (refine Two.mk (Step.out ?_) (Step.out ?_))
      | (refine CallOK.of_ct (Step.out ?_))
    · refine Again.by (i + 1) ⟨by omega, by omega⟩ ?_
      repeat' first
        | (refine Step.mk ?_; conv => whnf)
        | (refine Vc.om ?_ ?_; first | omega | with_reducible rfl | with_reducible exact same_rfl)
        | with_reducible trivial
        | (refine Cho.l ?_)
        | (refine Vc.mk ⟨rfl, rfl⟩ (Step.out ?_))
        | (exact ⟨rfl, bit_app W i⟩)
        | (refine Vc.mk ?_ (Step.out ?_))
    · rw [show i = n by omega]
      exact ⟨rfl, fun _ _ => rfl⟩
theorem each3_at (m n : Nat) (hm : m = n) (hn : n ≤ 100) (W : Nat → Int × List Int) (h : ∀ i, i < n → MOk (W i)) (f : Nat → List D) (hf : ∀ i, i < n → f i = [.str (wordS (W i))]) :
    Ct Tryz.prog 46 [.tab 1 m f, .fn 47 []] fun q outs => q = .tup [.tab 2 n fun i => bitL (W i), i64 0] ∧ outs = [] := by
  subst hm; exact each3_ct m hn W h f hf
theorem eparse_ct (id ver : Int) (n : Nat) (W : Nat → Int × List Int) (h : ErOk id ver n W) : Ct Tryz.prog 16 [.str (joinS [32] (lineE id ver n W))] fun r outs => r = .tup [.agg (erL id ver n W), i64 0] ∧ outs = [] := by
  have i1 := h.i1; have i2 := h.i2; have v1 := h.v1; have v2 := h.v2; have n1 := h.n1; have n5 := h.n5
  have h1 := eline_ct id ver n W h
  have h2 := atoi_ct id.toNat (by omega)
  have h3 := atoi_ct ver.toNat (by omega)
  rw [show ((id.toNat : Nat) : Int) = id by omega] at h2
  rw [show ((ver.toNat : Nat) : Int) = ver by omega] at h3
  have hl := lineE_len id ver n W
  have hat := lineE_at id ver n W
  have hs := split_ct 32 (lineE id ver n W) nofun (by omega) (by have := lineE_join h; omega) (lineE_free h)
  have e0 : (lineE id ver n W).getD 0 [] = itS id.toNat := rfl
  have e1 : (lineE id ver n W).getD 1 [] = itS ver.toNat := rfl
  rw [← e0] at h2
  rw [← e1] at h3
  have hE := fun (m : Nat) (hm : m = n) f hf => each3_at m n hm (by omega) W h.w f hf
  generalize lineE id ver n W = L at *
  refine .det (.of_W (fn := Tryz.f16) hΓ hm Tryz.func16 [] [] (by kernel_rfl) (Step.out ?_))
  repeat' first
    | (refine Step.mk ?_; conv => whnf)
    | (refine Vc.om ?_ ?_; first | omega | with_reducible rfl | with_reducible exact same_rfl)
    | with_reducible trivial
    | with_reducible exact same_rfl
    | (refine Br.dT ?_ ?_; omega)
    | (refine Br.dF ?_ ?_; omega)
    | (refine Met.by hs ?_; rintro q outs ⟨rfl, rfl⟩)
    | (refine Met.by h1 ?_; rintro q outs ⟨rfl, rfl⟩)
    | (refine Met.by h2 ?_; rintro q outs ⟨rfl, rfl⟩)
    | (refine Met.by h3 ?_; rintro q outs ⟨rfl, rfl⟩)
    | (refine Met.by (hE _ (show ((L.length : Int)).toNat - Int.toNat 2 = n by omega) _ fun i hi => by rw [← hat i hi, Nat.add_comm i]; rfl) ?_; rintro q outs ⟨rfl, rfl⟩)
    | (refine Br.d (fun h => ?_) (fun h => ?_))
    | (refine Br.swap ?_)
    | (refine Br.bnot ?_)
    | (refine Two.mk (Step.out ?_) (Step.out ?_))
    | (refine CallOK.of_ct (Step.out ?_))
end Kx
/-
  Encoded records are the same.
-/
open Go Sx Go.Proofs
set_option linter.unusedSimpArgs false
set_option linter.unusedVariables false
namespace Kx
theorem isnan_ct (x : Int) : Ct Tryz.prog 179 [u64 x] fun r outs => r = .bool false ∧ outs = [] := by
  refine .det (.of_W (fn := Tryz.f179) hΓ hm Tryz.func179 [] [] (by kernel_rfl) (Step.out ?_))
  repeat' first
    | (refine Step.mk ?_; conv => whnf)
    | with_reducible trivial
    | (refine Two.mk (Step.out ?_) (Step.out ?_))
  simp
theorem ucmp_ct (x : Int) : Ct Tryz.prog 135 [u64 x, u64 x] fun r outs => r = i64 0 ∧ outs = [] := by
  have h1 := isnan_ct x
  refine .det (.of_W (fn := Tryz.f135) hΓ hm Tryz.func135 [] [] (by kernel_rfl) (Step.out ?_))
  repeat' first
    | (refine Step.mk ?_; conv => whnf)
    | with_reducible trivial
    | (with_reducible refine Br.ff ?_)
    | (refine Br.dF ?_ ?_; omega)
    | (refine Met.by h1 ?_; rintro q outs ⟨rfl, rfl⟩)
    | (refine Two.mk (Step.out ?_) (Step.out ?_))
    | (refine CallOK.of_ct (Step.out ?_))
theorem scmp_ct (l : List Int) (hl : l.length ≤ 100) : Ct Tryz.prog 92 [u64s l, u64s l] fun r outs => r = i64 0 ∧ outs = [] := by
  refine .det (.of_W (fn := Tryz.f92) hΓ hm Tryz.func92 [] [] (by kernel_rfl) (Step.out ?_))
  repeat' first
    | (refine Step.mk ?_; conv => whnf)
  refine CodeOK.loopW hΓ hm [] [] (by kernel_rfl) (α := Nat) (fun i => [(0, u64s l), (1, u64s l), (9, u64s l), (10, i64 l.length), (11, i64 i)]) (fun i => []) 0 (fun i => i ≤ l.length) (fun i => l.length - i) ?_ ?_
  · refine Again.by 0 (Nat.zero_le _) ?_
    repeat' first
      | (refine Step.mk ?_; conv => whnf)
      | (refine Vc.om ?_ ?_; first | omega | with_reducible rfl | with_reducible exact same_rfl)
      | with_reducible trivial
  · intro i hi
    have h1 := ucmp_ct (l.getD (i : Int).toNat 0)
    repeat' first
      | (refine Step.mk ?_; conv => whnf)
      | (refine Vc.om ?_ ?_; first | omega | with_reducible rfl | with_reducible exact same_rfl)
      | with_reducible trivial
      | (refine Wr.i64 ?_ ?_; omega)
      | (refine Br.dT ?_ ?_; omega)
      | (refine Br.dF ?_ ?_; omega)
      | (refine Met.by h1 ?_; rintro q outs ⟨rfl, rfl⟩)
      | (refine Br.d (fun h => ?_) (fun h => ?_))
      | (refine Br.bnot ?_)
      | (refine Two.mk (Step.out ?_) (Step.out ?_))
      | (refine CallOK.of_ct (Step.out ?_))
    refine Again.by (i + 1) ⟨by omega, by omega⟩ ?_
    repeat' first
      | (refine Step.mk ?_; conv => whnf)
      | (refine Vc.om ?_ ?_; first | omega | with_reducible rfl | with_reducible exact same_rfl)
      | with_reducible trivial
theorem isnani_ct (x : Int) : Ct Tryz.prog 134 [i64 x] fun r outs => r = .bool false ∧ outs = [] := by
  refine .det (.of_W (fn := Tryz.f134) hΓ hm Tryz.func134 [] [] (by kernel_rfl) (Step.out ?_))
  repeat' first
    | (refine Step.mk ?_; conv => whnf)
    | with_reducible trivial
    | (refine Two.mk (Step.out ?_) (Step.out ?_))
  simp
theorem icmp_ct (x : Int) : Ct Tryz.prog 91 [i64 x, i64 x] fun r outs => r = i64 0 ∧ outs = [] := by
  have h1 := isnani_ct x
  refine .det (.of_W (fn := Tryz.f91) hΓ hm Tryz.func91 [] [] (by kernel_rfl) (Step.out ?_))
  repeat' first
    | (refine Step.mk ?_; conv => whnf)
    | with_reducible trivial
    | (with_reducible refine Br.ff ?_)
    | (refine Br.dF ?_ ?_; omega)
    | (refine Met.by h1 ?_; rintro q outs ⟨rfl, rfl⟩)
    | (refine Two.mk (Step.out ?_) (Step.out ?_))
    | (refine CallOK.of_ct (Step.out ?_))
theorem cor_ct (f : Nat → List D) (hf : ∀ i, i < 3 → f i = [i64 0]) : Ct Tryz.prog 90 [.tab 1 3 f] fun r outs => r = i64 0 ∧ outs = [] := by
  refine Ct.arg (args' := [.tab 1 3 fun i => [i64 0]]) ?_ ⟨rfl, ⟨rfl, hf⟩, trivial⟩
  refine .det (.of_W (fn := Tryz.f90) hΓ hm Tryz.func90 [] [] (by kernel_rfl) (Step.out ?_))
  repeat' first
    | (refine Step.mk ?_; conv => whnf)
  refine CodeOK.loopW hΓ hm [] [] (by kernel_rfl) (α := Nat) (fun i => [(3, i64 0), (6, .tab 1 3 fun i => [i64 0]), (7, i64 3), (8, i64 i)]) (fun i => []) 0 (fun i => i ≤ 3) (fun i => 3 - i) ?_ ?_
  · refine Again.by 0 (Nat.zero_le _) ?_
    repeat' first
      | (refine Step.mk ?_; conv => whnf)
      | (refine Vc.om ?_ ?_; first | omega | with_reducible rfl | with_reducible exact same_rfl)
      | with_reducible trivial
  · intro i hi
    repeat' first
      | (refine Step.mk ?_; conv => whnf)
      | (refine Vc.om ?_ ?_; first | omega | with_reducible rfl | with_reducible exact same_rfl)
      | with_reducible trivial
      | (refine Wr.i64 ?_ ?_; omega)
      | (refine Br.dT ?_ ?_; omega)
      | (refine Br.d (fun h => ?_) (fun h => ?_))
      | (refine Br.bnot ?_)
      | (refine Two.mk (Step.out ?_) (Step.out ?_))
    refine Again.by (i + 1) ⟨by omega, by omega⟩ ?_
    repeat' first
      | (refine Step.mk ?_; conv => whnf)
      | (refine Vc.om ?_ ?_; first | omega | with_reducible rfl | with_reducible exact same_rfl)
      | with_reducible trivial
theorem bcompare_ct (w : Int × List Int) (h : w.2.length ≤ 100) : Ct Tryz.prog 51 [bitD w, bitD w] fun r outs => r = i64 0 ∧ outs = [] := by
  have h1 := scmp_ct w.2 h
  have h2 := icmp_ct w.1
  have h3 := icmp_ct (w.2.length : Nat)
  refine .det (.of_W (fn := Tryz.f51) hΓ hm Tryz.func51 ord51 [] (by kernel_rfl) (Step.out ?_))
  repeat' first
    | (refine Step.mk ?_; conv => whnf)
    | with_reducible trivial
    | exact noSh_int _ _
    | (refine Met.by h1 ?_; rintro q outs ⟨rfl, rfl⟩)
    | (refine Met.by h2 ?_; rintro q outs ⟨rfl, rfl⟩)
    | (refine Met.by h3 ?_; rintro q outs ⟨rfl, rfl⟩)
    | (refine Met.by (cor_ct _ fun i hi => match i, hi with | 0, _ => rfl | 1, _ => rfl | 2, _ => rfl) ?_; rintro q outs ⟨rfl, rfl⟩)
    | (refine Two.mk (Step.out ?_) (Step.out ?_))
    | (refine CallQ.of_ct (Step.out ?_))
    | (refine Vc.mk ?_ (Step.out ?_))
theorem same1_ct (w : Int × List Int) (h : w.2.length ≤ 100) : Ct Tryz.prog 50 [bitD w, bitD w] fun r outs => r = .bool true ∧ outs = [] := by
  have h1 := bcompare_ct w h
  refine .det (.of_W (fn := Tryz.f50) hΓ hm Tryz.func50 [] [] (by kernel_rfl) (Step.out ?_))
  repeat' first
    | (refine Step.mk ?_; conv => whnf)
    | with_reducible trivial
    | (refine Met.by h1 ?_; rintro q outs ⟨rfl, rfl⟩)
    | (refine Two.mk (Step.out ?_) (Step.out ?_))
    | (refine CallOK.of_ct (Step.out ?_))
theorem eqB_ct (n : Nat) (hn : n ≤ 100) (W : Nat → Int × List Int) (h : ∀ i, i < n → (W i).2.length ≤ 100) : Ct Tryz.prog 49 [.tab 2 n fun i => bitL (W i), .tab 2 n fun i => bitL (W i), .fn 50 []] fun r outs => r = .bool true ∧ outs = [] := by
  refine .det (.of_W (fn := Tryz.f49) hΓ hm Tryz.func49 [] [] (by kernel_rfl) (Step.out ?_))
  repeat' first
    | (refine Step.mk ?_; conv => whnf)
    | (refine Br.dT ?_ ?_; omega)
    | (refine Br.bnot ?_)
  refine CodeOK.loopW hΓ hm [] [] (by kernel_rfl) (α := Nat) (fun i => [(1, .tab 2 n fun i => bitL (W i)), (2, .fn 50 []), (15, .tab 2 n fun i => bitL (W i)), (16, i64 n), (17, i64 i)]) (fun i => []) 0 (fun i => i ≤ n) (fun i => n - i) ?_ ?_
  · refine Again.by 0 (Nat.zero_le _) ?_
    repeat' first
      | (refine Step.mk ?_; conv => whnf)
      | (refine Vc.om ?_ ?_; first | omega | with_reducible rfl | with_reducible exact same_rfl)
      | with_reducible trivial
      | (refine Cho.l ?_)
      | (refine Vc.mk ⟨rfl, rfl⟩ (Step.out ?_))
  · intro i hi
    have h1 := fun hi : i < n => same1_ct (W i) (h i hi)
    repeat' first
      | (refine Step.mk ?_; conv => whnf)
      | (refine Vc.om ?_ ?_; first | omega | with_reducible rfl | with_reducible exact same_rfl)
      | with_reducible trivial
      | (refine Wr.i64 ?_ ?_; omega)
      | (with_reducible refine Br.tt ?_)
      | (refine Met.by (h1 (by omega)) ?_; rintro q outs ⟨rfl, rfl⟩)
      | (refine Br.d (fun h => ?_) (fun h => ?_))
      | (refine Br.bnot ?_)
      | (refine Two.mk (Step.out ?_) (Step.out ?_))
      | (refine CallOK.of_ct (Step.out ?_))
    refine Again.by (i + 1) ⟨by omega, by omega⟩ ?_
    repeat' first
      | (refine Step.mk ?_; conv => whnf)
      | (refine Vc.om ?_ ?_; first | omega | with_reducible rfl | with_reducible exact same_rfl)
      | with_reducible trivial
      | (refine Cho.l ?_)
      | (refine Vc.mk ⟨rfl, rfl⟩ (Step.out ?_))
theorem esame_ct (id ver : Int) (n : Nat) (W : Nat → Int × List Int) (h : ErOk id ver n W) : Ct Tryz.prog 17 [.agg (erL id ver n W), .agg (erL id ver n W)] fun r outs => r = .bool true ∧ outs = [] := by
  have n5 := h.n5
  have h1 := eqB_ct n (by omega) W fun i hi => by
    rcases h.w i hi with e | e
    · rw [e]; decide
    · have := e.le; omega
  refine .det (.of_W (fn := Tryz.f17) hΓ hm Tryz.func17 [] [] (by kernel_rfl) (Step.out ?_))
  repeat' first
    | (refine Step.mk ?_; conv => whnf)
    | with_reducible trivial
    | (refine Br.dT ?_ ?_; omega)
    | (refine Met.by h1 ?_; rintro q outs ⟨rfl, rfl⟩)
    | (refine Two.mk (Step.out ?_) (Step.out ?_))
    | (refine CallOK.of_ct (Step.out ?_))
end Kx
