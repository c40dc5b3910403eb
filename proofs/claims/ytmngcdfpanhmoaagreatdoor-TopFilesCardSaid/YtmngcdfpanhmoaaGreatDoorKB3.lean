/-
  The deck's keys; lines of records.
  No condition beyond those written in each theorem.
-/
import Derived.Test.YtmngcdfpanhmoaaGreatDoorKB2
import Derived.Test.YtmngcdfpanhmoaaGreatDoorKA8
import Derived.Test.YtmngcdfpanhmoaaGreatDoorKA6
open Go Sx Go.Proofs
set_option linter.unusedSimpArgs false
set_option linter.unusedVariables false
namespace Kx
def U64 (x : Int) : Prop := 0 ≤ x ∧ x ≤ 18446744073709551615
theorem key_ct (d : Dk) : Ct Tryz.prog 9 [d.b] fun r outs => ∃ (k : Int × Int) (d' : Dk), (U64 k.1 ∧ U64 k.2) ∧ r = .agg [u64 k.1, u64 k.2] ∧ outs = [Dk.b d'] := by
  refine .some2 (.of_W (fn := Tryz.f9) hΓ hm Tryz.func9 [] [] (by kernel_rfl) (Step.out ?_))
  repeat' first
    | (refine Step.mk ?_; conv => whnf)
    | (refine CallOK.io1 (g := 26) (Step.out ?_))
    | (refine Met.by (g := 26) (word_ct _) ?_; rintro q outs ⟨x, d, hx, rfl, rfl⟩)
  rename_i dd x0 d1 h0
  refine Lf2.by (x0, x) d ⟨h0, hx⟩ ?_
  repeat' first
    | (refine Step.mk ?_; conv => whnf)
    | with_reducible trivial
    | with_reducible exact same_rfl
    | (refine Two.mk (Step.out ?_) (Step.out ?_))
theorem tail9_len (n : Nat) : ∀ l : List Str, (∀ t ∈ l, t.length ≤ n) → (tailS [9] l).length ≤ (n + 1) * l.length
  | [], _ => by simp [tailS]
  | t :: l, h => by
    have h1 := tail9_len n l fun u hu => h u (by simp [hu])
    have h2 := h t (by simp)
    have e2 : tailS [9] (t :: l) = [9] ++ t ++ tailS [9] l := by simp [tailS]
    rw [e2]
    simp only [List.length_append, List.length_cons, List.length_nil, Nat.mul_add, Nat.mul_one]
    omega
theorem line_arg {g : FuncId} {R : D → List D → Prop} (a b sep : Str) (B : List Str) (H : Ct Tryz.prog g [strs (a :: b :: B), .str sep] R) : Ct Tryz.prog g [.tab 1 (2 + B.length) fun i => iteL (i < 2) (selC [[.str a], [.str b]] i) [.str (B.getD (i - 2) [])], .str sep] R :=
  H.arg ⟨rfl, ⟨by simp only [List.length_cons]; omega, fun i hi => match i with
    | 0 => rfl
    | 1 => rfl
    | i + 2 => by
      have e : selC [[D.str a], [D.str b]] (i + 2) = [D.str b] := rfl
      dsimp only
      rw [e, iteL_same rfl, if_neg (by omega)]
      rfl⟩, rfl, trivial⟩
def lineS (r : Rc) : Str := joinS [9] (itS r.id.toNat :: itS r.ver.toNat :: r.v)
theorem line_ct (s : Sc) (hs : s.ok) (r : Rc) (hr : r.ok s) : Ct Tryz.prog 30 [r.d] fun q outs => q = .str (lineS r) ∧ outs = [] := by
  have i1 := hr.i1; have i2 := hr.i2; have v1 := hr.v1; have v2 := hr.v2; have hn := hr.n; have n5 := hs.n5
  have h1 := itoa_ct r.id.toNat (by omega)
  have h2 := itoa_ct r.ver.toNat (by omega)
  rw [show ((r.id.toNat : Nat) : Int) = r.id by omega] at h1
  rw [show ((r.ver.toNat : Nat) : Int) = r.ver by omega] at h2
  have hj : (joinS [9] (itS r.id.toNat :: itS r.ver.toNat :: r.v)).length ≤ 1000000000 := by
    have e1 := itS_len r.id.toNat (by omega)
    have h4 := tail9_len 64 (itS r.ver.toNat :: r.v) fun t ht => by
      rcases List.mem_cons.1 ht with rfl | ht
      · have := itS_len r.ver.toNat (by omega); omega
      · obtain ⟨j, hj, rfl⟩ := List.getElem_of_mem ht
        have h9 := (hr.v j (by omega)).le
        rw [List.getD_eq_getElem?_getD, List.getElem?_eq_getElem hj] at h9
        simpa using h9
    simp only [joinS, List.length_append]
    simp only [List.length_cons] at h4
    omega
  have h3 := line_arg (itS r.id.toNat) (itS r.ver.toNat) [9] r.v (sjoin_ct (itS r.id.toNat :: itS r.ver.toNat :: r.v) [9] (by simp only [List.length_cons]; omega) hj)
  unfold lineS
  generalize joinS [9] (itS r.id.toNat :: itS r.ver.toNat :: r.v) = J at *
  refine .det (.of_W (fn := Tryz.f30) hΓ hm Tryz.func30 ord30 [] (by kernel_rfl) (Step.out ?_))
  repeat' first
    | (refine Step.mk ?_; conv => whnf)
    | (refine Vc.om ?_ ?_; (simp only [bytes_2, bytes_3, bytes_4, bytes_5, bytes_9, bytes_12, bytes_21, bytes_22, bytes_25, bytes_27, bytes_28, bytes_29, bytes_30, bytes_31, bytes_32, bytes_33, bytes_35, bytes_37, bytes_38, bytes_39, bytes_41, bytes_43, bytes_49, bytes_53, bytes_54, bytes_55, bytes_60, bytes_61, bytes_62, bytes_63, bytes_64, bytes_65, bytes_74, bytes_75, bytes_82, bytes_83, bytes_84, bytes_85, bytes_95, bytes_103, bytes_104, bytes_105, bytes_125, bytes_126, bytes_127, bytes_131, bytes_150, bytes_151, bytes_152, bytes_153, bytes_154, bytes_159, bytes_167, bytes_168, bytes_181, bytes_182, bytes_190, bytes_197, bytes_210, bytes_214, bytes_215, bytes_218, bytes_251, bytes_252, bytes_254, bytes_259, bytes_260, bytes_261, bytes_269, bytes_272, bytes_279, bytes_286, bytes_287, bytes_288, bytes_289, bytes_290, bytes_294, bytes_296, bytes_302, bytes_305, bytes_307, true_and, and_true] <;> omega))
    | with_reducible trivial
    | exact noSh_str _
    | (refine Met.by h1 ?_; rintro q outs ⟨rfl, rfl⟩)
    | (refine Met.by h2 ?_; rintro q outs ⟨rfl, rfl⟩)
    | (refine Met.by h3 ?_; rintro q outs ⟨rfl, rfl⟩)
    | (refine Two.mk (Step.out ?_) (Step.out ?_))
    | (refine CallQ.of_ct (Step.out ?_))
    | (refine Vc.mk ?_ (Step.out ?_))
end Kx
/-
  The deck's parameters.
-/
open Go Sx Go.Proofs
set_option linter.unusedSimpArgs false
set_option linter.unusedVariables false
namespace Kx
def Pm.z : Pm := ⟨0, 0, 0⟩
def PsL (n : Nat) (l : List Pm) : Prop := ∀ i, i < l.length → (l.getD i Pm.z).ok ∧ (l.getD i Pm.z).s < n ∧ (l.getD i Pm.z).s ≠ i
theorem PsL.snoc {n : Nat} {l : List Pm} (h : PsL n l) (p : Pm) (h1 : p.ok) (h2 : p.s < n) (h3 : p.s ≠ l.length) : PsL n (l ++ [p]) := fun i hi => by
  rw [List.length_append, List.length_cons, List.length_nil] at hi
  by_cases e : i < l.length
  · rw [List.getD_eq_getElem?_getD, List.getElem?_append_left e, ← List.getD_eq_getElem?_getD]
    exact h i e
  · have e : i = l.length := by omega
    subst e
    rw [List.getD_eq_getElem?_getD, List.getElem?_append_right (Nat.le_refl _), Nat.sub_self]
    exact ⟨h1, h2, h3⟩
theorem next_of (i n : Nat) (hi : i < n) (h1 : 1 < n) : 0 ≤ ((i : Int) + 1).tmod n ∧ ((i : Int) + 1).tmod n < n ∧ ((i : Int) + 1).tmod n ≠ i := by
  rw [Int.tmod_eq_emod_of_nonneg (by omega)]
  by_cases e : i + 1 = n
  · rw [show (i : Int) + 1 = n by omega, Int.emod_self]; omega
  · rw [Int.emod_eq_of_lt (by omega) (by omega)]; omega
theorem pm_ok {a b s : Int} (ha : 0 ≤ a ∧ ((3 : Int) < 1 → a = 0) ∧ ((1 : Int) ≤ 3 → a < 3)) (hb : 0 ≤ b ∧ ((6 : Int) < 1 → b = 0) ∧ ((1 : Int) ≤ 6 → b < 6)) (s1 : -1 ≤ s) (s2 : s < 5) : (Pm.mk (64 * (1 + a)) (1 + b) s).ok := by
  have a3 := ha.2.2 (by decide)
  have b3 := hb.2.2 (by decide)
  have a0 := ha.1
  have b0 := hb.1
  refine ⟨?_, ?_, ?_, s1, s2⟩
  · show 64 * (1 + a) = 64 ∨ 64 * (1 + a) = 128 ∨ 64 * (1 + a) = 192
    omega
  · show 1 ≤ 1 + b
    omega
  · show 1 + b ≤ 16
    omega
theorem Ps_step {n : Nat} {l : List Pm} {p : Pm} (h : PsL n l) (hi : (l.length : Int) < n) (h1 : p.ok) (h2 : p.s < n) (h3 : p.s ≠ l.length) : ((l ++ [p]).length ≤ n ∧ PsL n (l ++ [p])) ∧ n - (l ++ [p]).length < n - l.length := by
  have e : (l ++ [p]).length = l.length + 1 := by simp
  exact ⟨⟨by omega, h.snoc p h1 h2 h3⟩, by omega⟩
def pmsL (l : List Pm) : Nat → List D := fun i => (l.getD i Pm.z).l
set_option maxHeartbeats 1000000 in
theorem pars_ct (d : Dk) (n : Nat) (h1 : 1 ≤ n) (h5 : n ≤ 5) : Ct Tryz.prog 8 [d.b, i64 n] fun r outs => ∃ (l : List Pm) (d' : Dk), (PsL n l ∧ l.length = n) ∧ r = .tab 3 l.length (pmsL l) ∧ outs = [Dk.b d'] := by
  refine .some2 (.of_W (fn := Tryz.f8) hΓ hm Tryz.func8 [] [] (by kernel_rfl) (Step.out ?_))
  repeat' first
    | (refine Step.mk ?_; conv => whnf)
  refine CodeOK.loopW hΓ hm [] [] (by kernel_rfl) (α := List Pm × Dk) (fun z => [(0, .loc 0 0), (1, i64 n), (5, .own 1), (6, i64 z.1.length)]) (fun z => [(0, .var z.2.ls), (1, .arr 63 3 z.1.length (pmsL z.1))]) 2 (fun z => z.1.length ≤ n ∧ PsL n z.1) (fun z => n - z.1.length) ?_ ?_
  · refine Again.by ([], d) ⟨Nat.zero_le _, nofun⟩ ?_
    repeat' first
      | (refine Step.mk ?_; conv => whnf)
      | (refine Vc.om ?_ ?_; first | omega | with_reducible rfl | with_reducible exact same_rfl)
      | with_reducible trivial
      | (rfl)
      | (refine Vc.mk ?_ (Step.out ?_))
  · intro ⟨l, d⟩ ⟨hi, hl⟩
    dsimp only at hi hl ⊢
    have hnx := fun h => next_of l.length n h
    repeat' first
      | (refine Step.mk ?_; conv => whnf)
      | (refine Vc.om ?_ ?_; first | omega | with_reducible rfl | with_reducible exact same_rfl)
      | (refine Vc.om ?_ ?_; (simp only [bytes_2, bytes_3, bytes_4, bytes_5, bytes_9, bytes_12, bytes_21, bytes_22, bytes_25, bytes_27, bytes_28, bytes_29, bytes_30, bytes_31, bytes_32, bytes_33, bytes_35, bytes_37, bytes_38, bytes_39, bytes_41, bytes_43, bytes_49, bytes_53, bytes_54, bytes_55, bytes_60, bytes_61, bytes_62, bytes_63, bytes_64, bytes_65, bytes_74, bytes_75, bytes_82, bytes_83, bytes_84, bytes_85, bytes_95, bytes_103, bytes_104, bytes_105, bytes_125, bytes_126, bytes_127, bytes_131, bytes_150, bytes_151, bytes_152, bytes_153, bytes_154, bytes_159, bytes_167, bytes_168, bytes_181, bytes_182, bytes_190, bytes_197, bytes_210, bytes_214, bytes_215, bytes_218, bytes_251, bytes_252, bytes_254, bytes_259, bytes_260, bytes_261, bytes_269, bytes_272, bytes_279, bytes_286, bytes_287, bytes_288, bytes_289, bytes_290, bytes_294, bytes_296, bytes_302, bytes_305, bytes_307, true_and, and_true] <;> omega))
      | (refine Wr.i64 ?_ ?_; omega)
      | (refine Br.d (fun h => ?_) (fun h => ?_))
      | (refine Br.mk (fun h => Step.out ?_) (fun h => Step.out ?_))
      | (refine CallOK.io1 (g := 24) (Step.out ?_))
      | (refine CallOK.io1 (g := 25) (Step.out ?_))
      | (refine Met.by (g := 24) (next_ct _ _) ?_; rintro q outs ⟨x, d, hx, rfl, rfl⟩)
      | (refine Met.by (g := 25) (one_ct _ _) ?_; rintro q outs ⟨x, d, hx, rfl, rfl⟩)
    · rename_i _ _ hA a _ ha b _ hb hB
      obtain ⟨t1, t2, t3⟩ := hnx (by omega) (by omega)
      have hlen : (l ++ [Pm.mk (64 * (1 + a)) (1 + b) (((l.length : Nat) + 1 : Int).tmod n)]).length = l.length + 1 := by simp
      refine Again.by (l ++ [⟨64 * (1 + a), 1 + b, ((l.length : Int) + 1).tmod n⟩], d) (Ps_step hl hA (pm_ok ha hb (by omega) (by omega)) t2 t3) ?_
      repeat' first
        | (refine Step.mk ?_; conv => whnf)
        | (refine Vc.om ?_ ?_; first | omega | with_reducible rfl | with_reducible exact same_rfl)
        | (refine Vc.om ?_ ?_; (simp only [bytes_2, bytes_3, bytes_4, bytes_5, bytes_9, bytes_12, bytes_21, bytes_22, bytes_25, bytes_27, bytes_28, bytes_29, bytes_30, bytes_31, bytes_32, bytes_33, bytes_35, bytes_37, bytes_38, bytes_39, bytes_41, bytes_43, bytes_49, bytes_53, bytes_54, bytes_55, bytes_60, bytes_61, bytes_62, bytes_63, bytes_64, bytes_65, bytes_74, bytes_75, bytes_82, bytes_83, bytes_84, bytes_85, bytes_95, bytes_103, bytes_104, bytes_105, bytes_125, bytes_126, bytes_127, bytes_131, bytes_150, bytes_151, bytes_152, bytes_153, bytes_154, bytes_159, bytes_167, bytes_168, bytes_181, bytes_182, bytes_190, bytes_197, bytes_210, bytes_214, bytes_215, bytes_218, bytes_251, bytes_252, bytes_254, bytes_259, bytes_260, bytes_261, bytes_269, bytes_272, bytes_279, bytes_286, bytes_287, bytes_288, bytes_289, bytes_290, bytes_294, bytes_296, bytes_302, bytes_305, bytes_307, true_and, and_true] <;> omega))
        | with_reducible trivial
        | (exact app_one Pm.l Pm.z (fun _ _ => rfl) l _ rfl)
        | (refine Vc.mk ?_ (Step.out ?_))
    · rename_i _ _ hA a _ ha b _ hb hB
      have hlen : (l ++ [Pm.mk (64 * (1 + a)) (1 + b) (-1)]).length = l.length + 1 := by simp
      refine Again.by (l ++ [⟨64 * (1 + a), 1 + b, -1⟩], d) (Ps_step hl hA (pm_ok ha hb (by omega) (by omega)) (by dsimp only; omega) (by dsimp only; omega)) ?_
      repeat' first
        | (refine Step.mk ?_; conv => whnf)
        | (refine Vc.om ?_ ?_; first | omega | with_reducible rfl | with_reducible exact same_rfl)
        | (refine Vc.om ?_ ?_; (simp only [bytes_2, bytes_3, bytes_4, bytes_5, bytes_9, bytes_12, bytes_21, bytes_22, bytes_25, bytes_27, bytes_28, bytes_29, bytes_30, bytes_31, bytes_32, bytes_33, bytes_35, bytes_37, bytes_38, bytes_39, bytes_41, bytes_43, bytes_49, bytes_53, bytes_54, bytes_55, bytes_60, bytes_61, bytes_62, bytes_63, bytes_64, bytes_65, bytes_74, bytes_75, bytes_82, bytes_83, bytes_84, bytes_85, bytes_95, bytes_103, bytes_104, bytes_105, bytes_125, bytes_126, bytes_127, bytes_131, bytes_150, bytes_151, bytes_152, bytes_153, bytes_154, bytes_159, bytes_167, bytes_168, bytes_181, bytes_182, bytes_190, bytes_197, bytes_210, bytes_214, bytes_215, bytes_218, bytes_251, bytes_252, bytes_254, bytes_259, bytes_260, bytes_261, bytes_269, bytes_272, bytes_279, bytes_286, bytes_287, bytes_288, bytes_289, bytes_290, bytes_294, bytes_296, bytes_302, bytes_305, bytes_307, true_and, and_true] <;> omega))
        | with_reducible trivial
        | (exact app_one Pm.l Pm.z (fun _ _ => rfl) l _ rfl)
        | (refine Vc.mk ?_ (Step.out ?_))
    · rename_i _ _ hA a _ ha
      have hlen : (l ++ [Pm.mk (64 * (1 + a)) (1 + x) (-1)]).length = l.length + 1 := by simp
      refine Again.by (l ++ [⟨64 * (1 + a), 1 + x, -1⟩], d) (Ps_step hl hA (pm_ok ha hx (by omega) (by omega)) (by dsimp only; omega) (by dsimp only; omega)) ?_
      repeat' first
        | (refine Step.mk ?_; conv => whnf)
        | (refine Vc.om ?_ ?_; first | omega | with_reducible rfl | with_reducible exact same_rfl)
        | (refine Vc.om ?_ ?_; (simp only [bytes_2, bytes_3, bytes_4, bytes_5, bytes_9, bytes_12, bytes_21, bytes_22, bytes_25, bytes_27, bytes_28, bytes_29, bytes_30, bytes_31, bytes_32, bytes_33, bytes_35, bytes_37, bytes_38, bytes_39, bytes_41, bytes_43, bytes_49, bytes_53, bytes_54, bytes_55, bytes_60, bytes_61, bytes_62, bytes_63, bytes_64, bytes_65, bytes_74, bytes_75, bytes_82, bytes_83, bytes_84, bytes_85, bytes_95, bytes_103, bytes_104, bytes_105, bytes_125, bytes_126, bytes_127, bytes_131, bytes_150, bytes_151, bytes_152, bytes_153, bytes_154, bytes_159, bytes_167, bytes_168, bytes_181, bytes_182, bytes_190, bytes_197, bytes_210, bytes_214, bytes_215, bytes_218, bytes_251, bytes_252, bytes_254, bytes_259, bytes_260, bytes_261, bytes_269, bytes_272, bytes_279, bytes_286, bytes_287, bytes_288, bytes_289, bytes_290, bytes_294, bytes_296, bytes_302, bytes_305, bytes_307, true_and, and_true] <;> omega))
        | with_reducible trivial
        | (exact app_one Pm.l Pm.z (fun _ _ => rfl) l _ rfl)
        | (refine Vc.mk ?_ (Step.out ?_))
    · refine Lf2.by l d ⟨hl, by omega⟩ ?_
      repeat' first
        | (refine Step.mk ?_; conv => whnf)
        | with_reducible trivial
        | with_reducible exact same_rfl
        | (refine Two.mk (Step.out ?_) (Step.out ?_))
end Kx
/-
  Days as written.
-/
open Go Sx Go.Proofs
set_option linter.unusedSimpArgs false
set_option linter.unusedVariables false
namespace Kx
theorem mod3_ct (k : Int) (hk : 0 ≤ k ∧ k ≤ 2) : Ct Tryz.prog 12 [i64 k, i64 3] fun r outs => r = i64 k ∧ outs = [] := by
  refine .det (.of_W (fn := Tryz.f12) hΓ hm Tryz.func12 [] [] (by kernel_rfl) (Step.out ?_))
  have e : k.tmod 3 = k := by rw [Int.tmod_eq_emod_of_nonneg (by omega)]; omega
  have e2 : (k.tmod 3 + 3).tmod 3 = k := by rw [e, Int.tmod_eq_emod_of_nonneg (by omega)]; omega
  repeat' first
    | (refine Step.mk ?_; conv => whnf)
    | (refine Vc.om ?_ ?_; first | omega | with_reducible rfl | with_reducible exact same_rfl)
    | with_reducible trivial
    | (refine Wr.i64 ?_ ?_; omega)
    | (refine Br.dF ?_ ?_; omega)
    | (refine Two.mk (Step.out ?_) (Step.out ?_))
def writtenS (y m d k : Int) : Str := if k = 0 then putS (y / 100) 2 ++ putS (y % 100) 2 ++ [45] ++ putS m 2 ++ [45] ++ putS d 2 else if k = 1 then putS d 2 ++ [46] ++ putS m 2 ++ [46] ++ (putS (y / 100) 2 ++ putS (y % 100) 2) else putS m 2 ++ [47] ++ putS d 2 ++ [47] ++ (putS (y / 100) 2 ++ putS (y % 100) 2)
theorem written_ct (y m d k : Int) (hk : 0 ≤ k ∧ k ≤ 2) (hy : 0 ≤ y ∧ y ≤ 9999) (hmo : 0 ≤ m ∧ m ≤ 99) (hd : 0 ≤ d ∧ d ≤ 99) : Ct Tryz.prog 104 [.agg [i64 y, i64 m, i64 d], i64 k] fun r outs => r = .str (writtenS y m d k) ∧ outs = [] := by
  unfold writtenS
  have e1 := mtwo_ct (y / 100) (by omega) (by omega)
  have e2 := mtwo_ct (y % 100) (by omega) (by omega)
  have e3 := mtwo_ct m (by omega) (by omega)
  have e4 := mtwo_ct d (by omega) (by omega)
  have lA : (putS (y / 100) 2).length = 2 := rfl
  have lB : (putS (y % 100) 2).length = 2 := rfl
  have lC : (putS m 2).length = 2 := rfl
  have lD : (putS d 2).length = 2 := rfl
  have e5 := mod3_ct k hk
  generalize hA : putS (y / 100) 2 = A at *
  generalize hB : putS (y % 100) 2 = B at *
  generalize hC : putS m 2 = C at *
  generalize hD : putS d 2 = E at *
  refine .det (.of_W (fn := Tryz.f104) hΓ hm Tryz.func104 ord104 [] (by kernel_rfl) (Step.out ?_))
  repeat' first
    | (rw [Int.tdiv_eq_ediv_of_nonneg (by omega)])
    | (rw [Int.tmod_eq_emod_of_nonneg (by omega)])
    | (refine Step.mk ?_; conv => whnf)
    | (refine Vc.om ?_ ?_; first | omega | with_reducible rfl | with_reducible exact same_rfl)
    | with_reducible trivial
    | (refine Wr.i64 ?_ ?_; omega)
    | (refine Met.by e1 ?_; rintro q outs ⟨rfl, rfl⟩)
    | (refine Met.by e2 ?_; rintro q outs ⟨rfl, rfl⟩)
    | (refine Met.by e3 ?_; rintro q outs ⟨rfl, rfl⟩)
    | (refine Met.by e4 ?_; rintro q outs ⟨rfl, rfl⟩)
    | (refine Met.by e5 ?_; rintro q outs ⟨rfl, rfl⟩)
    | (refine Vc.om ?_ ?_; focus ((simp only [List.length_append, List.length_cons, List.length_nil]; omega); done))
    | (refine Br.d (fun h => ?_) (fun h => ?_))
    | (refine Two.mk (Step.out ?_) (Step.out ?_))
    | (refine CallOK.of_ct (Step.out ?_))
    | (refine CallQ.of_ct (Step.out ?_))
  · rw [if_pos ‹k = 0›]
  · rw [if_neg (by omega), if_pos ‹k = 1›]
  · rw [if_neg (by omega), if_neg (by omega)]
end Kx
/-
  The deck's raw values.
-/
open Go Sx Go.Proofs
set_option linter.unusedSimpArgs false
set_option linter.unusedVariables false
namespace Kx
def codesL : List Str := [[83, 87, 49, 32, 49, 65, 65], [56, 48, 48, 49], [56, 48, 32, 48, 50], [97, 45, 49]]
def addrsL : List Str := [[49, 50, 32, 77, 97, 105, 110, 32, 83, 116, 46], [77, 97, 105, 110, 32, 83, 116, 32, 49, 50], [80, 97, 114, 107, 32, 82, 100, 32, 51, 98], [77, 97, 105, 110, 32, 83, 116, 114, 101, 101, 116], [48, 48, 55, 32, 80, 97, 114, 107, 32, 114, 100]]
def namesL : List Str := [[114, 111, 98, 101, 114, 116, 32, 115, 109, 105, 116, 104], [98, 111, 98, 32, 115, 109, 105, 116, 104], [114, 117, 112, 101, 114, 116], [97, 110, 110, 97, 32, 109, 105, 108, 108, 101, 114], [97, 110, 110], [111, 110, 101, 105, 108, 108], [109, 97, 114, 105, 97, 32, 118, 97, 110, 32, 115, 109, 105, 116, 104], [112, 101, 116, 101, 114]]
def RawP (k : Int) (x : Str) : Prop :=
  x = [] ∨ (k = 2 ∧ ∃ y m d w : Int, (1980 ≤ y ∧ y ≤ 1981) ∧ (1 ≤ m ∧ m ≤ 3) ∧ (1 ≤ d ∧ d ≤ 3) ∧ x = writtenS y m d w) ∨ (k = 3 ∧ x ∈ codesL) ∨ (k = 4 ∧ x ∈ addrsL) ∨
  (k ≠ 2 ∧ k ≠ 3 ∧ k ≠ 4 ∧ ∃ n ∈ namesL, x.length ≤ 2 * n.length + 2 ∧ (foldedC n → (∀ y ∈ x, isPrn y = true) ∧ toks (x.flatMap plainS) = toks n))
theorem rawv_ct (d : Dk) (k : Int) : Ct Tryz.prog 62 [d.b, i64 k] fun r outs => ∃ (x : Str) (d' : Dk), RawP k x ∧ r = .str x ∧ outs = [Dk.b d'] := by
  refine .some2 (.of_W (fn := Tryz.f62) hΓ hm Tryz.func62 [] [] (by kernel_rfl) (Step.out ?_))
  repeat' first
    | (refine Step.mk ?_; conv => whnf)
    | (refine Wr.i64 ?_ ?_; omega)
    | (refine Met.by (picks_ct _ namesL (by decide) (by decide)) ?_; rintro q outs ⟨x, d, hx, rfl, rfl⟩)
    | (refine Met.by (picks_ct _ codesL (by decide) (by decide)) ?_; rintro q outs ⟨x, d, hx, rfl, rfl⟩)
    | (refine Met.by (picks_ct _ addrsL (by decide) (by decide)) ?_; rintro q outs ⟨x, d, hx, rfl, rfl⟩)
    | (refine Br.d (fun h => ?_) (fun h => ?_))
    | (refine Br.mk (fun h => Step.out ?_) (fun h => Step.out ?_))
    | (refine CallOK.io1 (g := 24) (Step.out ?_))
    | (refine CallOK.io1 (g := 25) (Step.out ?_))
    | (refine CallOK.io1F (g := 105) (Step.out ?_))
    | (refine CallOK.io1 (g := 106) (Step.out ?_))
    | (refine CallOK.of_ct (Step.out ?_))
    | (refine Met.by (g := 24) (next_ct _ _) ?_; rintro q outs ⟨x, d, hx, rfl, rfl⟩)
    | (refine Met.by (g := 25) (one_ct _ _) ?_; rintro q outs ⟨x, d, hx, rfl, rfl⟩)
    | (refine Met.by (g := 104) (written_ct _ _ _ _ (by omega) (by omega) (by omega) (by omega)) ?_; rintro q outs ⟨rfl, rfl⟩)
  · refine Lf2.by [] d (.inl rfl) ?_
    repeat' first
      | (refine Step.mk ?_; conv => whnf)
      | with_reducible trivial
      | with_reducible exact same_rfl
      | (refine Two.mk (Step.out ?_) (Step.out ?_))
  · rename_i a _ ha b _ hb c _ hc
    have a3 := ha.2.2 (by decide); have b3 := hb.2.2 (by decide); have c3 := hc.2.2 (by decide)
    have a4 := ha.2.2 (by decide)
    refine Lf2.by (writtenS (1980 + a) (1 + b) (1 + c) x) d (.inr (.inl ⟨h, 1980 + a, 1 + b, 1 + c, x, ⟨by omega, by omega⟩, ⟨by omega, by omega⟩, ⟨by omega, by omega⟩, rfl⟩)) ?_
    repeat' first
      | (refine Step.mk ?_; conv => whnf)
      | with_reducible trivial
      | with_reducible exact same_rfl
      | (refine Two.mk (Step.out ?_) (Step.out ?_))
  · refine Lf2.by x d (.inr (.inr (.inl ⟨h, hx⟩))) ?_
    repeat' first
      | (refine Step.mk ?_; conv => whnf)
      | with_reducible trivial
      | with_reducible exact same_rfl
      | (refine Two.mk (Step.out ?_) (Step.out ?_))
  · refine Lf2.by x d (.inr (.inr (.inr (.inl ⟨h, hx⟩)))) ?_
    repeat' first
      | (refine Step.mk ?_; conv => whnf)
      | with_reducible trivial
      | with_reducible exact same_rfl
      | (refine Two.mk (Step.out ?_) (Step.out ?_))
  · have hN : ∀ n ∈ namesL, n.length ≤ 100000 := by decide
    refine Met.by (dressP_ct _ x (hN _ hx)) ?_
    rintro q outs ⟨z, d, hz, rfl, rfl⟩
    repeat' first
      | (refine Step.mk ?_; conv => whnf)
    refine Lf2.by z d (.inr (.inr (.inr (.inr ⟨‹_›, ‹_›, h, x, hx, hz⟩)))) ?_
    repeat' first
      | (refine Step.mk ?_; conv => whnf)
      | with_reducible trivial
      | with_reducible exact same_rfl
      | (refine Two.mk (Step.out ?_) (Step.out ?_))
end Kx
