/-
  The deck: raw texts, and folded texts dressed.
  No condition beyond those written in each theorem.
-/
import Derived.Test.YthokblligmllfaaDoorKSe
import Derived.Test.YthokblligmllfaaDoorFD
open Go Sx Go.Proofs
set_option linter.unusedSimpArgs false
set_option linter.unusedVariables false
namespace Kx
def DC (s : Str) (i : Nat) (y : Dk × Nat × Str) : Prop := (y.2.1 ≤ s.length ∧ y.2.2.length ≤ 2 * y.2.1 + 1 ∧ (foldedC s → DrI (s.take y.2.1) y.2.2)) ∧ s.length - y.2.1 < s.length - i
theorem dr_take {s : Str} {i : Nat} (hi : (i : Int) < s.length) : s.take (i + 1) = s.take i ++ [s.getD (i : Int).toNat 0] := by
  rw [Int.toNat_natCast]; exact take_step s 0 i (by omega)
theorem dr_sep {s o a : Str} {i : Nat} {d : Dk} (hi : (i : Int) < s.length) (hb : ((s.getD (i : Int).toNat 0).toNat : Int) = 32) (h2 : o.length ≤ 2 * i + 1) (h3 : foldedC s → DrI (s.take i) o) (ha1 : a.length ≤ 2) (ha2 : sepB a = true) : DC s i (d, i + 1, o ++ a) := by
  have e : s.getD (i : Int).toNat 0 = 32 := UInt8.toNat_inj.1 (by show _ = 32; omega)
  refine ⟨⟨by dsimp only; omega, by simp only [List.length_append]; omega, fun hc => ?_⟩, by dsimp only; omega⟩
  dsimp only
  rw [dr_take hi, e]
  exact (h3 hc).sep ha2
theorem dr_ch {s o : Str} {i : Nat} {d : Dk} (c : UInt8) (hi : (i : Int) < s.length) (hc : isAn (s.getD (i : Int).toNat 0) = true ∨ s.getD (i : Int).toNat 0 = 32 → plainS c = [s.getD (i : Int).toNat 0] ∧ isPrn c = true) (h2 : o.length ≤ 2 * i + 1) (h3 : foldedC s → DrI (s.take i) o) : DC s i (d, i + 1, o ++ [c]) ∧ DC s i (d, i + 1, o ++ [c] ++ [39]) := by
  have key : foldedC s → DrI (s.take (i + 1)) (o ++ [c]) := fun hf => by
    obtain ⟨e1, e2⟩ := hc (hf _ (by rw [Int.toNat_natCast]; exact getD_in (by omega)))
    rw [dr_take hi]
    exact (h3 hf).same (by simpa using e2) (by simpa using e1)
  refine ⟨⟨⟨by dsimp only; omega, by simp only [List.length_append, List.length_cons, List.length_nil]; omega, key⟩, by dsimp only; omega⟩, ⟨by dsimp only; omega, by simp only [List.length_append, List.length_cons, List.length_nil]; omega, fun hf => ?_⟩, by dsimp only; omega⟩
  have := (key hf).same (a := [39]) (b := []) (by decide +kernel) (by decide +kernel)
  simpa using this
theorem low_up : ∀ x : UInt8, 97 ≤ x.toNat → x.toNat ≤ 122 → plainS (x - 32) = [x] ∧ isPrn (x - 32) = true ∧ (x - 32).toNat + 32 = x.toNat := u8_dec (by decide +kernel)
theorem one_dn {x : UInt8} (h1 : 97 ≤ (x.toNat : Int)) (h2 : (x.toNat : Int) ≤ 122) (i : Nat) (hi : i < [x - 32].length) : selC [[D.int .u8 ((x.toNat : Int) - 32)]] i = bytesF [x - 32] i := by
  have : i = 0 := by simpa using hi
  subst this
  have : ((x - 32).toNat : Int) = x.toNat - 32 := by have := (low_up x (by omega) (by omega)).2.2; omega
  simp only [selC, bytesF, List.getD_cons_zero, this]
theorem dr_end {s o a : Str} {i : Nat} (hi : i ≤ s.length) (hn : ¬(i : Int) < s.length) (h2 : o.length ≤ 2 * i + 1) (h3 : foldedC s → DrI (s.take i) o) (ha1 : a.length ≤ 1) (ha2 : endB a = true) : (o ++ a).length ≤ 2 * s.length + 2 ∧ (foldedC s → validL (o ++ a) = true ∧ toks (rawL (o ++ a)) = toks s) := by
  refine ⟨by simp only [List.length_append]; omega, fun hf => ?_⟩
  have := (h3 hf).done ha2
  rwa [show i = s.length by omega, List.take_length] at this
theorem dress_ct (d : Dk) (s : Str) (hs : s.length ≤ 100000) : Ct Tryd.prog 48 [d.b, .str s] fun r outs => ∃ x d', (x.length ≤ 2 * s.length + 2 ∧ (foldedC s → validL x = true ∧ toks (rawL x) = toks s)) ∧ r = .str x ∧ outs = [Dk.b d'] := by
  refine .some2 (.of_W (fn := Tryd.f48) hΓ hm Tryd.func48 [] [] (by kernel_rfl) (Step.out ?_))
  repeat' first
    | (refine Step.mk ?_; conv => whnf)
    | (refine Vc.om ?_ ?_; first | omega | with_reducible rfl | with_reducible exact same_rfl | (simp only [bytes_2, bytes_3, bytes_4, bytes_5, bytes_9, bytes_12, bytes_21, bytes_22, bytes_25, bytes_27, bytes_28, bytes_29, bytes_30, bytes_34, bytes_45, bytes_49, bytes_50, bytes_51, bytes_52, bytes_53, bytes_54, bytes_64, bytes_67, bytes_68, bytes_73, bytes_75, bytes_76, bytes_77, bytes_92, bytes_93, bytes_94, bytes_95, bytes_98, bytes_102, bytes_112, bytes_123, bytes_129]; omega))
    | (refine NilB.mk fun b hb => Step.out ?_)
    | with_reducible trivial
    | exact noSh_bool _
    | exact noSh_lit _
    | exact noSh_int _ _
    | exact noSh_str _
    | with_reducible rfl
    | with_reducible exact same_rfl
    | (refine Wr.i64 ?_ ?_; omega)
    | (refine Wr.u8 ?_ ?_; omega)
    | (refine Wr.i32 ?_ ?_; omega)
    | (with_reducible refine Br.tt ?_)
    | (with_reducible refine Br.ff ?_)
    | (refine Br.dT ?_ ?_; omega)
    | (refine Br.dF ?_ ?_; omega)
    | (refine Met.by (picksP_ct (fun s => s.length ≤ 1 ∧ endB s = true) _ [[], [], [32], [45]] (by decide +kernel) (by first | omega | decide | (simp; done) | (simp; omega)) (by first | omega | decide | (simp; done) | (simp; omega))) ?_; rintro q outs ⟨o, d, ⟨ho1, ho2⟩, rfl, rfl⟩)
    | (refine Br.d (fun h => ?_) (fun h => ?_))
    | (refine Br.swap ?_)
    | (refine Br.bnot ?_)
    | (refine Br.mk (fun h => Step.out ?_) (fun h => Step.out ?_))
    | (refine Two.mk (Step.out ?_) (Step.out ?_))
    | (refine CallOK.io1F (g := 13) (Step.out ?_))
    | (refine CallOK.io1 (g := 19) (Step.out ?_))
    | (refine CallOK.of_ct (Step.out ?_))
    | (refine Met.by (g := 13) (picks_ct _ [] (by first | omega | decide | (simp; done) | (simp; omega)) (by first | omega | decide | (simp; done) | (simp; omega))) ?_; rintro q outs ⟨x, d, hx, rfl, rfl⟩)
    | (refine Met.by (g := 19) (one_ct _ _) ?_; rintro q outs ⟨x, d, hx, rfl, rfl⟩)
    | (refine Vc.mk ?_ (Step.out ?_))
  refine CodeOK.loopW hΓ hm [] [] (by kernel_rfl) (α := Dk × Nat × Str) (fun z => [(0, .loc 0 0), (1, .str s), (5, .str z.2.2), (6, i64 z.2.1)]) (fun z => [(0, .var z.1.ls)]) 1 (fun z => z.2.1 ≤ s.length ∧ z.2.2.length ≤ 2 * z.2.1 + 1 ∧ (foldedC s → DrI (s.take z.2.1) z.2.2)) (fun z => s.length - z.2.1) ?_ ?_
  · refine Again.by (d, 0, o) ⟨Nat.zero_le _, by dsimp only; omega, fun _ => DrI.start ho2⟩ ?_
    repeat' first
      | (refine Step.mk ?_; conv => whnf)
      | (refine Vc.om ?_ ?_; first | omega | with_reducible rfl | with_reducible exact same_rfl | (simp only [bytes_2, bytes_3, bytes_4, bytes_5, bytes_9, bytes_12, bytes_21, bytes_22, bytes_25, bytes_27, bytes_28, bytes_29, bytes_30, bytes_34, bytes_45, bytes_49, bytes_50, bytes_51, bytes_52, bytes_53, bytes_54, bytes_64, bytes_67, bytes_68, bytes_73, bytes_75, bytes_76, bytes_77, bytes_92, bytes_93, bytes_94, bytes_95, bytes_98, bytes_102, bytes_112, bytes_123, bytes_129]; omega))
      | (refine NilB.mk fun b hb => Step.out ?_)
      | with_reducible trivial
      | exact noSh_bool _
      | exact noSh_lit _
      | exact noSh_int _ _
      | exact noSh_str _
      | with_reducible rfl
      | with_reducible exact same_rfl
      | (refine Wr.i64 ?_ ?_; omega)
      | (refine Wr.u8 ?_ ?_; omega)
      | (refine Wr.i32 ?_ ?_; omega)
      | (with_reducible refine Br.tt ?_)
      | (with_reducible refine Br.ff ?_)
      | (refine Br.dT ?_ ?_; omega)
      | (refine Br.dF ?_ ?_; omega)
      | (refine Br.d (fun h => ?_) (fun h => ?_))
      | (refine Br.swap ?_)
      | (refine Br.bnot ?_)
      | (refine Br.mk (fun h => Step.out ?_) (fun h => Step.out ?_))
      | (refine Two.mk (Step.out ?_) (Step.out ?_))
      | (refine CallOK.io1F (g := 13) (Step.out ?_))
      | (refine CallOK.io1 (g := 19) (Step.out ?_))
      | (refine CallOK.of_ct (Step.out ?_))
      | (refine Met.by (g := 13) (picks_ct _ [] (by first | omega | decide | (simp; done) | (simp; omega)) (by first | omega | decide | (simp; done) | (simp; omega))) ?_; rintro q outs ⟨x, d, hx, rfl, rfl⟩)
      | (refine Met.by (g := 19) (one_ct _ _) ?_; rintro q outs ⟨x, d, hx, rfl, rfl⟩)
      | (refine Vc.mk ?_ (Step.out ?_))
  · intro ⟨d, i, o⟩ ⟨h1, h2, h3⟩
    dsimp only at h1 h2 h3 ⊢
    repeat' first
      | (refine Step.mk ?_; conv => whnf)
      | (refine Vc.om ?_ ?_; first | omega | with_reducible rfl | with_reducible exact same_rfl | (simp only [bytes_2, bytes_3, bytes_4, bytes_5, bytes_9, bytes_12, bytes_21, bytes_22, bytes_25, bytes_27, bytes_28, bytes_29, bytes_30, bytes_34, bytes_45, bytes_49, bytes_50, bytes_51, bytes_52, bytes_53, bytes_54, bytes_64, bytes_67, bytes_68, bytes_73, bytes_75, bytes_76, bytes_77, bytes_92, bytes_93, bytes_94, bytes_95, bytes_98, bytes_102, bytes_112, bytes_123, bytes_129]; omega))
      | (refine NilB.mk fun b hb => Step.out ?_)
      | with_reducible trivial
      | exact noSh_bool _
      | exact noSh_lit _
      | exact noSh_int _ _
      | exact noSh_str _
      | with_reducible rfl
      | with_reducible exact same_rfl
      | (refine Wr.i64 ?_ ?_; omega)
      | (refine Wr.u8 ?_ ?_; omega)
      | (refine Wr.i32 ?_ ?_; omega)
      | (with_reducible refine Br.tt ?_)
      | (with_reducible refine Br.ff ?_)
      | (refine Br.dT ?_ ?_; omega)
      | (refine Br.dF ?_ ?_; omega)
      | (refine Met.by (picksP_ct (fun s => s.length ≤ 2 ∧ sepB s = true) _ [[32], [45], [44, 32], [46], [32, 32], [47]] (by decide +kernel) (by first | omega | decide | (simp; done) | (simp; omega)) (by first | omega | decide | (simp; done) | (simp; omega))) ?_; rintro q outs ⟨a, d, ⟨ha1, ha2⟩, rfl, rfl⟩)
      | (refine Met.by (picksP_ct (fun s => s.length ≤ 1 ∧ endB s = true) _ [[], [], [32], [46]] (by decide +kernel) (by first | omega | decide | (simp; done) | (simp; omega)) (by first | omega | decide | (simp; done) | (simp; omega))) ?_; rintro q outs ⟨a, d, ⟨ha1, ha2⟩, rfl, rfl⟩)
      | (refine Lf.by [(s.getD (i : Int).toNat 0) - 32] ⟨rfl, one_dn ‹_› ‹_›⟩ ?_)
      | (refine Lf.by [(s.getD (i : Int).toNat 0)] ⟨rfl, one_by _⟩ ?_)
      | (refine Vc.om ?_ ?_; focus ((simp only [List.length_append, List.length_cons, List.length_nil]; omega); done))
      | (refine Wr.i64 ?_ ?_; focus ((simp only [List.length_append, List.length_cons, List.length_nil]; omega); done))
      | (refine Wr.u8 ?_ ?_; focus ((simp only [List.length_append, List.length_cons, List.length_nil]; omega); done))
      | (refine Br.dT ?_ ?_; focus ((simp only [List.length_append, List.length_cons, List.length_nil]; omega); done))
      | (refine Br.dF ?_ ?_; focus ((simp only [List.length_append, List.length_cons, List.length_nil]; omega); done))
      | (refine Again.by (d, i + 1, o ++ a) (dr_sep (by omega) (by omega) h2 h3 ha1 ha2) ?_)
      | (exact trivial)
      | (refine Br.d (fun h => ?_) (fun h => ?_))
      | (refine Br.swap ?_)
      | (refine Br.bnot ?_)
      | (refine Br.mk (fun h => Step.out ?_) (fun h => Step.out ?_))
      | (refine Two.mk (Step.out ?_) (Step.out ?_))
      | (refine CallOK.io1F (g := 13) (Step.out ?_))
      | (refine CallOK.io1 (g := 19) (Step.out ?_))
      | (refine CallOK.of_ct (Step.out ?_))
      | (refine Met.by (g := 13) (picks_ct _ [] (by first | omega | decide | (simp; done) | (simp; omega)) (by first | omega | decide | (simp; done) | (simp; omega))) ?_; rintro q outs ⟨x, d, hx, rfl, rfl⟩)
      | (refine Met.by (g := 19) (one_ct _ _) ?_; rintro q outs ⟨x, d, hx, rfl, rfl⟩)
      | (refine Vc.mk ?_ (Step.out ?_))
    all_goals try (first
      | (refine Again.by (d, i + 1, o ++ [(s.getD (i : Int).toNat 0) - 32]) (dr_ch ((s.getD (i : Int).toNat 0) - 32) (by omega) (fun _ => ⟨(low_up (s.getD (i : Int).toNat 0) (by omega) (by omega)).1, (low_up (s.getD (i : Int).toNat 0) (by omega) (by omega)).2.1⟩) h2 h3).1 ?_; ((try dsimp only); repeat' first | (refine Step.mk ?_; conv => whnf) | (refine Vc.om ?_ ?_; first | omega | with_reducible rfl | with_reducible exact same_rfl) | with_reducible trivial | with_reducible rfl); done)
      | (refine Again.by (d, i + 1, o ++ [(s.getD (i : Int).toNat 0) - 32] ++ [39]) (dr_ch ((s.getD (i : Int).toNat 0) - 32) (by omega) (fun _ => ⟨(low_up (s.getD (i : Int).toNat 0) (by omega) (by omega)).1, (low_up (s.getD (i : Int).toNat 0) (by omega) (by omega)).2.1⟩) h2 h3).2 ?_; ((try dsimp only); repeat' first | (refine Step.mk ?_; conv => whnf) | (refine Vc.om ?_ ?_; first | omega | with_reducible rfl | with_reducible exact same_rfl) | with_reducible trivial | with_reducible rfl); done)
      | (refine Again.by (d, i + 1, o ++ [(s.getD (i : Int).toNat 0)]) (dr_ch (s.getD (i : Int).toNat 0) (by omega) (plain_an (s.getD (i : Int).toNat 0)) h2 h3).1 ?_; ((try dsimp only); repeat' first | (refine Step.mk ?_; conv => whnf) | (refine Vc.om ?_ ?_; first | omega | with_reducible rfl | with_reducible exact same_rfl) | with_reducible trivial | with_reducible rfl); done)
      | (refine Again.by (d, i + 1, o ++ [(s.getD (i : Int).toNat 0)] ++ [39]) (dr_ch (s.getD (i : Int).toNat 0) (by omega) (plain_an (s.getD (i : Int).toNat 0)) h2 h3).2 ?_; ((try dsimp only); repeat' first | (refine Step.mk ?_; conv => whnf) | (refine Vc.om ?_ ?_; first | omega | with_reducible rfl | with_reducible exact same_rfl) | with_reducible trivial | with_reducible rfl); done))
    · refine Lf2.by (o ++ a) d (dr_end h1 ‹_› h2 h3 ha1 ha2) ?_
      repeat' first
        | (refine Step.mk ?_; conv => whnf)
        | (refine Vc.om ?_ ?_; first | omega | with_reducible rfl | with_reducible exact same_rfl | (simp only [bytes_2, bytes_3, bytes_4, bytes_5, bytes_9, bytes_12, bytes_21, bytes_22, bytes_25, bytes_27, bytes_28, bytes_29, bytes_30, bytes_34, bytes_45, bytes_49, bytes_50, bytes_51, bytes_52, bytes_53, bytes_54, bytes_64, bytes_67, bytes_68, bytes_73, bytes_75, bytes_76, bytes_77, bytes_92, bytes_93, bytes_94, bytes_95, bytes_98, bytes_102, bytes_112, bytes_123, bytes_129]; omega))
        | (refine NilB.mk fun b hb => Step.out ?_)
        | with_reducible trivial
        | exact noSh_bool _
        | exact noSh_lit _
        | exact noSh_int _ _
        | exact noSh_str _
        | with_reducible rfl
        | with_reducible exact same_rfl
        | (refine Wr.i64 ?_ ?_; omega)
        | (refine Wr.u8 ?_ ?_; omega)
        | (refine Wr.i32 ?_ ?_; omega)
        | (with_reducible refine Br.tt ?_)
        | (with_reducible refine Br.ff ?_)
        | (refine Br.dT ?_ ?_; omega)
        | (refine Br.dF ?_ ?_; omega)
        | (refine Br.d (fun h => ?_) (fun h => ?_))
        | (refine Br.swap ?_)
        | (refine Br.bnot ?_)
        | (refine Br.mk (fun h => Step.out ?_) (fun h => Step.out ?_))
        | (refine Two.mk (Step.out ?_) (Step.out ?_))
        | (refine CallOK.io1F (g := 13) (Step.out ?_))
        | (refine CallOK.io1 (g := 19) (Step.out ?_))
        | (refine CallOK.of_ct (Step.out ?_))
        | (refine Met.by (g := 13) (picks_ct _ [] (by first | omega | decide | (simp; done) | (simp; omega)) (by first | omega | decide | (simp; done) | (simp; omega))) ?_; rintro q outs ⟨x, d, hx, rfl, rfl⟩)
        | (refine Met.by (g := 19) (one_ct _ _) ?_; rintro q outs ⟨x, d, hx, rfl, rfl⟩)
        | (refine Vc.mk ?_ (Step.out ?_))
theorem text_ct (d : Dk) : Ct Tryd.prog 23 [d.b] fun r outs => ∃ x d', x.length ≤ 64 ∧ r = .str x ∧ outs = [Dk.b d'] := by
  refine .some2 (.of_W (fn := Tryd.f23) hΓ hm Tryd.func23 [] [] (by kernel_rfl) (Step.out ?_))
  repeat' first
    | (refine Step.mk ?_; conv => whnf)
    | (refine Vc.om ?_ ?_; first | omega | with_reducible rfl | with_reducible exact same_rfl | (simp only [bytes_2, bytes_3, bytes_4, bytes_5, bytes_9, bytes_12, bytes_21, bytes_22, bytes_25, bytes_27, bytes_28, bytes_29, bytes_30, bytes_34, bytes_45, bytes_49, bytes_50, bytes_51, bytes_52, bytes_53, bytes_54, bytes_64, bytes_67, bytes_68, bytes_73, bytes_75, bytes_76, bytes_77, bytes_92, bytes_93, bytes_94, bytes_95, bytes_98, bytes_102, bytes_112, bytes_123, bytes_129]; omega))
    | (refine NilB.mk fun b hb => Step.out ?_)
    | with_reducible trivial
    | exact noSh_bool _
    | exact noSh_lit _
    | exact noSh_int _ _
    | exact noSh_str _
    | with_reducible rfl
    | with_reducible exact same_rfl
    | (refine Wr.i64 ?_ ?_; omega)
    | (refine Wr.u8 ?_ ?_; omega)
    | (refine Wr.i32 ?_ ?_; omega)
    | (with_reducible refine Br.tt ?_)
    | (with_reducible refine Br.ff ?_)
    | (refine Br.dT ?_ ?_; omega)
    | (refine Br.dF ?_ ?_; omega)
    | (refine Br.d (fun h => ?_) (fun h => ?_))
    | (refine Br.swap ?_)
    | (refine Br.bnot ?_)
    | (refine Br.mk (fun h => Step.out ?_) (fun h => Step.out ?_))
    | (refine Two.mk (Step.out ?_) (Step.out ?_))
    | (refine CallOK.io1 (g := 12) (Step.out ?_))
    | (refine CallOK.io1F (g := 13) (Step.out ?_))
    | (refine CallOK.io1 (g := 18) (Step.out ?_))
    | (refine CallOK.of_ct (Step.out ?_))
    | (refine Met.by (g := 12) (token_ct _) ?_; rintro q outs ⟨x, d, ⟨hx1, hx2, hx3⟩, rfl, rfl⟩)
    | (refine Met.by (g := 13) (picks_ct _ [] (by first | omega | decide | (simp; done) | (simp; omega)) (by first | omega | decide | (simp; done) | (simp; omega))) ?_; rintro q outs ⟨x, d, hx, rfl, rfl⟩)
    | (refine Met.by (g := 18) (next_ct _ _) ?_; rintro q outs ⟨x, d, hx, rfl, rfl⟩)
    | (refine Vc.mk ?_ (Step.out ?_))
  refine CodeOK.loopW hΓ hm [] [] (by kernel_rfl) (α := Dk × Str × Int) (fun z => [(0, .loc 0 0), (3, .str z.2.1), (4, i64 z.2.2)]) (fun z => [(0, .var z.1.ls)]) 1 (fun z => 0 ≤ z.2.2 ∧ z.2.1.length + 11 * z.2.2 ≤ 44) (fun z => z.2.2.toNat) ?_ ?_
  · refine Again.by (d, [], x) ⟨by dsimp only; omega, by simp; omega⟩ ?_
    dsimp only
    repeat' first
      | (refine Step.mk ?_; conv => whnf)
      | (refine Vc.om ?_ ?_; first | omega | with_reducible rfl | with_reducible exact same_rfl | (simp only [bytes_2, bytes_3, bytes_4, bytes_5, bytes_9, bytes_12, bytes_21, bytes_22, bytes_25, bytes_27, bytes_28, bytes_29, bytes_30, bytes_34, bytes_45, bytes_49, bytes_50, bytes_51, bytes_52, bytes_53, bytes_54, bytes_64, bytes_67, bytes_68, bytes_73, bytes_75, bytes_76, bytes_77, bytes_92, bytes_93, bytes_94, bytes_95, bytes_98, bytes_102, bytes_112, bytes_123, bytes_129]; omega))
      | (refine NilB.mk fun b hb => Step.out ?_)
      | with_reducible trivial
      | exact noSh_bool _
      | exact noSh_lit _
      | exact noSh_int _ _
      | exact noSh_str _
      | with_reducible rfl
      | with_reducible exact same_rfl
      | (refine Wr.i64 ?_ ?_; omega)
      | (refine Wr.u8 ?_ ?_; omega)
      | (refine Wr.i32 ?_ ?_; omega)
      | (with_reducible refine Br.tt ?_)
      | (with_reducible refine Br.ff ?_)
      | (refine Br.dT ?_ ?_; omega)
      | (refine Br.dF ?_ ?_; omega)
      | (refine Br.d (fun h => ?_) (fun h => ?_))
      | (refine Br.swap ?_)
      | (refine Br.bnot ?_)
      | (refine Br.mk (fun h => Step.out ?_) (fun h => Step.out ?_))
      | (refine Two.mk (Step.out ?_) (Step.out ?_))
      | (refine CallOK.io1 (g := 12) (Step.out ?_))
      | (refine CallOK.io1F (g := 13) (Step.out ?_))
      | (refine CallOK.io1 (g := 18) (Step.out ?_))
      | (refine CallOK.of_ct (Step.out ?_))
      | (refine Met.by (g := 12) (token_ct _) ?_; rintro q outs ⟨x, d, ⟨hx1, hx2, hx3⟩, rfl, rfl⟩)
      | (refine Met.by (g := 13) (picks_ct _ [] (by first | omega | decide | (simp; done) | (simp; omega)) (by first | omega | decide | (simp; done) | (simp; omega))) ?_; rintro q outs ⟨x, d, hx, rfl, rfl⟩)
      | (refine Met.by (g := 18) (next_ct _ _) ?_; rintro q outs ⟨x, d, hx, rfl, rfl⟩)
      | (refine Vc.mk ?_ (Step.out ?_))
  · intro ⟨d, s, k⟩ ⟨h1, h2⟩
    dsimp only at h1 h2 ⊢
    repeat' first
      | (refine Step.mk ?_; conv => whnf)
      | (refine Vc.om ?_ ?_; first | omega | with_reducible rfl | with_reducible exact same_rfl | (simp only [bytes_2, bytes_3, bytes_4, bytes_5, bytes_9, bytes_12, bytes_21, bytes_22, bytes_25, bytes_27, bytes_28, bytes_29, bytes_30, bytes_34, bytes_45, bytes_49, bytes_50, bytes_51, bytes_52, bytes_53, bytes_54, bytes_64, bytes_67, bytes_68, bytes_73, bytes_75, bytes_76, bytes_77, bytes_92, bytes_93, bytes_94, bytes_95, bytes_98, bytes_102, bytes_112, bytes_123, bytes_129]; omega))
      | (refine NilB.mk fun b hb => Step.out ?_)
      | with_reducible trivial
      | exact noSh_bool _
      | exact noSh_lit _
      | exact noSh_int _ _
      | exact noSh_str _
      | with_reducible rfl
      | with_reducible exact same_rfl
      | (refine Wr.i64 ?_ ?_; omega)
      | (refine Wr.u8 ?_ ?_; omega)
      | (refine Wr.i32 ?_ ?_; omega)
      | (with_reducible refine Br.tt ?_)
      | (with_reducible refine Br.ff ?_)
      | (refine Br.dT ?_ ?_; omega)
      | (refine Br.dF ?_ ?_; omega)
      | (refine Vc.om ?_ ?_; focus ((simp only [List.length_append, List.length_cons, List.length_nil]; omega); done))
      | (refine Wr.i64 ?_ ?_; focus ((simp only [List.length_append, List.length_cons, List.length_nil]; omega); done))
      | (refine Wr.u8 ?_ ?_; focus ((simp only [List.length_append, List.length_cons, List.length_nil]; omega); done))
      | (refine Br.dT ?_ ?_; focus ((simp only [List.length_append, List.length_cons, List.length_nil]; omega); done))
      | (refine Br.dF ?_ ?_; focus ((simp only [List.length_append, List.length_cons, List.length_nil]; omega); done))
      | (refine Met.by (picksP_ct (fun s => s.length ≤ 1) _ [[], [], [32], [45], [39]] (by decide) (by first | omega | decide | (simp; done) | (simp; omega)) (by first | omega | decide | (simp; done) | (simp; omega))) ?_; rintro q outs ⟨o, d, ho, rfl, rfl⟩)
      | (refine Met.by (picksP_ct (fun s => s.length ≤ 2) _ [[32], [32], [46], [44, 32]] (by decide) (by first | omega | decide | (simp; done) | (simp; omega)) (by first | omega | decide | (simp; done) | (simp; omega))) ?_; rintro q outs ⟨a, d, ha, rfl, rfl⟩)
      | (refine Met.by (picksP_ct (fun s => s.length ≤ 2) _ [[31], [127], [194, 160], [255], [10]] (by decide) (by first | omega | decide | (simp; done) | (simp; omega)) (by first | omega | decide | (simp; done) | (simp; omega))) ?_; rintro q outs ⟨a, d, ha, rfl, rfl⟩)
      | (refine Met.by (picksP_ct (fun s => s.length ≤ 8) _ [_, _, [49, 50], [48, 48, 55], [51, 98], [77, 195, 188, 108, 108, 101, 114], [195, 134, 103, 105, 114], [195, 159], [79, 39, 78, 101, 105, 108, 108], [195, 151]] (by simp; omega) (by first | omega | decide | (simp; done) | (simp; omega)) (by first | omega | decide | (simp; done) | (simp; omega))) ?_; rintro q outs ⟨b, d, hb, rfl, rfl⟩)
      | (refine Br.d (fun h => ?_) (fun h => ?_))
      | (refine Br.swap ?_)
      | (refine Br.bnot ?_)
      | (refine Br.mk (fun h => Step.out ?_) (fun h => Step.out ?_))
      | (refine Two.mk (Step.out ?_) (Step.out ?_))
      | (refine CallOK.io1 (g := 12) (Step.out ?_))
      | (refine CallOK.io1F (g := 13) (Step.out ?_))
      | (refine CallOK.io1 (g := 18) (Step.out ?_))
      | (refine CallOK.of_ct (Step.out ?_))
      | (refine Met.by (g := 12) (token_ct _) ?_; rintro q outs ⟨x, d, ⟨hx1, hx2, hx3⟩, rfl, rfl⟩)
      | (refine Met.by (g := 13) (picks_ct _ [] (by first | omega | decide | (simp; done) | (simp; omega)) (by first | omega | decide | (simp; done) | (simp; omega))) ?_; rintro q outs ⟨x, d, hx, rfl, rfl⟩)
      | (refine Met.by (g := 18) (next_ct _ _) ?_; rintro q outs ⟨x, d, hx, rfl, rfl⟩)
      | (refine Vc.mk ?_ (Step.out ?_))
    · refine Again.by (d, s ++ (o ++ b ++ a), k - 1) ⟨⟨by dsimp only; omega, by simp only [List.length_append]; omega⟩, by dsimp only; omega⟩ ?_
      dsimp only
      repeat' first
        | (refine Step.mk ?_; conv => whnf)
        | (refine Vc.om ?_ ?_; first | omega | with_reducible rfl | with_reducible exact same_rfl | (simp only [bytes_2, bytes_3, bytes_4, bytes_5, bytes_9, bytes_12, bytes_21, bytes_22, bytes_25, bytes_27, bytes_28, bytes_29, bytes_30, bytes_34, bytes_45, bytes_49, bytes_50, bytes_51, bytes_52, bytes_53, bytes_54, bytes_64, bytes_67, bytes_68, bytes_73, bytes_75, bytes_76, bytes_77, bytes_92, bytes_93, bytes_94, bytes_95, bytes_98, bytes_102, bytes_112, bytes_123, bytes_129]; omega))
        | (refine NilB.mk fun b hb => Step.out ?_)
        | with_reducible trivial
        | exact noSh_bool _
        | exact noSh_lit _
        | exact noSh_int _ _
        | exact noSh_str _
        | with_reducible rfl
        | with_reducible exact same_rfl
        | (refine Wr.i64 ?_ ?_; omega)
        | (refine Wr.u8 ?_ ?_; omega)
        | (refine Wr.i32 ?_ ?_; omega)
        | (with_reducible refine Br.tt ?_)
        | (with_reducible refine Br.ff ?_)
        | (refine Br.dT ?_ ?_; omega)
        | (refine Br.dF ?_ ?_; omega)
        | (refine Br.d (fun h => ?_) (fun h => ?_))
        | (refine Br.swap ?_)
        | (refine Br.bnot ?_)
        | (refine Br.mk (fun h => Step.out ?_) (fun h => Step.out ?_))
        | (refine Two.mk (Step.out ?_) (Step.out ?_))
        | (refine CallOK.io1 (g := 12) (Step.out ?_))
        | (refine CallOK.io1F (g := 13) (Step.out ?_))
        | (refine CallOK.io1 (g := 18) (Step.out ?_))
        | (refine CallOK.of_ct (Step.out ?_))
        | (refine Met.by (g := 12) (token_ct _) ?_; rintro q outs ⟨x, d, ⟨hx1, hx2, hx3⟩, rfl, rfl⟩)
        | (refine Met.by (g := 13) (picks_ct _ [] (by first | omega | decide | (simp; done) | (simp; omega)) (by first | omega | decide | (simp; done) | (simp; omega))) ?_; rintro q outs ⟨x, d, hx, rfl, rfl⟩)
        | (refine Met.by (g := 18) (next_ct _ _) ?_; rintro q outs ⟨x, d, hx, rfl, rfl⟩)
        | (refine Vc.mk ?_ (Step.out ?_))
    · refine Lf2.by (s ++ [195]) d (by simp only [List.length_append, List.length_cons, List.length_nil]; omega) ?_
      repeat' first
        | (refine Step.mk ?_; conv => whnf)
        | (refine Vc.om ?_ ?_; first | omega | with_reducible rfl | with_reducible exact same_rfl | (simp only [bytes_2, bytes_3, bytes_4, bytes_5, bytes_9, bytes_12, bytes_21, bytes_22, bytes_25, bytes_27, bytes_28, bytes_29, bytes_30, bytes_34, bytes_45, bytes_49, bytes_50, bytes_51, bytes_52, bytes_53, bytes_54, bytes_64, bytes_67, bytes_68, bytes_73, bytes_75, bytes_76, bytes_77, bytes_92, bytes_93, bytes_94, bytes_95, bytes_98, bytes_102, bytes_112, bytes_123, bytes_129]; omega))
        | (refine NilB.mk fun b hb => Step.out ?_)
        | with_reducible trivial
        | exact noSh_bool _
        | exact noSh_lit _
        | exact noSh_int _ _
        | exact noSh_str _
        | with_reducible rfl
        | with_reducible exact same_rfl
        | (refine Wr.i64 ?_ ?_; omega)
        | (refine Wr.u8 ?_ ?_; omega)
        | (refine Wr.i32 ?_ ?_; omega)
        | (with_reducible refine Br.tt ?_)
        | (with_reducible refine Br.ff ?_)
        | (refine Br.dT ?_ ?_; omega)
        | (refine Br.dF ?_ ?_; omega)
        | (refine Br.d (fun h => ?_) (fun h => ?_))
        | (refine Br.swap ?_)
        | (refine Br.bnot ?_)
        | (refine Br.mk (fun h => Step.out ?_) (fun h => Step.out ?_))
        | (refine Two.mk (Step.out ?_) (Step.out ?_))
        | (refine CallOK.io1 (g := 12) (Step.out ?_))
        | (refine CallOK.io1F (g := 13) (Step.out ?_))
        | (refine CallOK.io1 (g := 18) (Step.out ?_))
        | (refine CallOK.of_ct (Step.out ?_))
        | (refine Met.by (g := 12) (token_ct _) ?_; rintro q outs ⟨x, d, ⟨hx1, hx2, hx3⟩, rfl, rfl⟩)
        | (refine Met.by (g := 13) (picks_ct _ [] (by first | omega | decide | (simp; done) | (simp; omega)) (by first | omega | decide | (simp; done) | (simp; omega))) ?_; rintro q outs ⟨x, d, hx, rfl, rfl⟩)
        | (refine Met.by (g := 18) (next_ct _ _) ?_; rintro q outs ⟨x, d, hx, rfl, rfl⟩)
        | (refine Vc.mk ?_ (Step.out ?_))
    · refine Lf2.by (s ++ a) d (by simp only [List.length_append]; omega) ?_
      repeat' first
        | (refine Step.mk ?_; conv => whnf)
        | (refine Vc.om ?_ ?_; first | omega | with_reducible rfl | with_reducible exact same_rfl | (simp only [bytes_2, bytes_3, bytes_4, bytes_5, bytes_9, bytes_12, bytes_21, bytes_22, bytes_25, bytes_27, bytes_28, bytes_29, bytes_30, bytes_34, bytes_45, bytes_49, bytes_50, bytes_51, bytes_52, bytes_53, bytes_54, bytes_64, bytes_67, bytes_68, bytes_73, bytes_75, bytes_76, bytes_77, bytes_92, bytes_93, bytes_94, bytes_95, bytes_98, bytes_102, bytes_112, bytes_123, bytes_129]; omega))
        | (refine NilB.mk fun b hb => Step.out ?_)
        | with_reducible trivial
        | exact noSh_bool _
        | exact noSh_lit _
        | exact noSh_int _ _
        | exact noSh_str _
        | with_reducible rfl
        | with_reducible exact same_rfl
        | (refine Wr.i64 ?_ ?_; omega)
        | (refine Wr.u8 ?_ ?_; omega)
        | (refine Wr.i32 ?_ ?_; omega)
        | (with_reducible refine Br.tt ?_)
        | (with_reducible refine Br.ff ?_)
        | (refine Br.dT ?_ ?_; omega)
        | (refine Br.dF ?_ ?_; omega)
        | (refine Br.d (fun h => ?_) (fun h => ?_))
        | (refine Br.swap ?_)
        | (refine Br.bnot ?_)
        | (refine Br.mk (fun h => Step.out ?_) (fun h => Step.out ?_))
        | (refine Two.mk (Step.out ?_) (Step.out ?_))
        | (refine CallOK.io1 (g := 12) (Step.out ?_))
        | (refine CallOK.io1F (g := 13) (Step.out ?_))
        | (refine CallOK.io1 (g := 18) (Step.out ?_))
        | (refine CallOK.of_ct (Step.out ?_))
        | (refine Met.by (g := 12) (token_ct _) ?_; rintro q outs ⟨x, d, ⟨hx1, hx2, hx3⟩, rfl, rfl⟩)
        | (refine Met.by (g := 13) (picks_ct _ [] (by first | omega | decide | (simp; done) | (simp; omega)) (by first | omega | decide | (simp; done) | (simp; omega))) ?_; rintro q outs ⟨x, d, hx, rfl, rfl⟩)
        | (refine Met.by (g := 18) (next_ct _ _) ?_; rintro q outs ⟨x, d, hx, rfl, rfl⟩)
        | (refine Vc.mk ?_ (Step.out ?_))
    · refine CodeOK.loopW hΓ hm [] [] (by kernel_rfl) (α := Str) (fun s => [(0, .loc 0 0), (3, .str s)]) (fun s => [(0, .var d.ls)]) 1 (fun s => s.length ≤ 64) (fun s => 64 - s.length) ?_ ?_
      · refine Again.by s (by omega) ?_
        repeat' first
          | (refine Step.mk ?_; conv => whnf)
          | (refine Vc.om ?_ ?_; first | omega | with_reducible rfl | with_reducible exact same_rfl | (simp only [bytes_2, bytes_3, bytes_4, bytes_5, bytes_9, bytes_12, bytes_21, bytes_22, bytes_25, bytes_27, bytes_28, bytes_29, bytes_30, bytes_34, bytes_45, bytes_49, bytes_50, bytes_51, bytes_52, bytes_53, bytes_54, bytes_64, bytes_67, bytes_68, bytes_73, bytes_75, bytes_76, bytes_77, bytes_92, bytes_93, bytes_94, bytes_95, bytes_98, bytes_102, bytes_112, bytes_123, bytes_129]; omega))
          | (refine NilB.mk fun b hb => Step.out ?_)
          | with_reducible trivial
          | exact noSh_bool _
          | exact noSh_lit _
          | exact noSh_int _ _
          | exact noSh_str _
          | with_reducible rfl
          | with_reducible exact same_rfl
          | (refine Wr.i64 ?_ ?_; omega)
          | (refine Wr.u8 ?_ ?_; omega)
          | (refine Wr.i32 ?_ ?_; omega)
          | (with_reducible refine Br.tt ?_)
          | (with_reducible refine Br.ff ?_)
          | (refine Br.dT ?_ ?_; omega)
          | (refine Br.dF ?_ ?_; omega)
          | (refine Br.d (fun h => ?_) (fun h => ?_))
          | (refine Br.swap ?_)
          | (refine Br.bnot ?_)
          | (refine Br.mk (fun h => Step.out ?_) (fun h => Step.out ?_))
          | (refine Two.mk (Step.out ?_) (Step.out ?_))
          | (refine CallOK.io1 (g := 12) (Step.out ?_))
          | (refine CallOK.io1F (g := 13) (Step.out ?_))
          | (refine CallOK.io1 (g := 18) (Step.out ?_))
          | (refine CallOK.of_ct (Step.out ?_))
          | (refine Met.by (g := 12) (token_ct _) ?_; rintro q outs ⟨x, d, ⟨hx1, hx2, hx3⟩, rfl, rfl⟩)
          | (refine Met.by (g := 13) (picks_ct _ [] (by first | omega | decide | (simp; done) | (simp; omega)) (by first | omega | decide | (simp; done) | (simp; omega))) ?_; rintro q outs ⟨x, d, hx, rfl, rfl⟩)
          | (refine Met.by (g := 18) (next_ct _ _) ?_; rintro q outs ⟨x, d, hx, rfl, rfl⟩)
          | (refine Vc.mk ?_ (Step.out ?_))
      · intro s hs
        repeat' first
          | (refine Step.mk ?_; conv => whnf)
          | (refine Vc.om ?_ ?_; first | omega | with_reducible rfl | with_reducible exact same_rfl | (simp only [bytes_2, bytes_3, bytes_4, bytes_5, bytes_9, bytes_12, bytes_21, bytes_22, bytes_25, bytes_27, bytes_28, bytes_29, bytes_30, bytes_34, bytes_45, bytes_49, bytes_50, bytes_51, bytes_52, bytes_53, bytes_54, bytes_64, bytes_67, bytes_68, bytes_73, bytes_75, bytes_76, bytes_77, bytes_92, bytes_93, bytes_94, bytes_95, bytes_98, bytes_102, bytes_112, bytes_123, bytes_129]; omega))
          | (refine NilB.mk fun b hb => Step.out ?_)
          | with_reducible trivial
          | exact noSh_bool _
          | exact noSh_lit _
          | exact noSh_int _ _
          | exact noSh_str _
          | with_reducible rfl
          | with_reducible exact same_rfl
          | (refine Wr.i64 ?_ ?_; omega)
          | (refine Wr.u8 ?_ ?_; omega)
          | (refine Wr.i32 ?_ ?_; omega)
          | (with_reducible refine Br.tt ?_)
          | (with_reducible refine Br.ff ?_)
          | (refine Br.dT ?_ ?_; omega)
          | (refine Br.dF ?_ ?_; omega)
          | (refine Vc.om ?_ ?_; focus ((simp only [List.length_append, List.length_cons, List.length_nil]; omega); done))
          | (refine Wr.i64 ?_ ?_; focus ((simp only [List.length_append, List.length_cons, List.length_nil]; omega); done))
          | (refine Wr.u8 ?_ ?_; focus ((simp only [List.length_append, List.length_cons, List.length_nil]; omega); done))
          | (refine Br.dT ?_ ?_; focus ((simp only [List.length_append, List.length_cons, List.length_nil]; omega); done))
          | (refine Br.dF ?_ ?_; focus ((simp only [List.length_append, List.length_cons, List.length_nil]; omega); done))
          | (refine Br.d (fun h => ?_) (fun h => ?_))
          | (refine Br.swap ?_)
          | (refine Br.bnot ?_)
          | (refine Br.mk (fun h => Step.out ?_) (fun h => Step.out ?_))
          | (refine Two.mk (Step.out ?_) (Step.out ?_))
          | (refine CallOK.io1 (g := 12) (Step.out ?_))
          | (refine CallOK.io1F (g := 13) (Step.out ?_))
          | (refine CallOK.io1 (g := 18) (Step.out ?_))
          | (refine CallOK.of_ct (Step.out ?_))
          | (refine Met.by (g := 12) (token_ct _) ?_; rintro q outs ⟨x, d, ⟨hx1, hx2, hx3⟩, rfl, rfl⟩)
          | (refine Met.by (g := 13) (picks_ct _ [] (by first | omega | decide | (simp; done) | (simp; omega)) (by first | omega | decide | (simp; done) | (simp; omega))) ?_; rintro q outs ⟨x, d, hx, rfl, rfl⟩)
          | (refine Met.by (g := 18) (next_ct _ _) ?_; rintro q outs ⟨x, d, hx, rfl, rfl⟩)
          | (refine Vc.mk ?_ (Step.out ?_))
        · refine Again.by (s ++ [97]) ⟨by simp only [List.length_append, List.length_cons, List.length_nil]; omega, by simp only [List.length_append, List.length_cons, List.length_nil]; omega⟩ ?_
          repeat' first
            | (refine Step.mk ?_; conv => whnf)
            | (refine Vc.om ?_ ?_; first | omega | with_reducible rfl | with_reducible exact same_rfl | (simp only [bytes_2, bytes_3, bytes_4, bytes_5, bytes_9, bytes_12, bytes_21, bytes_22, bytes_25, bytes_27, bytes_28, bytes_29, bytes_30, bytes_34, bytes_45, bytes_49, bytes_50, bytes_51, bytes_52, bytes_53, bytes_54, bytes_64, bytes_67, bytes_68, bytes_73, bytes_75, bytes_76, bytes_77, bytes_92, bytes_93, bytes_94, bytes_95, bytes_98, bytes_102, bytes_112, bytes_123, bytes_129]; omega))
            | (refine NilB.mk fun b hb => Step.out ?_)
            | with_reducible trivial
            | exact noSh_bool _
            | exact noSh_lit _
            | exact noSh_int _ _
            | exact noSh_str _
            | with_reducible rfl
            | with_reducible exact same_rfl
            | (refine Wr.i64 ?_ ?_; omega)
            | (refine Wr.u8 ?_ ?_; omega)
            | (refine Wr.i32 ?_ ?_; omega)
            | (with_reducible refine Br.tt ?_)
            | (with_reducible refine Br.ff ?_)
            | (refine Br.dT ?_ ?_; omega)
            | (refine Br.dF ?_ ?_; omega)
            | (refine Br.d (fun h => ?_) (fun h => ?_))
            | (refine Br.swap ?_)
            | (refine Br.bnot ?_)
            | (refine Br.mk (fun h => Step.out ?_) (fun h => Step.out ?_))
            | (refine Two.mk (Step.out ?_) (Step.out ?_))
            | (refine CallOK.io1 (g := 12) (Step.out ?_))
            | (refine CallOK.io1F (g := 13) (Step.out ?_))
            | (refine CallOK.io1 (g := 18) (Step.out ?_))
            | (refine CallOK.of_ct (Step.out ?_))
            | (refine Met.by (g := 12) (token_ct _) ?_; rintro q outs ⟨x, d, ⟨hx1, hx2, hx3⟩, rfl, rfl⟩)
            | (refine Met.by (g := 13) (picks_ct _ [] (by first | omega | decide | (simp; done) | (simp; omega)) (by first | omega | decide | (simp; done) | (simp; omega))) ?_; rintro q outs ⟨x, d, hx, rfl, rfl⟩)
            | (refine Met.by (g := 18) (next_ct _ _) ?_; rintro q outs ⟨x, d, hx, rfl, rfl⟩)
            | (refine Vc.mk ?_ (Step.out ?_))
        · refine Lf2.by s d hs ?_
          repeat' first
            | (refine Step.mk ?_; conv => whnf)
            | (refine Vc.om ?_ ?_; first | omega | with_reducible rfl | with_reducible exact same_rfl | (simp only [bytes_2, bytes_3, bytes_4, bytes_5, bytes_9, bytes_12, bytes_21, bytes_22, bytes_25, bytes_27, bytes_28, bytes_29, bytes_30, bytes_34, bytes_45, bytes_49, bytes_50, bytes_51, bytes_52, bytes_53, bytes_54, bytes_64, bytes_67, bytes_68, bytes_73, bytes_75, bytes_76, bytes_77, bytes_92, bytes_93, bytes_94, bytes_95, bytes_98, bytes_102, bytes_112, bytes_123, bytes_129]; omega))
            | (refine NilB.mk fun b hb => Step.out ?_)
            | with_reducible trivial
            | exact noSh_bool _
            | exact noSh_lit _
            | exact noSh_int _ _
            | exact noSh_str _
            | with_reducible rfl
            | with_reducible exact same_rfl
            | (refine Wr.i64 ?_ ?_; omega)
            | (refine Wr.u8 ?_ ?_; omega)
            | (refine Wr.i32 ?_ ?_; omega)
            | (with_reducible refine Br.tt ?_)
            | (with_reducible refine Br.ff ?_)
            | (refine Br.dT ?_ ?_; omega)
            | (refine Br.dF ?_ ?_; omega)
            | (refine Br.d (fun h => ?_) (fun h => ?_))
            | (refine Br.swap ?_)
            | (refine Br.bnot ?_)
            | (refine Br.mk (fun h => Step.out ?_) (fun h => Step.out ?_))
            | (refine Two.mk (Step.out ?_) (Step.out ?_))
            | (refine CallOK.io1 (g := 12) (Step.out ?_))
            | (refine CallOK.io1F (g := 13) (Step.out ?_))
            | (refine CallOK.io1 (g := 18) (Step.out ?_))
            | (refine CallOK.of_ct (Step.out ?_))
            | (refine Met.by (g := 12) (token_ct _) ?_; rintro q outs ⟨x, d, ⟨hx1, hx2, hx3⟩, rfl, rfl⟩)
            | (refine Met.by (g := 13) (picks_ct _ [] (by first | omega | decide | (simp; done) | (simp; omega)) (by first | omega | decide | (simp; done) | (simp; omega))) ?_; rintro q outs ⟨x, d, hx, rfl, rfl⟩)
            | (refine Met.by (g := 18) (next_ct _ _) ?_; rintro q outs ⟨x, d, hx, rfl, rfl⟩)
            | (refine Vc.mk ?_ (Step.out ?_))
    · refine Lf2.by s d (by omega) ?_
      repeat' first
        | (refine Step.mk ?_; conv => whnf)
        | (refine Vc.om ?_ ?_; first | omega | with_reducible rfl | with_reducible exact same_rfl | (simp only [bytes_2, bytes_3, bytes_4, bytes_5, bytes_9, bytes_12, bytes_21, bytes_22, bytes_25, bytes_27, bytes_28, bytes_29, bytes_30, bytes_34, bytes_45, bytes_49, bytes_50, bytes_51, bytes_52, bytes_53, bytes_54, bytes_64, bytes_67, bytes_68, bytes_73, bytes_75, bytes_76, bytes_77, bytes_92, bytes_93, bytes_94, bytes_95, bytes_98, bytes_102, bytes_112, bytes_123, bytes_129]; omega))
        | (refine NilB.mk fun b hb => Step.out ?_)
        | with_reducible trivial
        | exact noSh_bool _
        | exact noSh_lit _
        | exact noSh_int _ _
        | exact noSh_str _
        | with_reducible rfl
        | with_reducible exact same_rfl
        | (refine Wr.i64 ?_ ?_; omega)
        | (refine Wr.u8 ?_ ?_; omega)
        | (refine Wr.i32 ?_ ?_; omega)
        | (with_reducible refine Br.tt ?_)
        | (with_reducible refine Br.ff ?_)
        | (refine Br.dT ?_ ?_; omega)
        | (refine Br.dF ?_ ?_; omega)
        | (refine Br.d (fun h => ?_) (fun h => ?_))
        | (refine Br.swap ?_)
        | (refine Br.bnot ?_)
        | (refine Br.mk (fun h => Step.out ?_) (fun h => Step.out ?_))
        | (refine Two.mk (Step.out ?_) (Step.out ?_))
        | (refine CallOK.io1 (g := 12) (Step.out ?_))
        | (refine CallOK.io1F (g := 13) (Step.out ?_))
        | (refine CallOK.io1 (g := 18) (Step.out ?_))
        | (refine CallOK.of_ct (Step.out ?_))
        | (refine Met.by (g := 12) (token_ct _) ?_; rintro q outs ⟨x, d, ⟨hx1, hx2, hx3⟩, rfl, rfl⟩)
        | (refine Met.by (g := 13) (picks_ct _ [] (by first | omega | decide | (simp; done) | (simp; omega)) (by first | omega | decide | (simp; done) | (simp; omega))) ?_; rintro q outs ⟨x, d, hx, rfl, rfl⟩)
        | (refine Met.by (g := 18) (next_ct _ _) ?_; rintro q outs ⟨x, d, hx, rfl, rfl⟩)
        | (refine Vc.mk ?_ (Step.out ?_))
end Kx
