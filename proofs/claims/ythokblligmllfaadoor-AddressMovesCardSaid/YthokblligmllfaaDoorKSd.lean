/-
  Folding: what the program does.
  No condition beyond those written in each theorem.
-/
import Derived.Test.YthokblligmllfaaDoorKSb
import Derived.Test.YthokblligmllfaaDoorFD
open Go Sx Go.Proofs
set_option linter.unusedSimpArgs false
set_option linter.unusedVariables false
namespace Kx
theorem cc_fn : FnOK Tryd.prog 82 := ⟨Tryd.f82, Tryd.func82, by decide, by decide⟩
theorem cc_used (b : Nat) (w : World) (h : w.cell? ⟨b, 0, none⟩ = some (.pointer (some ⟨b, 0, none⟩))) : Calls Tryd.prog 82 #[.pointer (some ⟨b, 0, none⟩)] w fun e w' => e = .returned (.tuple #[]) ∧ w' = w :=
  Any.Builder_copyCheck_used ({ Kx.lays156 with }) Kx.Builder_Extra_156.toX72 b w h
theorem cc_fresh (b : Nat) (w : World) (h : w.cell? ⟨b, 0, none⟩ = some (.pointer none)) (h2 : w.shape? b = some (77, 2)) (h3 : w.frozen? ⟨b, 0, none⟩ = false) : Calls Tryd.prog 82 #[.pointer (some ⟨b, 0, none⟩)] w fun e w' => e = .returned (.tuple #[]) ∧ w' = w.setCell ⟨b, 0, none⟩ (.pointer (some ⟨b, 0, none⟩)) :=
  Any.Builder_copyCheck_fresh ({ Kx.lays156 with }) Kx.Builder_Extra_156.toX72 b w h h2 h3
theorem plain_len (x : UInt8) : (plainS x).length ≤ 2 := by
  have := all_u8 (p := fun x => decide ((plainS x).length ≤ 2)) (by decide +kernel) x
  simpa using this
theorem rawL_dlen (s : Str) (i : Nat) : (rawL (s.drop i)).length ≤ 2 * s.length := by
  have := rawL_len (s.drop i); rw [List.length_drop] at this; omega
theorem pairAt_snd {s : Str} {i : Nat} (h : pairAt s i = true) : i + 1 < s.length ∧ 128 ≤ (s.getD ((i : Int) + 1).toNat 0).toNat ∧ (s.getD ((i : Int) + 1).toNat 0).toNat ≤ 191 := by
  simp only [pairAt, isPair, isSnd, Bool.and_eq_true, decide_eq_true_eq] at h
  rw [show ((i : Int) + 1).toNat = i + 1 by omega]
  omega
theorem repl_at (y : UInt8) : replL.getD (0 + ((y.toNat : Int) - 128).toNat * (Γ.get 9).size) [] = repl y := by
  have : 0 + ((y.toNat : Int) - 128).toNat * (Γ.get 9).size = y.toNat - 128 := by
    show 0 + ((y.toNat : Int) - 128).toNat * 1 = _
    omega
  exact congrArg (fun k => replL.getD k []) this
theorem repl_app (o : Str) {t u : Str} (h : t = u) : o.length + t.length = (o ++ u).length ∧ ∀ i, i < (o ++ u).length → iteL (i < o.length) (bytesF o i) (bytesF t (i - o.length)) = bytesF (o ++ u) i := by
  subst h; exact bytes_app _ _
theorem fold_ct (s : Str) (hs : s.length ≤ 100000) : Ct Tryd.prog 37 [.str s] fun r outs => r = .tup [.str (foldO s), i64 (foldE s)] ∧ outs = [] := by
  have hr := rawL_len s
  have hfl := foldS_len s
  have htc := toks_count (rawL s) []
  refine .det (.of_W (fn := Tryd.f37) hΓ hm Tryd.func37 [] [] (by kernel_rfl) (Step.out ?_))
  repeat' first
    | (refine Step.mk ?_; conv => whnf)
    | (refine Vc.om ?_ ?_; first | omega | with_reducible rfl | with_reducible exact same_rfl | (simp only [bytes_2, bytes_3, bytes_4, bytes_5, bytes_9, bytes_12, bytes_21, bytes_22, bytes_25, bytes_27, bytes_28, bytes_29, bytes_30, bytes_34, bytes_45, bytes_49, bytes_50, bytes_51, bytes_52, bytes_53, bytes_54, bytes_64, bytes_67, bytes_68, bytes_73, bytes_75, bytes_76, bytes_77, bytes_92, bytes_93, bytes_94, bytes_95, bytes_98, bytes_102, bytes_112, bytes_123, bytes_129]; omega))
    | (refine NilB.mk fun b hb => Step.out ?_)
    | with_reducible trivial
    | exact noSh_bool _
    | exact noSh_lit _
    | exact noSh_int _ _
    | exact noSh_str _
    | with_reducible rfl
    | with_reducible exact same_rfl
    | (refine Wr.i64 ?_ ?_; omega)
    | (refine Wr.u8 ?_ ?_; omega)
    | (refine Wr.i32 ?_ ?_; omega)
    | (with_reducible refine Br.tt ?_)
    | (with_reducible refine Br.ff ?_)
    | (refine Br.dT ?_ ?_; omega)
    | (refine Br.dF ?_ ?_; omega)
    | (refine Br.d (fun h => ?_) (fun h => ?_))
    | (refine Br.swap ?_)
    | (refine Br.bnot ?_)
    | (refine Br.mk (fun h => Step.out ?_) (fun h => Step.out ?_))
    | (refine Two.mk (Step.out ?_) (Step.out ?_))
    | (refine CallOK.inl (f := 63) (fn := Tryd.f63) hΓ hm Tryd.func63 [] [] (by kernel_rfl) (fun V => ?_))
    | (refine CallOK.inl (f := 65) (fn := Tryd.f65) hΓ hm Tryd.func65 ord65 [] (by kernel_rfl) (fun V => ?_))
    | (refine CallOK.cc (g := 82) (T := 77) cc_fn cc_used cc_fresh ?_)
    | (refine CallOK.of_ct (Step.out ?_))
    | (refine Met.by (g := 38) (tokens_ct _ (by first | omega | decide | (simp; done) | (simp; omega))) ?_; rintro q outs ⟨rfl, rfl⟩)
    | (refine Met.by (g := 60) (valid_ct _ (by first | omega | decide | (simp; done) | (simp; omega))) ?_; rintro q outs ⟨rfl, rfl⟩)
    | (refine Met.by (g := 61) (repls_ct) ?_; rintro q outs ⟨rfl, rfl⟩)
    | (refine Met.by (g := 62) (pair_ct _ _ (by omega) (by omega)) ?_; rintro q outs ⟨rfl, rfl⟩)
    | (refine Met.by (g := 64) (plain_ct _) ?_; rintro q outs ⟨rfl, rfl⟩)
    | (refine Vc.mk ?_ (Step.out ?_))
  · refine CodeOK.loopW hΓ hm [] [] (by kernel_rfl) (α := Nat × Str × Bool) (fun z => [(0, .str s), (4, .loc 0 0), (5, .loc 1 0), (6, i64 z.1)]) (fun z => [(0, .vec 64 replD), (1, .bld 77 z.2.2 (.own 2)), (2, .arr 5 1 z.2.1.length (bytesF z.2.1))]) 3 (fun z => z.1 ≤ s.length ∧ rawL s = z.2.1 ++ rawL (s.drop z.1)) (fun z => s.length - z.1) ?_ ?_
    · refine Again.by (0, [], false) ⟨Nat.zero_le _, rfl⟩ ?_
      repeat' first
        | (exact fun _ _ => ⟨rfl, rfl⟩)
        | (refine Step.mk ?_; conv => whnf)
        | (refine Vc.om ?_ ?_; first | omega | with_reducible rfl | with_reducible exact same_rfl | (simp only [bytes_2, bytes_3, bytes_4, bytes_5, bytes_9, bytes_12, bytes_21, bytes_22, bytes_25, bytes_27, bytes_28, bytes_29, bytes_30, bytes_34, bytes_45, bytes_49, bytes_50, bytes_51, bytes_52, bytes_53, bytes_54, bytes_64, bytes_67, bytes_68, bytes_73, bytes_75, bytes_76, bytes_77, bytes_92, bytes_93, bytes_94, bytes_95, bytes_98, bytes_102, bytes_112, bytes_123, bytes_129]; omega))
        | (refine NilB.mk fun b hb => Step.out ?_)
        | with_reducible trivial
        | exact noSh_bool _
        | exact noSh_lit _
        | exact noSh_int _ _
        | exact noSh_str _
        | with_reducible rfl
        | with_reducible exact same_rfl
        | (refine Wr.i64 ?_ ?_; omega)
        | (refine Wr.u8 ?_ ?_; omega)
        | (refine Wr.i32 ?_ ?_; omega)
        | (with_reducible refine Br.tt ?_)
        | (with_reducible refine Br.ff ?_)
        | (refine Br.dT ?_ ?_; omega)
        | (refine Br.dF ?_ ?_; omega)
        | (refine Br.d (fun h => ?_) (fun h => ?_))
        | (refine Br.swap ?_)
        | (refine Br.bnot ?_)
        | (refine Br.mk (fun h => Step.out ?_) (fun h => Step.out ?_))
        | (refine Two.mk (Step.out ?_) (Step.out ?_))
        | (refine CallOK.inl (f := 63) (fn := Tryd.f63) hΓ hm Tryd.func63 [] [] (by kernel_rfl) (fun V => ?_))
        | (refine CallOK.inl (f := 65) (fn := Tryd.f65) hΓ hm Tryd.func65 ord65 [] (by kernel_rfl) (fun V => ?_))
        | (refine CallOK.cc (g := 82) (T := 77) cc_fn cc_used cc_fresh ?_)
        | (refine CallOK.of_ct (Step.out ?_))
        | (refine Met.by (g := 38) (tokens_ct _ (by first | omega | decide | (simp; done) | (simp; omega))) ?_; rintro q outs ⟨rfl, rfl⟩)
        | (refine Met.by (g := 60) (valid_ct _ (by first | omega | decide | (simp; done) | (simp; omega))) ?_; rintro q outs ⟨rfl, rfl⟩)
        | (refine Met.by (g := 61) (repls_ct) ?_; rintro q outs ⟨rfl, rfl⟩)
        | (refine Met.by (g := 62) (pair_ct _ _ (by omega) (by omega)) ?_; rintro q outs ⟨rfl, rfl⟩)
        | (refine Met.by (g := 64) (plain_ct _) ?_; rintro q outs ⟨rfl, rfl⟩)
        | (refine Vc.mk ?_ (Step.out ?_))
    · intro ⟨i, o, u⟩ ⟨h1, h2⟩
      dsimp only at h1 h2 ⊢
      have ho : o.length ≤ 200000 := by have := congrArg List.length h2; simp only [List.length_append] at this; omega
      have hp : pairAt s i = true → i + 1 < s.length ∧ 128 ≤ (s.getD ((i : Int) + 1).toNat 0).toNat ∧ (s.getD ((i : Int) + 1).toNat 0).toNat ≤ 191 := fun h => pairAt_snd h
      have hA : (toks o).length ≤ 1 + o.length := toks_count o []
      have hB : (joinS [32] (toks o)).length ≤ o.length := by
        have := (join_toksF o [] []).2 rfl
        unfold toks; simp at this; omega
      have hF : ¬(i : Int) < s.length → joinS [32] (toks o) = foldS s := fun h => by
        have : rawL s = o := by rw [h2, List.drop_of_length_le (by omega)]; simp [rawL]
        unfold foldS; rw [this]
      have hN : ¬1 ≤ o.length → toks [] = toks o := fun h => by rw [List.length_eq_zero_iff.1 (show o.length = 0 by omega)]
      repeat' first
        | (refine Step.mk ?_; conv => whnf)
        | (refine Vc.om ?_ ?_; first | omega | with_reducible rfl | with_reducible exact same_rfl | (simp only [bytes_2, bytes_3, bytes_4, bytes_5, bytes_9, bytes_12, bytes_21, bytes_22, bytes_25, bytes_27, bytes_28, bytes_29, bytes_30, bytes_34, bytes_45, bytes_49, bytes_50, bytes_51, bytes_52, bytes_53, bytes_54, bytes_64, bytes_67, bytes_68, bytes_73, bytes_75, bytes_76, bytes_77, bytes_92, bytes_93, bytes_94, bytes_95, bytes_98, bytes_102, bytes_112, bytes_123, bytes_129]; omega))
        | (refine NilB.mk fun b hb => Step.out ?_)
        | with_reducible trivial
        | exact noSh_bool _
        | exact noSh_lit _
        | exact noSh_int _ _
        | exact noSh_str _
        | with_reducible rfl
        | with_reducible exact same_rfl
        | (refine Wr.i64 ?_ ?_; omega)
        | (refine Wr.u8 ?_ ?_; omega)
        | (refine Wr.i32 ?_ ?_; omega)
        | (with_reducible refine Br.tt ?_)
        | (with_reducible refine Br.ff ?_)
        | (refine Br.dT ?_ ?_; omega)
        | (refine Br.dF ?_ ?_; omega)
        | (refine Vc.om ?_ ?_; focus ((have := hp ‹_›; omega); done))
        | (refine Wr.i64 ?_ ?_; focus ((have := hp ‹_›; omega); done))
        | (refine Wr.u8 ?_ ?_; focus ((have := hp ‹_›; omega); done))
        | (refine Br.dT ?_ ?_; focus ((have := hp ‹_›; omega); done))
        | (refine Br.dF ?_ ?_; focus ((have := hp ‹_›; omega); done))
        | (refine Lf.by o ⟨rfl, fun _ _ => rfl⟩ ?_)
        | (refine Met.by (join1_ct (toks o) (by omega) (by omega)) ?_; rintro q outs ⟨rfl, rfl⟩)
        | (refine Met.by (join1_ct (toks []) (by decide) (by decide)) ?_; rintro q outs ⟨rfl, rfl⟩)
        | (exact (hF ‹_›).trans (if_pos ‹_›).symm)
        | (exact (congrArg _ (hN ‹_›)).trans ((hF ‹_›).trans (if_pos ‹_›).symm))
        | (exact (if_pos ‹_›).symm)
        | (refine Br.d (fun h => ?_) (fun h => ?_))
        | (refine Br.swap ?_)
        | (refine Br.bnot ?_)
        | (refine Br.mk (fun h => Step.out ?_) (fun h => Step.out ?_))
        | (refine Two.mk (Step.out ?_) (Step.out ?_))
        | (refine CallOK.inl (f := 63) (fn := Tryd.f63) hΓ hm Tryd.func63 [] [] (by kernel_rfl) (fun V => ?_))
        | (refine CallOK.inl (f := 65) (fn := Tryd.f65) hΓ hm Tryd.func65 ord65 [] (by kernel_rfl) (fun V => ?_))
        | (refine CallOK.cc (g := 82) (T := 77) cc_fn cc_used cc_fresh ?_)
        | (refine CallOK.of_ct (Step.out ?_))
        | (refine Met.by (g := 38) (tokens_ct _ (by first | omega | decide | (simp; done) | (simp; omega))) ?_; rintro q outs ⟨rfl, rfl⟩)
        | (refine Met.by (g := 60) (valid_ct _ (by first | omega | decide | (simp; done) | (simp; omega))) ?_; rintro q outs ⟨rfl, rfl⟩)
        | (refine Met.by (g := 61) (repls_ct) ?_; rintro q outs ⟨rfl, rfl⟩)
        | (refine Met.by (g := 62) (pair_ct _ _ (by omega) (by omega)) ?_; rintro q outs ⟨rfl, rfl⟩)
        | (refine Met.by (g := 64) (plain_ct _) ?_; rintro q outs ⟨rfl, rfl⟩)
        | (refine Vc.mk ?_ (Step.out ?_))
      · have := hp ‹_›
        show 0 + ((s.getD ((i : Int) + 1).toNat 0).toNat - (128 : Int)).toNat * 1 < 64
        omega
      · rw [repl_at]; have := (repl_add (s.getD ((i : Int) + 1).toNat 0)).2; omega
      · have := hp ‹_›
        refine Again.by (i + 2, o ++ repl (s.getD ((i : Int) + 1).toNat 0), true) ⟨⟨(hp ‹_›).1, by dsimp only; rw [h2, rawL_pair ‹_›, List.append_assoc, show ((i : Int) + 1).toNat = i + 1 by omega]⟩, by dsimp only; omega⟩ ?_
        repeat' first
          | (exact fun _ _ => ⟨rfl, rfl⟩)
          | (exact repl_app _ (repl_at _))
          | (refine Step.mk ?_; conv => whnf)
          | (refine Vc.om ?_ ?_; first | omega | with_reducible rfl | with_reducible exact same_rfl | (simp only [bytes_2, bytes_3, bytes_4, bytes_5, bytes_9, bytes_12, bytes_21, bytes_22, bytes_25, bytes_27, bytes_28, bytes_29, bytes_30, bytes_34, bytes_45, bytes_49, bytes_50, bytes_51, bytes_52, bytes_53, bytes_54, bytes_64, bytes_67, bytes_68, bytes_73, bytes_75, bytes_76, bytes_77, bytes_92, bytes_93, bytes_94, bytes_95, bytes_98, bytes_102, bytes_112, bytes_123, bytes_129]; omega))
          | (refine NilB.mk fun b hb => Step.out ?_)
          | with_reducible trivial
          | exact noSh_bool _
          | exact noSh_lit _
          | exact noSh_int _ _
          | exact noSh_str _
          | with_reducible rfl
          | with_reducible exact same_rfl
          | (refine Wr.i64 ?_ ?_; omega)
          | (refine Wr.u8 ?_ ?_; omega)
          | (refine Wr.i32 ?_ ?_; omega)
          | (with_reducible refine Br.tt ?_)
          | (with_reducible refine Br.ff ?_)
          | (refine Br.dT ?_ ?_; omega)
          | (refine Br.dF ?_ ?_; omega)
          | (refine Br.d (fun h => ?_) (fun h => ?_))
          | (refine Br.swap ?_)
          | (refine Br.bnot ?_)
          | (refine Br.mk (fun h => Step.out ?_) (fun h => Step.out ?_))
          | (refine Two.mk (Step.out ?_) (Step.out ?_))
          | (refine CallOK.inl (f := 63) (fn := Tryd.f63) hΓ hm Tryd.func63 [] [] (by kernel_rfl) (fun V => ?_))
          | (refine CallOK.inl (f := 65) (fn := Tryd.f65) hΓ hm Tryd.func65 ord65 [] (by kernel_rfl) (fun V => ?_))
          | (refine CallOK.cc (g := 82) (T := 77) cc_fn cc_used cc_fresh ?_)
          | (refine CallOK.of_ct (Step.out ?_))
          | (refine Met.by (g := 38) (tokens_ct _ (by first | omega | decide | (simp; done) | (simp; omega))) ?_; rintro q outs ⟨rfl, rfl⟩)
          | (refine Met.by (g := 60) (valid_ct _ (by first | omega | decide | (simp; done) | (simp; omega))) ?_; rintro q outs ⟨rfl, rfl⟩)
          | (refine Met.by (g := 61) (repls_ct) ?_; rintro q outs ⟨rfl, rfl⟩)
          | (refine Met.by (g := 62) (pair_ct _ _ (by omega) (by omega)) ?_; rintro q outs ⟨rfl, rfl⟩)
          | (refine Met.by (g := 64) (plain_ct _) ?_; rintro q outs ⟨rfl, rfl⟩)
          | (refine Vc.mk ?_ (Step.out ?_))
      · have := plain_len (s.getD (i : Int).toNat 0); omega
      · refine Again.by (i + 1, o ++ plainS (s.getD (i : Int).toNat 0), true) ⟨⟨by dsimp only; omega, by dsimp only; rw [h2, rawL_one (by omega) ‹_›, List.append_assoc, Int.toNat_natCast]⟩, by dsimp only; omega⟩ ?_
        repeat' first
          | (exact fun _ _ => ⟨rfl, rfl⟩)
          | (exact bytes_app _ _)
          | (refine Step.mk ?_; conv => whnf)
          | (refine Vc.om ?_ ?_; first | omega | with_reducible rfl | with_reducible exact same_rfl | (simp only [bytes_2, bytes_3, bytes_4, bytes_5, bytes_9, bytes_12, bytes_21, bytes_22, bytes_25, bytes_27, bytes_28, bytes_29, bytes_30, bytes_34, bytes_45, bytes_49, bytes_50, bytes_51, bytes_52, bytes_53, bytes_54, bytes_64, bytes_67, bytes_68, bytes_73, bytes_75, bytes_76, bytes_77, bytes_92, bytes_93, bytes_94, bytes_95, bytes_98, bytes_102, bytes_112, bytes_123, bytes_129]; omega))
          | (refine NilB.mk fun b hb => Step.out ?_)
          | with_reducible trivial
          | exact noSh_bool _
          | exact noSh_lit _
          | exact noSh_int _ _
          | exact noSh_str _
          | with_reducible rfl
          | with_reducible exact same_rfl
          | (refine Wr.i64 ?_ ?_; omega)
          | (refine Wr.u8 ?_ ?_; omega)
          | (refine Wr.i32 ?_ ?_; omega)
          | (with_reducible refine Br.tt ?_)
          | (with_reducible refine Br.ff ?_)
          | (refine Br.dT ?_ ?_; omega)
          | (refine Br.dF ?_ ?_; omega)
          | (refine Br.d (fun h => ?_) (fun h => ?_))
          | (refine Br.swap ?_)
          | (refine Br.bnot ?_)
          | (refine Br.mk (fun h => Step.out ?_) (fun h => Step.out ?_))
          | (refine Two.mk (Step.out ?_) (Step.out ?_))
          | (refine CallOK.inl (f := 63) (fn := Tryd.f63) hΓ hm Tryd.func63 [] [] (by kernel_rfl) (fun V => ?_))
          | (refine CallOK.inl (f := 65) (fn := Tryd.f65) hΓ hm Tryd.func65 ord65 [] (by kernel_rfl) (fun V => ?_))
          | (refine CallOK.cc (g := 82) (T := 77) cc_fn cc_used cc_fresh ?_)
          | (refine CallOK.of_ct (Step.out ?_))
          | (refine Met.by (g := 38) (tokens_ct _ (by first | omega | decide | (simp; done) | (simp; omega))) ?_; rintro q outs ⟨rfl, rfl⟩)
          | (refine Met.by (g := 60) (valid_ct _ (by first | omega | decide | (simp; done) | (simp; omega))) ?_; rintro q outs ⟨rfl, rfl⟩)
          | (refine Met.by (g := 61) (repls_ct) ?_; rintro q outs ⟨rfl, rfl⟩)
          | (refine Met.by (g := 62) (pair_ct _ _ (by omega) (by omega)) ?_; rintro q outs ⟨rfl, rfl⟩)
          | (refine Met.by (g := 64) (plain_ct _) ?_; rintro q outs ⟨rfl, rfl⟩)
          | (refine Vc.mk ?_ (Step.out ?_))
  · simp only [foldO, ‹validS s = false›]; trivial
  · simp only [foldE, ‹validS s = false›]; trivial
end Kx
