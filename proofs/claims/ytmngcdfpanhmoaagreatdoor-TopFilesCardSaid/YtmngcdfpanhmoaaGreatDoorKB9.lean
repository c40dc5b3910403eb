/-
  The law of files: what a file holds is read again, as far as it stands.
  No condition beyond those written in each theorem.
-/
import Derived.Test.YtmngcdfpanhmoaaGreatDoorKB8
import Derived.Test.YtmngcdfpanhmoaaGreatDoorKB7
import Derived.Lib.LaidTab
import Derived.Lib.LaidU8
open Go Sx Go.Proofs
set_option linter.unusedSimpArgs false
set_option linter.unusedVariables false
namespace Kx
theorem mod_bd (a n : Int) (h : 1 ≤ n) : 0 ≤ a.tmod n + n ∧ a.tmod n + n ≤ 2 * n := by
  rw [Int.tmod_eq_emod]
  have h1 := Int.emod_nonneg a (show n ≠ 0 by omega)
  have h2 := Int.emod_lt_of_pos a (show 0 < n by omega)
  split <;> omega
theorem modn_ct (a n : Int) (h : 1 ≤ n ∧ n ≤ 1000000) : Ct Tryz.prog 12 [i64 a, i64 n] fun r outs => ∃ x, (0 ≤ x ∧ x < n) ∧ r = i64 x ∧ outs = [] := by
  have hb := mod_bd a n h.1
  have hb2 := tmod_bd (a.tmod n + n) n hb.1 (by omega)
  refine .some (.of_W (fn := Tryz.f12) hΓ hm Tryz.func12 [] [] (by kernel_rfl) (Step.out ?_))
  repeat' first
    | (refine Step.mk ?_; conv => whnf)
    | (refine Vc.om ?_ ?_; first | omega | with_reducible rfl | with_reducible exact same_rfl)
    | (refine Wr.i64 ?_ ?_; omega)
    | (refine Br.dF ?_ ?_; omega)
  refine Lf.by ((a.tmod n + n).tmod n) ⟨hb2.1, hb2.2.2 h.1⟩ ?_
  repeat' first
    | (refine Step.mk ?_; conv => whnf)
    | with_reducible trivial
    | (refine Two.mk (Step.out ?_) (Step.out ?_))
def AllU (w : List Int) : Prop := ∀ x ∈ w, U64 x
theorem setBit_u (w : List Int) (i : Int) (h : AllU w) : AllU (setBit w i) := fun x hx => by
  rcases List.mem_or_eq_of_mem_set hx with hx | rfl
  · exact h x hx
  · exact bit_in _ _ _
theorem setBits_u : ∀ (l w : List Int), AllU w → AllU (l.foldl setBit w)
  | [], _, h => h
  | i :: l, w, h => setBits_u l _ (setBit_u w i h)
theorem encs_u (p : Pm) (k : Int × Int) : ∀ (gs : List Str) (w : List Int), AllU w → AllU (gs.foldl (encG p k) w)
  | [], _, h => h
  | g :: gs, w, h => encs_u p k gs _ (setBits_u _ _ h)
theorem fld_ok (s : Sc) (p : Pm) (hp : p.ok) (k : Int × Int) (r : Rc) (i : Nat) : MOk (fldW s p k r i) := by
  unfold fldW
  split
  · exact .inl rfl
  · refine .inr ⟨hp.L, encW_len _ _ _, fun i hi => ?_⟩
    refine encs_u p _ _ _ (fun x hx => ?_) _ (by
      dsimp only at hi ⊢
      rw [List.getD_eq_getElem?_getD, List.getElem?_eq_getElem hi]
      exact List.getElem_mem hi)
    rw [(List.mem_replicate.1 hx).2]
    exact ⟨Int.le_refl _, by decide⟩
theorem take_ok {s : Sc} {l : List Rc} (h : RsOk s l) (k : Nat) : RsOk s (l.take k) := by
  have hg : ∀ i, i < (l.take k).length → (l.take k).getD i Rc.z = l.getD i Rc.z := fun i hi => by
    rw [List.getD_eq_getElem?_getD, List.getElem?_take_of_lt (by simp at hi; omega), ← List.getD_eq_getElem?_getD]
  refine ⟨by have := h.n; simp; omega, fun r hr => h.ok r (List.mem_of_mem_take hr), fun i hi => ?_⟩
  rw [hg i (by omega), hg (i + 1) hi]
  exact h.asc i (by simp at hi; omega)
theorem take_at (l : List Rc) (k i : Nat) (h : i < k) : (l.take k).getD i Rc.z = l.getD i Rc.z := by
  rw [List.getD_eq_getElem?_getD, List.getElem?_take_of_lt h, ← List.getD_eq_getElem?_getD]
theorem fread2_ct (s : Sc) (hs : s.ok) (l : List Rc) (hl : RsOk s l) (a : Int) (ha : 0 ≤ a ∧ a < ((fileF l).length : Int) + 1) : Ct Tryz.prog 13 [s.d, .str ((fileF l).take a.toNat)] fun r outs => ∃ (k : Nat) (n e : Int), (k ≤ l.length ∧ 0 ≤ n ∧ n ≤ a ∧ ((e = 0 ∧ k = l.length ∧ a = (fileF l).length) ∨ (e = 15 ∧ a < (fileF l).length))) ∧ r = .tup [rcs (l.take k), i64 n, i64 e] ∧ outs = [] :=
  (fread_ct s hs l hl ((fileF l).take a.toNat) (List.take_prefix _ _)).mono fun r outs ⟨⟨k, n, e⟩, ⟨h1, h2, h3, h4⟩, h5, h6⟩ => by
    have hlen : ((fileF l).take a.toNat).length = a.toNat := by rw [List.length_take]; omega
    rw [hlen] at h3 h4
    refine ⟨k, n, e, ⟨h1, h2, by dsimp only at h3; omega, ?_⟩, h5, h6⟩
    rcases h4 with ⟨a1, a2, a3⟩ | ⟨a1, a2⟩
    · exact .inl ⟨a1, a2, by omega⟩
    · exact .inr ⟨a1, by omega⟩
/-- What is drawn. -/
structure FlP (z : Sc × List Pm × (Int × Int) × List Rc) : Prop where
  s : ScD z.1
  p : PsL z.1.f.length z.2.1
  pn : z.2.1.length = z.1.f.length
  l : RsOk z.1 z.2.2.2
  ln : z.2.2.2.length ≤ 6
theorem files_ct (aw : Ct Tryz.prog 4 [] fun r outs => r = .bool true ∧ outs = []) (xs : List Int) (y : Int) : Ct Tryz.prog 3 [ints xs, i64 y] fun r outs => r = .bool true ∧ outs = [] := by
  refine .det (.of_W (fn := Tryz.f3) hΓ hm Tryz.func3 ord3 [5] (by kernel_rfl) (Step.out ?_))
  repeat' first
    | (refine Step.mk ?_; conv => whnf)
    | with_reducible trivial
    | (with_reducible refine Br.tt ?_)
    | (refine Met.by aw ?_; rintro q outs ⟨rfl, rfl⟩)
    | (refine Br.d (fun h => ?_) (fun h => ?_))
    | (refine Br.swap ?_)
    | (refine Br.bnot ?_)
    | (refine Two.mk (Step.out ?_) (Step.out ?_))
    | (refine CallOK.io1 (g := 7) (Step.out ?_))
    | (refine CallOK.of_ct (Step.out ?_))
    | (refine Met.by (g := 5) (few_ct _) ?_; rintro q outs ⟨rfl, rfl⟩)
    | (refine Met.by (g := 6) (new_ct _ (by assumption)) ?_; rintro q outs ⟨d, hd, rfl, rfl⟩)
    | (refine Met.by (g := 7) (schema_ct _) ?_; rintro q outs ⟨s, d, hs, rfl, rfl⟩)
  refine CodeOK.cutW hΓ hm ord3 [] (by kernel_rfl) (α := Sc × List Pm × (Int × Int) × List Rc) (fun z => [(1, i64 y), (6, .loc 0 0), (7, .tab 3 z.1.f.length (pmsL z.2.1)), (8, .loc 1 0), (9, rcs z.2.2.2)]) (fun z => [(0, .var z.1.l), (1, .var [u64 z.2.2.1.1, u64 z.2.2.1.2])]) 2 (fun z => FlP z) ?_ ?_
  · repeat' first
      | (refine Step.mk ?_; conv => whnf)
      | with_reducible trivial
      | (refine Met.by (pars_ct _ _ (‹ScD _›.n1) (by have := ‹ScD _›.n4; omega)) ?_; rintro q outs ⟨l, d, hl, rfl, rfl⟩)
      | (refine Two.mk (Step.out ?_) (Step.out ?_))
      | (refine CallOK.io1 (g := 8) (Step.out ?_))
      | (refine CallOK.io1 (g := 9) (Step.out ?_))
      | (refine CallOK.io1 (g := 10) (Step.out ?_))
      | (refine Met.by (g := 9) (key_ct _) ?_; rintro q outs ⟨k, d, hk, rfl, rfl⟩)
      | (refine Met.by (g := 10) (records_ct _ _ (by assumption) _ (by omega)) ?_; rintro q outs ⟨l, d, hl, rfl, rfl⟩)
    all_goals
      have hP := ‹PsL s.f.length ‹List Pm› ∧ _›
      have hR := ‹RsOk s ‹List Rc› ∧ _›
      refine Again.by (s, ‹List Pm›, k, ‹List Rc›) ⟨hs, hP.1, hP.2, hR.1, by have := hR.2; dsimp only; omega⟩ ?_
      repeat' first
        | (refine Step.mk ?_; conv => whnf)
        | (refine Vc.om ?_ ?_; first | omega | with_reducible rfl | with_reducible exact same_rfl)
        | with_reducible trivial
        | (exact ⟨hP.2, fun _ _ => rfl⟩)
        | (refine Vc.mk ?_ (Step.out ?_))
  · intro ⟨s, P, k, l⟩ hz
    have hS := hz.s; have hP := hz.p; have hPn := hz.pn; have hl := hz.l; have hln := hz.ln
    dsimp only at hS hP hPn hl hln ⊢
    have hs := hS.ok
    have n1 := hs.n1; have n5 := hs.n5
    have h1 := file_ct s hs l hl
    have hflen : (fileF l).length ≤ 100000 := by
      have h2 := rowsF_len hs l hl.ok
      have h3 := itS_len l.length (by omega)
      unfold fileF endF
      simp only [List.length_append, List.length_cons, List.length_nil]
      omega
    have hf0 : fileF l ≠ [] := by unfold fileF endF; simp
    have h2 := modn_ct y ((fileF l).length + 1) (by omega)
    have h3 := fread2_ct s hs l hl
    have hPs : PsOk s.f.length fun i => P.getD i Pm.z := ⟨fun i hi => (hP i (by omega)).1, fun i hi => (hP i (by omega)).2.1, fun i hi => (hP i (by omega)).2.2⟩
    have h4 := fun k' => eall_ct s hs _ hPs k (l.take k') (take_ok hl k') (fun j i => fldW s (P.getD i Pm.z) k ((l.take k').getD j Rc.z) i) fun j i hj hi => fieldR_ct set_ok s hs _ hPs k _ ((take_ok hl k').ok _ (getD_in hj)) i hi
    have h5 := eall_ct s hs _ hPs k l hl (fun j i => fldW s (P.getD i Pm.z) k (l.getD j Rc.z) i) fun j i hj hi => fieldR_ct set_ok s hs _ hPs k _ (hl.ok _ (getD_in hj)) i hi
    generalize hFl : fileF l = F at *
    repeat' first
      | (refine Step.mk ?_; conv => whnf)
      | (refine Vc.om ?_ ?_; first | omega | with_reducible rfl | with_reducible exact same_rfl)
      | with_reducible trivial
      | (refine Wr.i64 ?_ ?_; omega)
      | (refine Br.dT ?_ ?_; omega)
      | (refine Br.dF ?_ ?_; omega)
      | (refine Met.by h1 ?_; rintro q outs ⟨rfl, rfl⟩)
      | (refine Met.by h2 ?_; rintro q outs ⟨at_, hat, rfl, rfl⟩)
      | (refine Met.by (h3 _ hat) ?_; rintro q outs ⟨k', n', e', ⟨hk1, hn0, hn1, (⟨rfl, hkl, hat2⟩ | ⟨rfl, hat2⟩)⟩, rfl, rfl⟩)
      | (refine Met.by h5 ?_; rintro q outs ⟨rfl, rfl⟩)
      | (refine Met.by (h4 _) ?_; rintro q outs ⟨rfl, rfl⟩)
      | (refine Br.d (fun h => ?_) (fun h => ?_))
      | (refine Br.swap ?_)
      | (refine Br.bnot ?_)
      | (refine Two.mk (Step.out ?_) (Step.out ?_))
      | (refine CallOK.of_ct (Step.out ?_))
      | (refine CallQ.of_ct (Step.out ?_))
    all_goals try (exfalso; first | (rw [List.length_take] at *; omega) | (simp [hat2] at h; done) | (simp [show ¬at_ = (F.length : Int) by omega] at h; done))
    all_goals
      have htk : (l.take k').length = k' := by rw [List.length_take]; omega
      refine CodeOK.loopW hΓ hm ord3 [] (by kernel_rfl) (α := Nat) (fun i => [(16, .tab 3 l.length fun j => rowL (l.getD j Rc.z) s.f.length fun i => fldW s (P.getD i Pm.z) k (l.getD j Rc.z) i), (18, .tab 3 k' fun j => rowL (l.getD j Rc.z) s.f.length fun i => fldW s (P.getD i Pm.z) k (l.getD j Rc.z) i), (128, i64 k'), (129, i64 i)]) (fun i => []) 0 (fun i => i ≤ k') (fun i => k' - i) ?_ ?_
      · refine Again.by 0 (Nat.zero_le _) ?_
        repeat' first
          | (refine Step.mk ?_; conv => whnf)
          | (refine Vc.om ?_ ?_; first | omega | with_reducible rfl | with_reducible exact same_rfl)
          | with_reducible trivial
          | (exact ⟨htk, fun j hj => by dsimp only; rw [take_at l k' j (by omega)]⟩)
          | (refine Vc.mk ?_ (Step.out ?_))
      · intro i hi
        have hok := fun h : i < l.length => hl.ok (l.getD i Rc.z) (getD_in h)
        have hE := fun h : i < l.length => (⟨(hok h).i1, (hok h).i2, (hok h).v1, (hok h).v2, n1, n5, fun j hj => fld_ok s _ (hPs.p j hj) k _ j⟩ : ErOk (l.getD i Rc.z).id (l.getD i Rc.z).ver s.f.length fun j => fldW s (P.getD j Pm.z) k (l.getD i Rc.z) j)
        have g1 := fun h => eline_ct _ _ _ _ (hE h)
        have g2 := fun h => eparse_ct _ _ _ _ (hE h)
        have g3 := fun h => esame_ct _ _ _ _ (hE h)
        repeat' first
          | (refine Step.mk ?_; conv => whnf)
          | (refine Vc.om ?_ ?_; first | omega | with_reducible rfl | with_reducible exact same_rfl)
          | with_reducible trivial
          | (refine Wr.i64 ?_ ?_; omega)
          | (with_reducible refine Br.tt ?_)
          | (refine Br.dT ?_ ?_; omega)
          | (refine Met.by (g1 (by omega)) ?_; rintro q outs ⟨rfl, rfl⟩)
          | (refine Met.by (g2 (by omega)) ?_; rintro q outs ⟨rfl, rfl⟩)
          | (refine Met.by (g3 (by omega)) ?_; rintro q outs ⟨rfl, rfl⟩)
          | (refine Br.d (fun h => ?_) (fun h => ?_))
          | (refine Br.swap ?_)
          | (refine Br.bnot ?_)
          | (refine Two.mk (Step.out ?_) (Step.out ?_))
          | (refine CallOK.of_ct (Step.out ?_))
          | (refine CallQ.of_ct (Step.out ?_))
        all_goals
          refine Again.by (i + 1) ⟨by omega, by omega⟩ ?_
          repeat' first
            | (refine Step.mk ?_; conv => whnf)
            | (refine Vc.om ?_ ?_; first | omega | with_reducible rfl | with_reducible exact same_rfl)
            | with_reducible trivial
end Kx
/-
  That the law is awake.
-/
open Go Sx Go.Proofs
set_option linter.unusedSimpArgs false
set_option linter.unusedVariables false
namespace Kx
def s0 : Sc := ⟨[([103, 105, 118, 101, 110], 1), ([98, 105, 114, 116, 104], 2)], ⟨[[100, 114]], [], []⟩⟩
def P0 : List Pm := [⟨64, 2, -1⟩, ⟨128, 3, 0⟩]
def raw1 : List Str := [[68, 114, 46, 32, 65, 110, 110], [50, 48, 48, 48, 45, 48, 50, 45, 48, 51]]
def raw2 : List Str := [[65, 78, 78], [48, 51, 46, 48, 50, 46, 50, 48, 48, 48]]
def v0 : List Str := [[97, 110, 110], [50, 48, 48, 48, 48, 50, 48, 51]]
theorem mk1 : mkL s0 raw1 2 = v0 := by decide +kernel
theorem mk2 : mkL s0 raw2 2 = v0 := by decide +kernel
theorem ne1 : ∀ i < 2, nE s0 i (raw1.getD i []) = 0 := by decide +kernel
theorem ne2 : ∀ i < 2, nE s0 i (raw2.getD i []) = 0 := by decide +kernel
def w0 (i : Nat) : Int × List Int := fldW s0 (P0.getD i Pm.z) (5, 0) ⟨1, 1, v0⟩ i
set_option maxRecDepth 100000 in
theorem dc0 : dice ⟨(w0 0).1, (w0 0).2⟩ ⟨(w0 0).1, (w0 0).2⟩ = 1000 := by decide +kernel
set_option maxRecDepth 100000 in
theorem dc1 : dice ⟨(w0 1).1, (w0 1).2⟩ ⟨(w0 1).1, (w0 1).2⟩ = 1000 := by decide +kernel
theorem s0_ok : s0.ok := by
  refine ⟨by decide, by decide, by decide +kernel, fun i j h1 h2 => ?_, by decide, ⟨by decide, by decide, by decide⟩, by decide +kernel⟩
  have h3 : j < 2 := h2
  obtain ⟨rfl, rfl⟩ : i = 0 ∧ j = 1 := by omega
  decide
theorem v0_ok (a b : Int) (h : 1 ≤ a ∧ a ≤ 90 ∧ 1 ≤ b ∧ b ≤ 90) : (Rc.mk a b v0).ok s0 := by
  refine ⟨h.1, h.2.1, h.2.2.1, h.2.2.2, rfl, fun i hi => ?_⟩
  have h2 : i < 2 := hi
  have e : ∀ i < 2, nB s0 i (v0.getD i []) = true ∧ (v0.getD i []).length ≤ 64 ∧ (v0.getD i []).all isAn = true := by decide +kernel
  obtain ⟨e1, e2, e3⟩ := e i h2
  exact ⟨e1, e2, fun c hc => .inl (List.all_eq_true.1 e3 c hc)⟩
theorem P0_ok : PsOk s0.f.length fun i => P0.getD i Pm.z := by
  have e : ∀ i, i < s0.f.length → i = 0 ∨ i = 1 := fun i hi => by have : i < 2 := hi; omega
  refine ⟨fun i hi => ?_, fun i hi => ?_, fun i hi => ?_⟩ <;> rcases e i hi with rfl | rfl
  · exact ⟨.inl rfl, by decide, by decide, by decide, by decide⟩
  · exact ⟨.inr (.inl rfl), by decide, by decide, by decide, by decide⟩
  all_goals decide
theorem enc0_ct (a b : Int) (h : 1 ≤ a ∧ a ≤ 90 ∧ 1 ≤ b ∧ b ≤ 90) : Ct Tryz.prog 19 [s0.d, .tab 3 2 fun i => (P0.getD i Pm.z).l, .agg [u64 5, u64 0], (Rc.mk a b v0).d] fun q outs => q = .tup [.agg [i64 a, i64 b, .tab 2 2 fun i => bitL (w0 i)], i64 0] ∧ outs = [] :=
  erecord_ct s0 s0_ok (fun i => P0.getD i Pm.z) P0_ok (5, 0) ⟨a, b, v0⟩ (v0_ok a b h) w0 fun i hi => fieldR_ct set_ok s0 s0_ok _ P0_ok (5, 0) ⟨a, b, v0⟩ (v0_ok a b h) i hi
theorem cmpW_ct (W : Nat → Int × List Int) (hW : ∀ i, i < 2 → (Bs.mk (W i).1 (W i).2).ok) (hd : ∀ i, i < 2 → dice ⟨(W i).1, (W i).2⟩ ⟨(W i).1, (W i).2⟩ = 1000) (a b c d : Int) : Ct Tryz.prog 20 [.agg [i64 a, i64 b, .tab 2 2 fun i => bitL (W i)], .agg [i64 c, i64 d, .tab 2 2 fun i => bitL (W i)]] fun r outs => r = .tup [.tab 1 2 fun _ => [i64 1000], i64 0] ∧ outs = [] := by
  obtain ⟨f, hf⟩ : ∃ f : List Bs, f = [⟨(W 0).1, (W 0).2⟩, ⟨(W 1).1, (W 1).2⟩] := ⟨_, rfl⟩
  have hn : f.length = 2 := by rw [hf]; rfl
  have hg : ∀ i, i < 2 → f.getD i Bs.z = ⟨(W i).1, (W i).2⟩ := fun i hi => by
    rw [hf]
    obtain rfl | rfl : i = 0 ∨ i = 1 := by omega
    all_goals rfl
  have hok : ∀ i, i < f.length → (f.getD i Bs.z).ok := fun i hi => by rw [hg i (by omega)]; exact hW i (by omega)
  have h1 := compare_ct' ⟨a, b, f⟩ ⟨c, d, f⟩ (by rw [hn]; decide) (by rw [hn]; decide) rfl hok hok fun _ _ => rfl
  have hb : ∀ i, i < f.length → bitL (W i) = (f.getD i Bs.z).l := fun i hi => by rw [hg i (by omega)]; rfl
  have h2 := h1.arg (args := [.agg [i64 a, i64 b, .tab 2 2 fun i => bitL (W i)], .agg [i64 c, i64 d, .tab 2 2 fun i => bitL (W i)]]) ⟨rfl, ⟨rfl, rfl, ⟨hn.symm, fun i hi => hb i hi⟩, trivial⟩, ⟨rfl, rfl, ⟨hn.symm, fun i hi => hb i hi⟩, trivial⟩, trivial⟩
  refine Ct.res (h2.mono ?_)
  rintro r outs ⟨rfl, rfl⟩
  have hd1 : ∀ i, i < 2 → (dices f f f.length).getD i 0 = 1000 := fun i hi => by
    rw [hn]
    have : (dices f f 2).getD i 0 = dice (f.getD i Bs.z) (f.getD i Bs.z) := by simp [dices, List.getD, hi]
    rw [this, hg i hi]; exact hd i hi
  refine ⟨_, _, ⟨rfl, rfl⟩, ⟨⟨?_, fun i hi => ?_⟩, rfl, trivial⟩, trivial⟩
  · rw [dices_len]; exact hn
  · show [D.int IntKind.i64 ((dices f f f.length).getD i 0)] = _
    rw [hd1 i hi]
theorem raw_at (s : Sc) {g : FuncId} {R : D → List D → Prop} (a b : Int) (raws : List Str) (f : Nat → List D) (hf : ∀ i, i < 2 → f i = [.str (raws.getD i [])]) (hn : raws.length = 2) (H : Ct Tryz.prog g [s.d, i64 a, i64 b, strs raws] R) : Ct Tryz.prog g [s.d, i64 a, i64 b, .tab 1 2 f] R :=
  H.arg ⟨rfl, ⟨⟨rfl, fun _ _ => rfl⟩, ⟨rfl, fun _ _ => rfl⟩, ⟨rfl, fun _ _ => rfl⟩, ⟨rfl, fun _ _ => rfl⟩, trivial⟩, rfl, rfl, ⟨hn.symm, fun i hi => hf i (by omega)⟩, trivial⟩
theorem awake_ct : Ct Tryz.prog 4 [] fun r outs => r = .bool true ∧ outs = [] := by
  have g1 := make_ct s0 s0_ok 1 1 (by decide) raw1 rfl (by decide) ne1
  have g2 := make_ct s0 s0_ok 8 2 (by decide) raw2 rfl (by decide) ne2
  rw [show s0.f.length = 2 from rfl] at g1 g2
  rw [mk1] at g1
  rw [mk2] at g2
  replace g1 := fun f hf => raw_at s0 1 1 raw1 f hf rfl g1
  replace g2 := fun f hf => raw_at s0 8 2 raw2 f hf rfl g2
  have g3 := enc0_ct 1 1 (by decide)
  have g4 := enc0_ct 8 2 (by decide)
  have hW : ∀ i, i < 2 → (Bs.mk (w0 i).1 (w0 i).2).ok := fun i hi => by
    rcases fld_ok s0 (P0.getD i Pm.z) (P0_ok.p i hi) (5, 0) ⟨1, 1, v0⟩ i with h | h
    · exfalso
      have : ∀ i < 2, (w0 i).2 ≠ [] := by decide +kernel
      exact this i hi (by unfold w0; rw [h])
    · exact ⟨h.L, h.n⟩
  have g5 := cmpW_ct w0 hW (fun i hi => by
    obtain rfl | rfl : i = 0 ∨ i = 1 := by omega
    · exact dc0
    · exact dc1) 1 1 8 2
  have g6 := scheck_ct s0 s0_ok
  generalize w0 = W at *
  refine .det (.of_W (fn := Tryz.f4) hΓ hm Tryz.func4 [] [2] (by kernel_rfl) (Step.out ?_))
  repeat' first
    | (refine Step.mk ?_; conv => whnf)
  refine CodeOK.cutW hΓ hm [] [] (by kernel_rfl) (α := Unit) (fun u => [(1, .loc 0 0), (2, .tab 3 2 fun i => (P0.getD i Pm.z).l)]) (fun u => [(0, .var s0.l)]) 1 (fun u => True) ?_ ?_
  · repeat' first
      | (refine Step.mk ?_; conv => whnf)
    refine Again.by () trivial ?_
    repeat' first
      | (refine Step.mk ?_; conv => whnf)
      | with_reducible trivial
      | (exact ⟨rfl, fun i hi => match i, hi with | 0, _ => rfl | 1, _ => rfl⟩)
      | (exact ⟨rfl, fun i hi => match i, hi with | 0, _ => rfl⟩)
      | (refine Vc.mk ?_ (Step.out ?_))
  · intro _ _
    repeat' first
      | (refine Step.mk ?_; conv => whnf)
      | (refine Vc.om ?_ ?_; first | omega | with_reducible rfl | with_reducible exact same_rfl)
      | with_reducible trivial
      | (refine Br.dT ?_ ?_; omega)
      | (refine CallOK.ctF (g := 18) (Step.out ?_))
      | (refine Met.by (g1 _ fun i hi => match i, hi with | 0, _ => rfl | 1, _ => rfl) ?_; rintro q outs ⟨rfl, rfl⟩)
      | (refine Met.by (g2 _ fun i hi => match i, hi with | 0, _ => rfl | 1, _ => rfl) ?_; rintro q outs ⟨rfl, rfl⟩)
      | (refine Met.by g3 ?_; rintro q outs ⟨rfl, rfl⟩)
      | (refine Met.by g4 ?_; rintro q outs ⟨rfl, rfl⟩)
      | (refine Met.by g5 ?_; rintro q outs ⟨rfl, rfl⟩)
      | (refine Met.by (pattern2_ct.arg ⟨rfl, ⟨rfl, fun i hi => match i, hi with | 0, _ => rfl | 1, _ => rfl⟩, ⟨rfl, fun _ _ => rfl⟩, trivial⟩) ?_; rintro q outs ⟨rfl, rfl⟩)
      | (refine Met.by g6 ?_; rintro q outs ⟨rfl, rfl⟩)
      | (refine Two.mk (Step.out ?_) (Step.out ?_))
      | (refine CallOK.of_ct (Step.out ?_))
      | (refine Vc.mk ?_ (Step.out ?_))
    exact ⟨trivial, trivial, trivial⟩
theorem topfiles_ct (xs : List Int) (y : Int) : Ct Tryz.prog 3 [ints xs, i64 y] fun r outs => r = .bool true ∧ outs = [] := files_ct awake_ct xs y
end Kx
/-
  What the row lists of the library's variables, as the framework asks for it.
-/
open Go Sx Go.Proofs Go.Lib
namespace Kx
theorem laid_of {P : Program} {l : List (String × DataW Unit)} {w : World} (h : laidMet P l w) {g : Nat} {t e : TypeId}
    (hg : P.globalNamed "math/bits.deBruijn64tab" = some g) (hty : (P.globals[g]?).map (·.type) = some t) (ht : P.underlying t = some (.array 64 e)) (he : P.underlying e = some (.int .u8)) (hce : P.cellsOf e = 1) (hct : P.cellsOf t = 64)
    (hm : ("math/bits.deBruijn64tab", tabData .u8 (Lib.deBruijn64tab.map fun k : Nat => (k : Int))) ∈ l) : Sx.Laid P w.heap fun _ => False := by
  intro x hx g' hg'
  obtain rfl : x = ("math/bits.deBruijn64tab", Lib.deBruijn64tab) := List.mem_singleton.1 hx
  obtain rfl : g = g' := Option.some.inj (hg.symm.trans hg')
  obtain ⟨g1, t1, cs, fuel, p, h1, h2, h3, h4⟩ := Go.Lib.laidMet.reads h hm
  obtain rfl := Option.some.inj (hg.symm.trans h1)
  obtain rfl := Option.some.inj (hty.symm.trans h2)
  have hcs := cells_of_tab ht he hce hct h4
  unfold World.var? at h3
  rw [hg] at h3
  simp only [Option.bind_some] at h3
  cases ho : w.heap[g]? with
  | none => rw [ho] at h3; cases h3
  | some o =>
    rw [ho] at h3
    cases o <;> simp only [reduceCtorEq, Option.some.injEq] at h3
    subst h3
    refine ⟨(Array.getElem?_eq_some_iff.1 ho).1, id, fun j hj => ?_⟩
    unfold cellAt
    rw [ho]
    simp only [Nat.zero_add]
    rw [← Array.getElem?_toList, hcs]
    simp [List.map_map]
    rfl
end Kx
