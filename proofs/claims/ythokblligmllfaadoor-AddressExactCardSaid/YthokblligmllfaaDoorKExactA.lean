/-
  AddressExact returns true for every input, and leaves its arguments as they were.
  No condition.
  No condition beyond those written in each theorem.
-/
import Derived.Test.YthokblligmllfaaDoorKAi
import Derived.Test.YthokblligmllfaaDoorRows
import Derived.Test.YthokblligmllfaaDoorCards
import Derived.Test.YthokblligmllfaaDoorTie
import Derived.LaidMore
import Derived.Lay
import Derived.SevenTiedAt
import Derived.Stop.Joined
namespace Go.Proofs.YthokblligmllfaaDoor.addressExact
open Go.ChangeShapes Go.WideShapes Go.ChangeAt Go.RowKit
set_option linter.unusedVariables false
theorem own : ownKnob Tryd.prog.godebug = none := by kernel_rfl
theorem laidOut : laidOutB Tryd.prog = true := by kernel_rfl
set_option maxRecDepth 100000 in
theorem lifted (os : Os) (started : os.Started) (H : Type) (enc : TypeId × Value → H) :
    ReturnsInHanded {} Tryd.checked os 6 .any (fun w args => (Rows.addressExactSpec.pre enc Tryd.prog Tryd.f6 Rows.addressExactRow.domain false w args ∧ laidMetH Tryd.prog Rows.addressExactRow.laid w) ∧ sizedMet enc Tryd.prog Tryd.f6 (OpenSpec.ofChange Rows.addressExactSpec) false w args) (Rows.addressExactSpec.post enc Tryd.prog Tryd.f6 false true false false) := by
  refine returnsInHanded_of_change_and (C := Tryd.checked) (X := fun w _ => laidMetH Tryd.prog Rows.addressExactRow.laid w) (fun _ _ _ hh h => h.of_heap hh) own started (by kernel_rfl) Tryd.func6
    (ChangeSpec.witness_shaped (enc := enc) (C := Tryd.checked) (os := os) (X := fun w _ => laidMetH Tryd.prog Rows.addressExactRow.laid w) false (World.laidAll Tryd.prog os Rows.addressExactRow.laid) #[.slice none 0 0, .agg #[.slice none 0 0, .slice none 0 0, .slice none 0 0], .string ByteArray.empty, .string ByteArray.empty] 8 (World.laidAll_os _ _ _)
      (World.shaped_of_ZipB (by kernel_rfl) (by kernel_rfl)) (by kernel_rfl) (by kernel_rfl) (by kernel_rfl)
      (by rw [MakeChecks.laidMetH_plain _ _ _ (by kernel_rfl)]; exact laidMet_laidAll _ (by kernel_rfl) (by kernel_rfl))) ?_
  intro W base args ds gs before hval0 hW hcnd hsz _ _
  have hval : ∀ (j : Nat) t v, Tryd.f6.params[j]? = some t → args[j]? = some v → Value.okWide Tryd.prog W .any base t v := hval0
  have hW' := hW
  obtain ⟨p, q, hA0, hV, rfl, hfz, hnd⟩ := hW
  have hA : DataW.TrodAll enc Tryd.prog W 0 (fun _ => true) true Tryd.f6.params.toList args.toList ds p := hA0
  rw [Tryd.params6] at hA hval
  rw [Tryd.params6] at hsz
  obtain ⟨v0, vs0, d0, ds0, p0, q0, hargs, rfl, rfl, h0, r0⟩ := trodAll_cons hA
  obtain ⟨v1, vs1, d1, ds1, p1, q1, rfl, rfl, rfl, h1, r1⟩ := trodAll_cons r0
  obtain ⟨v2, vs2, d2, ds2, p2, q2, rfl, rfl, rfl, h2, r2⟩ := trodAll_cons r1
  obtain ⟨v3, vs3, d3, ds3, p3, q3, rfl, rfl, rfl, h3, r3⟩ := trodAll_cons r2
  obtain ⟨rfl, rfl, rfl⟩ := trodAll_nil r3
  obtain rfl : args = #[v0, v1, v2, v3] := by cases args; simp_all
  obtain ⟨rfl, rfl⟩ := trodVars_none hV
  obtain ⟨a0, len0, cap0, rfl⟩ := okWide_slice Tryd.underlying22 (hval 0 22 v0 rfl rfl)
  have k0 := h0
  have lt0 : ∀ x ∈ p0, x.block < W.heap.size := by obtain ⟨m, hm⟩ := k0; exact DataW.trod_lt m _ _ _ hm
  obtain ⟨y0, ok0, rd0⟩ := Sx.Rdr.val1 ((Sx.rdSlice Tryd.underlying22 (by kernel_rfl : Tryd.prog.cellsOf 3 = 1) (by decide) (by kernel_rfl : Tryd.prog.bytesOf 3 = 8) (Sx.rdInt Tryd.underlying3))) rfl _ (fun _ => rfl) h0 (Sx.sized_get hsz (i := 0) (t := 22) (d := d0) rfl rfl)
  obtain ⟨a1, rfl, _⟩ := okWide_struct Tryd.underlying30 (hval 1 30 v1 rfl rfl)
  have k1 := h1
  have lt1 : ∀ x ∈ p1, x.block < W.heap.size := by obtain ⟨m, hm⟩ := k1; exact DataW.trod_lt m _ _ _ hm
  obtain ⟨y1, ok1, rd1⟩ := Sx.Rdr.valS (Sx.rdStruct (l := [(0, 1, 27), (1, 1, 28), (2, 1, 28)]) (tot := 3) Tryd.underlying30 (by kernel_rfl) (by kernel_rfl) (Sx.rdfCons (off := 0) (n := 1) ((Sx.rdSlice Tryd.underlying27 (by kernel_rfl : Tryd.prog.cellsOf 9 = 1) (by decide) (by kernel_rfl : Tryd.prog.bytesOf 9 = 16) (Sx.rdStr Tryd.underlying9))) (Sx.rdfCons (off := 1) (n := 1) ((Sx.rdSlice Tryd.underlying28 (by kernel_rfl : Tryd.prog.cellsOf 50 = 2) (by decide) (by kernel_rfl : Tryd.prog.bytesOf 50 = 32) ((Sx.rdStruct (l := [(0, 1, 9), (1, 1, 9)]) (tot := 2) Tryd.underlying50 (by kernel_rfl) (by kernel_rfl) (Sx.rdfCons (off := 0) (n := 1) (Sx.rdStr Tryd.underlying9) (Sx.rdfOne (off := 1) (n := 1) (Sx.rdStr Tryd.underlying9))))))) (Sx.rdfOne (off := 2) (n := 1) ((Sx.rdSlice Tryd.underlying28 (by kernel_rfl : Tryd.prog.cellsOf 50 = 2) (by decide) (by kernel_rfl : Tryd.prog.bytesOf 50 = 32) ((Sx.rdStruct (l := [(0, 1, 9), (1, 1, 9)]) (tot := 2) Tryd.underlying50 (by kernel_rfl) (by kernel_rfl) (Sx.rdfCons (off := 0) (n := 1) (Sx.rdStr Tryd.underlying9) (Sx.rdfOne (off := 1) (n := 1) (Sx.rdStr Tryd.underlying9))))))))))) h1 (Sx.sized_get hsz (i := 1) (t := 30) (d := d1) rfl rfl)
  obtain ⟨a2, rfl⟩ := okWide_string Tryd.underlying9 (hval 2 9 v2 rfl rfl)
  have k2 := h2
  have lt2 : ∀ x ∈ p2, x.block < W.heap.size := by obtain ⟨m, hm⟩ := k2; exact DataW.trod_lt m _ _ _ hm
  obtain ⟨y2, ok2, rd2⟩ := Sx.Rdr.val1 (Sx.rdStr Tryd.underlying9) rfl _ (fun _ => rfl) h2 (Sx.sized_get hsz (i := 2) (t := 9) (d := d2) rfl rfl)
  obtain ⟨a3, rfl⟩ := okWide_string Tryd.underlying9 (hval 3 9 v3 rfl rfl)
  have k3 := h3
  have lt3 : ∀ x ∈ p3, x.block < W.heap.size := by obtain ⟨m, hm⟩ := k3; exact DataW.trod_lt m _ _ _ hm
  obtain ⟨y3, ok3, rd3⟩ := Sx.Rdr.val1 (Sx.rdStr Tryd.underlying9) rfl _ (fun _ => rfl) h3 (Sx.sized_get hsz (i := 3) (t := 9) (d := d3) rfl rfl)
  clear hA0 hval0
  refine (Sx.Ct.walk (Kx.exact_ct y0 ⟨y1.1, y1.2.1, y1.2.2⟩ y2 y3) (Sx.rdtC rd0 (Sx.rdtC rd1 (Sx.rdtC rd2 (Sx.rdtC rd3 Sx.rdtN))))).mono fun e W' ⟨he, bel⟩ => ?_
  subst he
  exact ⟨_, rfl, _, _, _, [], _, [], hW', trodAll_mk1 (shut_bool Tryd.underlying4 _), (trodAll_cons_mk (Below.trod laidOut (by kernel_rfl) (of_decide_eq_true (by kernel_rfl)) k0 bel lt0) (trodAll_cons_mk (Below.trod laidOut (by kernel_rfl) (of_decide_eq_true (by kernel_rfl)) k1 bel lt1) (trodAll_cons_mk (Below.trod laidOut (by kernel_rfl) (of_decide_eq_true (by kernel_rfl)) k2 bel lt2) (trodAll_cons_mk (Below.trod laidOut (by kernel_rfl) (of_decide_eq_true (by kernel_rfl)) k3 bel lt3) trodAll_mk0)))), rfl, bel.frame _, fun h => by cases h⟩
theorem over : Rows.addressExactRow.holds Tryd.pinned (OpenSpec.ofChange Rows.addressExactSpec) :=
  OpenClaim.holds_of_wide 6 Tryd.f6 rfl rfl rfl rfl rfl rfl rfl ⟨rfl, rfl, rfl, rfl, rfl⟩ rfl rfl rfl rfl rfl (by kernel_rfl) Tryd.func6 (by kernel_rfl)
    (of_decide_eq_true (by kernel_rfl)) (by unfold Func.isWrapper; first | (rw [if_pos (by decide +kernel)]; kernel_rfl) | (rw [if_neg (by decide +kernel)]; exact ⟨rfl, rfl⟩))
    (fun os started H enc _ => lifted os started H enc)
theorem proved : Rows.AddressExactCardSaid :=
  Claim7.holds_tied_plain_at .later [] [.data, .pinned] true (true, "74ae3edfffa2a7a4d1171b250b5f25225711dcec777cbcd6e4f1e5d0ee2e7a36") false over (fun _ h => by cases h) (by kernel_rfl) (fun _ h => by cases h) addressExact_row_tie rfl ⟨rfl, rfl⟩ (by kernel_rfl) rfl
    (fun f fn hf hfn => by
      obtain rfl : f = 6 := Option.some.inj ((show Tryd.prog.funcNamed "recordlink/recordlinklaw04.AddressExact" = some 6 by kernel_rfl).symm.trans hf) |>.symm
      obtain rfl : fn = Tryd.f6 := (Option.some.inj (Tryd.func6.symm.trans hfn)).symm
      exact ⟨by kernel_rfl, fun j t ht => by
        rw [Tryd.params6] at ht
        have hm : t ∈ [22, 30, 9, 9] := by simpa using Array.mem_of_getElem? ht
        have hall : ([22, 30, 9, 9].all fun u => !Tryd.prog.wantsStandIn u) = true := by kernel_rfl
        exact (show Tryd.prog.wantsStandIn t = false by simpa using List.all_eq_true.1 hall t hm)⟩)
    (by kernel_rfl)
end Go.Proofs.YthokblligmllfaaDoor.addressExact
