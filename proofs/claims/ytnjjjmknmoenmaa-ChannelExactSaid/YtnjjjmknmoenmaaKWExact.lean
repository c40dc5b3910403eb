/-
  ChannelExact returns true for every input, and leaves its arguments as they were.
  No condition.
  No condition beyond those written in each theorem.
-/
import Derived.Test.YtnjjjmknmoenmaaKFh
import Derived.Test.YtnjjjmknmoenmaaRows
namespace Go.Proofs.Ytnjjjmknmoenmaa.channelExact
open Go.ChangeShapes Go.WideShapes Go.ChangeAt Go.RowKit
set_option linter.unusedVariables false
theorem own : ownKnob Try.prog.godebug = none := by kernel_rfl
theorem laidOut : laidOutB Try.prog = true := by kernel_rfl
set_option maxRecDepth 100000 in
theorem lifted (os : Os) (started : os.Started) (H : Type) (enc : TypeId × Value → H) :
    ReturnsInHanded {} Try.checked os 6 .any (Rows.channelExactSpec.pre6 enc Try.prog Try.f6 Rows.channelExactRow.domain false) (Rows.channelExactSpec.post enc Try.prog Try.f6 false true false false) := by
  refine returnsInHanded_of_change_sized (C := Try.checked) own started (by kernel_rfl) Try.func6
    (ChangeSpec.witness6 (enc := enc) (C := Try.checked) false ⟨#[], #[.slice none 0 0, .agg #[.int .i64 0, .int .i64 0, .slice none 0 0, .slice none 0 0, .slice none 0 0, .slice none 0 0], .string ByteArray.empty, .int .i64 0], []⟩ 8 (by kernel_rfl) (by kernel_rfl) (by kernel_rfl) (by kernel_rfl)) ?_
  intro W base args ds gs before hval0 hW hcnd hsz _
  have hval : ∀ (j : Nat) t v, Try.f6.params[j]? = some t → args[j]? = some v → Value.okWide Try.prog W .any base t v := hval0
  have hW' := hW
  obtain ⟨p, q, hA0, hV, rfl, hfz, hnd⟩ := hW
  have hA : DataW.TrodAll enc Try.prog W 0 (fun _ => true) true Try.f6.params.toList args.toList ds p := hA0
  rw [Try.params6] at hA hval
  rw [Try.params6] at hsz
  obtain ⟨v0, vs0, d0, ds0, p0, q0, hargs, rfl, rfl, h0, r0⟩ := trodAll_cons hA
  obtain ⟨v1, vs1, d1, ds1, p1, q1, rfl, rfl, rfl, h1, r1⟩ := trodAll_cons r0
  obtain ⟨v2, vs2, d2, ds2, p2, q2, rfl, rfl, rfl, h2, r2⟩ := trodAll_cons r1
  obtain ⟨v3, vs3, d3, ds3, p3, q3, rfl, rfl, rfl, h3, r3⟩ := trodAll_cons r2
  obtain ⟨rfl, rfl, rfl⟩ := trodAll_nil r3
  obtain rfl : args = #[v0, v1, v2, v3] := by cases args; simp_all
  obtain ⟨rfl, rfl⟩ := trodVars_none hV
  obtain ⟨a0, len0, cap0, rfl⟩ := okWide_slice Try.underlying22 (hval 0 22 v0 rfl rfl)
  have k0 := h0
  have lt0 : ∀ x ∈ p0, x.block < W.heap.size := by obtain ⟨m, hm⟩ := k0; exact DataW.trod_lt m _ _ _ hm
  obtain ⟨y0, ok0, rd0⟩ := Sx.Rdr.val1 ((Sx.rdSlice Try.underlying22 (by kernel_rfl : Try.prog.cellsOf 3 = 1) (by decide) (by kernel_rfl : Try.prog.bytesOf 3 = 8) (Sx.rdInt Try.underlying3))) rfl _ (fun _ => rfl) h0 (Sx.sized_get hsz (i := 0) (t := 22) (d := d0) rfl rfl)
  obtain ⟨a1, rfl, _⟩ := okWide_struct Try.underlying30 (hval 1 30 v1 rfl rfl)
  have k1 := h1
  have lt1 : ∀ x ∈ p1, x.block < W.heap.size := by obtain ⟨m, hm⟩ := k1; exact DataW.trod_lt m _ _ _ hm
  obtain ⟨y1, ok1, rd1⟩ := Sx.Rdr.valS (Sx.rdStruct (l := [(0, 1, 3), (1, 1, 3), (2, 1, 27), (3, 1, 28), (4, 1, 28), (5, 1, 22)]) (tot := 6) Try.underlying30 (by kernel_rfl) (by kernel_rfl) (Sx.rdfCons (off := 0) (n := 1) (Sx.rdInt Try.underlying3) (Sx.rdfCons (off := 1) (n := 1) (Sx.rdInt Try.underlying3) (Sx.rdfCons (off := 2) (n := 1) ((Sx.rdSlice Try.underlying27 (by kernel_rfl : Try.prog.cellsOf 9 = 1) (by decide) (by kernel_rfl : Try.prog.bytesOf 9 = 16) (Sx.rdStr Try.underlying9))) (Sx.rdfCons (off := 3) (n := 1) ((Sx.rdSlice Try.underlying28 (by kernel_rfl : Try.prog.cellsOf 43 = 2) (by decide) (by kernel_rfl : Try.prog.bytesOf 43 = 24) ((Sx.rdStruct (l := [(0, 1, 3), (1, 1, 9)]) (tot := 2) Try.underlying43 (by kernel_rfl) (by kernel_rfl) (Sx.rdfCons (off := 0) (n := 1) (Sx.rdInt Try.underlying3) (Sx.rdfOne (off := 1) (n := 1) (Sx.rdStr Try.underlying9))))))) (Sx.rdfCons (off := 4) (n := 1) ((Sx.rdSlice Try.underlying28 (by kernel_rfl : Try.prog.cellsOf 43 = 2) (by decide) (by kernel_rfl : Try.prog.bytesOf 43 = 24) ((Sx.rdStruct (l := [(0, 1, 3), (1, 1, 9)]) (tot := 2) Try.underlying43 (by kernel_rfl) (by kernel_rfl) (Sx.rdfCons (off := 0) (n := 1) (Sx.rdInt Try.underlying3) (Sx.rdfOne (off := 1) (n := 1) (Sx.rdStr Try.underlying9))))))) (Sx.rdfOne (off := 5) (n := 1) ((Sx.rdSlice Try.underlying22 (by kernel_rfl : Try.prog.cellsOf 3 = 1) (by decide) (by kernel_rfl : Try.prog.bytesOf 3 = 8) (Sx.rdInt Try.underlying3)))))))))) h1 (Sx.sized_get hsz (i := 1) (t := 30) (d := d1) rfl rfl)
  obtain ⟨a2, rfl⟩ := okWide_string Try.underlying9 (hval 2 9 v2 rfl rfl)
  have k2 := h2
  have lt2 : ∀ x ∈ p2, x.block < W.heap.size := by obtain ⟨m, hm⟩ := k2; exact DataW.trod_lt m _ _ _ hm
  obtain ⟨y2, ok2, rd2⟩ := Sx.Rdr.val1 (Sx.rdStr Try.underlying9) rfl _ (fun _ => rfl) h2 (Sx.sized_get hsz (i := 2) (t := 9) (d := d2) rfl rfl)
  obtain ⟨a3, rfl⟩ := okWide_int Try.underlying3 (hval 3 3 v3 rfl rfl)
  have k3 := h3
  have lt3 : ∀ x ∈ p3, x.block < W.heap.size := by obtain ⟨m, hm⟩ := k3; exact DataW.trod_lt m _ _ _ hm
  obtain ⟨y3, ok3, rd3⟩ := Sx.Rdr.val1 (Sx.rdInt Try.underlying3) rfl _ (fun _ => rfl) h3 (Sx.sized_get hsz (i := 3) (t := 3) (d := d3) rfl rfl)
  clear hA0 hval0
  refine (Sx.Ct.walk ((Kx.exactR_ct y0 y1 y2 y3 ok1.2.2.1.2 ok1.2.2.2.1.2 ok1.2.2.2.2.1.2 ok1.2.2.2.2.2.2)) (Sx.rdtC rd0 (Sx.rdtC rd1 (Sx.rdtC rd2 (Sx.rdtC rd3 Sx.rdtN))))).mono fun e W' ⟨he, bel⟩ => ?_
  subst he
  exact ⟨_, rfl, _, _, _, [], _, [], hW', trodAll_mk1 (shut_bool Try.underlying4 _), (trodAll_cons_mk (Below.trod laidOut (by kernel_rfl) (of_decide_eq_true (by kernel_rfl)) k0 bel lt0) (trodAll_cons_mk (Below.trod laidOut (by kernel_rfl) (of_decide_eq_true (by kernel_rfl)) k1 bel lt1) (trodAll_cons_mk (Below.trod laidOut (by kernel_rfl) (of_decide_eq_true (by kernel_rfl)) k2 bel lt2) (trodAll_cons_mk (Below.trod laidOut (by kernel_rfl) (of_decide_eq_true (by kernel_rfl)) k3 bel lt3) trodAll_mk0)))), rfl, bel.frame _, fun h => by cases h⟩
theorem over : Rows.channelExactRow.holds Try.pinned (OpenSpec.ofChange Rows.channelExactSpec) :=
  OpenClaim.holds_of_wide 6 Try.f6 rfl rfl rfl rfl rfl rfl rfl ⟨rfl, rfl, rfl, rfl, rfl⟩ rfl rfl rfl rfl rfl (by kernel_rfl) Try.func6 (by kernel_rfl)
    (of_decide_eq_true (by kernel_rfl)) (by unfold Func.isWrapper; first | (rw [if_pos (by decide +kernel)]; kernel_rfl) | (rw [if_neg (by decide +kernel)]; exact ⟨rfl, rfl⟩))
    (fun os started H enc _ => lifted os started H enc)
theorem proved : Rows.ChannelExactSaid := over
end Go.Proofs.Ytnjjjmknmoenmaa.channelExact
