/-
  The law ChannelLimits.
  No condition beyond those written in each theorem.
-/
import Derived.Test.YtnjjjmknmoenmaaKEm
open Go Sx Go.Proofs
set_option linter.unusedSimpArgs false
set_option linter.unusedVariables false
namespace Kx
def Lm (j : Int) (m : Nat) : Ch := ⟨j, j, List.replicate m [109], [], [], []⟩
theorem lm_good {j : Int} {m : Nat} (h1 : 1 ≤ j) (h2 : j + m ≤ 1048576) (h3 : m ≤ 16) : (Lm j m).good := by
  have hr : (Lm j m).reach = j + min ((List.replicate m ([109] : Str)).length : Int) 4 := rfl
  have hl : (List.replicate m ([109] : Str)).length = m := List.length_replicate
  refine good_mk h1 ?_ (Int.le_refl _) ?_ ?_ (Nat.zero_le _) (Nat.zero_le _) ?_ ?_ ?_ ?_ .nil ?_ ?_
  · show j + ((List.replicate m ([109] : Str)).length : Int) ≤ _; omega
  · show j ≤ (Lm j m).reach; rw [hr]; omega
  · show (List.replicate m ([109] : Str)).length ≤ 16; omega
  · intro s hs
    rw [show (Lm j m).wait = List.replicate m [109] from rfl] at hs
    rw [(List.mem_replicate.1 hs).2]; decide
  all_goals intro x hx; cases hx
theorem lm_offer {j : Int} {m : Nat} (h1 : 1 ≤ j) (h2 : j + m < 1048576) (h3 : m < 16) : (Lm j m).offer [109] = (Lm j (m + 1), 0) := by
  rw [Ch.offer, if_neg (not_not_intro (lm_good h1 (by omega) (by omega)).chk), if_neg]
  · rw [Lm, Lm, List.replicate_succ']
  · have hl : (Lm j m).wait.length = m := List.length_replicate
    have hb : (Lm j m).base = j := rfl
    rw [hl, hb]
    have : ¬60000 < List.length ([109] : Str) := by decide
    omega
theorem lm_full {j : Int} {m : Nat} (h1 : 1 ≤ j) (h2 : j + m = 1048576) (h3 : m < 16) : (Lm j m).offer [109] = (.z, 1) := by
  rw [Ch.offer, if_neg (not_not_intro (lm_good h1 (by omega) (by omega)).chk), if_pos]
  have hl : (Lm j m).wait.length = m := List.length_replicate
  have hb : (Lm j m).base = j := rfl
  rw [hl, hb]
  omega
def Lt (j : Int) (m : Nat) : Ch := ⟨j, j, List.replicate (m + 1) [109], [(j, [109])], [], []⟩
def Lb (j : Int) (m : Nat) : Ch := ⟨j, j + 1, List.replicate (m + 1) [109], [], [], [j + 1]⟩
theorem lm_send {j : Int} {m : Nat} (h1 : 1 ≤ j) (h2 : j + m < 1048576) (h3 : m < 16) : (Lm j (m + 1)).send 0 = (Lt j m, 0) := by
  have hl : (Lm j (m + 1)).wait.length = m + 1 := List.length_replicate
  rw [Ch.send, if_neg (not_not_intro (lm_good h1 (by omega) (by omega)).chk), if_neg (by rw [hl]; omega), if_neg (show ¬16 ≤ (Lm j (m + 1)).there.length from by (show ¬16 ≤ ([] : List Pk).length); decide)]
  show (({ Lm j (m + 1) with there := [(j + 0, (List.replicate (m + 1) [109]).getD 0 [])] } : Ch), (0 : Int)) = _
  rw [Int.add_zero]; rfl
theorem lm_deliver {j : Int} {m : Nat} (h1 : 1 ≤ j) (h2 : j + m < 1048576) (h3 : m < 16) : (Lt j m).good ∧ (Lt j m).deliver 0 = (Lb j m, [[109]], 0) := by
  have g := (send_step (lm_good h1 (by omega) (by omega)) (lm_send h1 h2 h3)).1.g
  refine ⟨g, ?_⟩
  have he : (Lt j m).err 0 (Lt j m).there.length = 0 := by
    rw [Ch.err, if_neg (not_not_intro g.chk), if_neg]
    show ¬((0 : Int) < 0 ∨ ((1 : Nat) : Int) ≤ 0); omega
  rw [Ch.deliver, if_neg (not_not_intro he)]
  show ((Ch.arrive ⟨j, j, List.replicate (m + 1) [109], [], [], []⟩ (j, [109])).1.note, (Ch.arrive ⟨j, j, List.replicate (m + 1) [109], [], [], []⟩ (j, [109])).2, (0 : Int)) = _
  rw [Ch.arrive, if_pos rfl]
  rfl
theorem lm_back {j : Int} {m : Nat} (h1 : 1 ≤ j) (h2 : j + m < 1048576) (h3 : m < 16) : (Lb j m).good ∧ (Lb j m).backM 0 = (Lm (j + 1) m, 0) := by
  obtain ⟨g0, e⟩ := lm_deliver h1 h2 h3
  have g := (deliver_step g0 e).1.g
  refine ⟨g, ?_⟩
  have he : (Lb j m).err 0 (Lb j m).back.length = 0 := by
    rw [Ch.err, if_neg (not_not_intro g.chk), if_neg]
    show ¬((0 : Int) < 0 ∨ ((1 : Nat) : Int) ≤ 0); omega
  rw [Ch.backM, if_neg (not_not_intro he)]
  show (Ch.ack ⟨j, j + 1, List.replicate (m + 1) [109], [], [], []⟩ (j + 1), (0 : Int)) = _
  rw [Ch.ack, if_pos (show j < j + 1 by omega), Lm, show j + 1 - j = 1 by omega]
  rfl
theorem lm_len (j : Int) (m : Nat) : (Lm j m).wait.length = m := List.length_replicate
theorem limits_ct (n : Int) (h : 0 ≤ n ∧ n ≤ 255) : Ct Try.prog 5 [.int .u8 n] fun r outs => r = .bool true ∧ outs = [] := by
  have hb := tmod_bd n 6 h.1 (by omega)
  obtain ⟨k, hk⟩ : ∃ k : Nat, n.tmod 6 = k := ⟨(n.tmod 6).toNat, by omega⟩
  rw [hk] at hb
  refine .det (.of_W (fn := Try.f5) hΓ hm Try.func5 [] [] (by kernel_rfl) (Step.out ?_))
  repeat' first
    | (refine Step.mk ?_; conv => whnf)
    | (refine Vc.om ?_ ?_; first | omega | with_reducible rfl | with_reducible exact same_rfl | (simp only [bytes_2, bytes_3, bytes_4, bytes_5, bytes_9, bytes_12, bytes_21, bytes_22, bytes_25, bytes_27, bytes_28, bytes_29, bytes_30, bytes_33, bytes_42, bytes_43, bytes_47, bytes_51, bytes_52, bytes_53, bytes_57, bytes_58, bytes_59, bytes_73, bytes_91, bytes_104, bytes_108, bytes_111, true_and, and_true] <;> omega))
    | (refine NilB.mk fun b hb => Step.out ?_)
    | with_reducible trivial
    | exact noSh_bool _
    | exact noSh_lit _
    | exact noSh_int _ _
    | exact noSh_str _
    | with_reducible rfl
    | with_reducible exact same_rfl
    | (refine Wr.i64 ?_ ?_; omega)
    | (refine Wr.u8 ?_ ?_; omega)
    | (refine Wr.i32 ?_ ?_; omega)
    | (with_reducible refine Br.tt ?_)
    | (with_reducible refine Br.ff ?_)
    | (refine Br.dT ?_ ?_; omega)
    | (refine Br.dF ?_ ?_; omega)
    | (rw [hk])
    | (refine Br.d (fun h => ?_) (fun h => ?_))
    | (refine Br.swap ?_)
    | (refine Br.bnot ?_)
    | (refine Br.mk (fun h => Step.out ?_) (fun h => Step.out ?_))
    | (refine Two.mk (Step.out ?_) (Step.out ?_))
    | (refine Cp.mk fun q hq => Step.out ?_)
    | (refine Ovl.mk (by assumption) (Step.out ?_))
    | (refine CallOK.ctF (g := 13) (Step.out ?_))
    | (refine CallOK.ctF (g := 14) (Step.out ?_))
    | (refine CallOK.ctF (g := 15) (Step.out ?_))
    | (refine CallOK.ctF (g := 16) (Step.out ?_))
    | (refine CallOK.ctF (g := 20) (Step.out ?_))
    | (refine CallOK.of_ct (Step.out ?_))
    | (refine CallQ.of_ct (Step.out ?_))
    | (refine Met.by (g := 9) (awake_ct) ?_; rintro q outs ⟨rfl, rfl⟩)
    | (refine Met.by (g := 13) (idle_ct _ (by assumption)) ?_; rintro q outs ⟨rfl, rfl⟩)
    | (refine Met.by (g := 14) (deliver_ct _ (by assumption) _) ?_; rintro q outs ⟨rfl, rfl⟩)
    | (refine Met.by (g := 15) (back_ct _ (by assumption) _) ?_; rintro q outs ⟨rfl, rfl⟩)
    | (refine Met.by (g := 16) (send_ct _ (by assumption) _) ?_; rintro q outs ⟨rfl, rfl⟩)
    | (refine Met.by (g := 19) (check_ct _ (by assumption)) ?_; rintro q outs ⟨rfl, rfl⟩)
    | (refine Met.by (g := 20) (offer_ct _ (by assumption) _) ?_; rintro q outs ⟨rfl, rfl⟩)
    | (refine Vc.mk ?_ (Step.out ?_))
  refine CodeOK.loopW hΓ hm [] [] (by kernel_rfl) (α := Nat) (fun m => [(3, i64 k), (4, .loc 0 0), (5, i64 m)]) (fun m => [(0, .var (Lm (1048576 - k) m).l)]) 1 (fun m => m ≤ k) (fun m => k - m) ?_ ?_
  · refine Again.by 0 (Nat.zero_le _) ?_
    repeat' first
      | (refine Step.mk ?_; conv => whnf)
      | (refine Vc.om ?_ ?_; first | omega | with_reducible rfl | with_reducible exact same_rfl | (simp only [bytes_2, bytes_3, bytes_4, bytes_5, bytes_9, bytes_12, bytes_21, bytes_22, bytes_25, bytes_27, bytes_28, bytes_29, bytes_30, bytes_33, bytes_42, bytes_43, bytes_47, bytes_51, bytes_52, bytes_53, bytes_57, bytes_58, bytes_59, bytes_73, bytes_91, bytes_104, bytes_108, bytes_111, true_and, and_true] <;> omega))
      | (refine NilB.mk fun b hb => Step.out ?_)
      | with_reducible trivial
      | exact noSh_bool _
      | exact noSh_lit _
      | exact noSh_int _ _
      | exact noSh_str _
      | with_reducible rfl
      | with_reducible exact same_rfl
      | (refine Wr.i64 ?_ ?_; omega)
      | (refine Wr.u8 ?_ ?_; omega)
      | (refine Wr.i32 ?_ ?_; omega)
      | (with_reducible refine Br.tt ?_)
      | (with_reducible refine Br.ff ?_)
      | (refine Br.dT ?_ ?_; omega)
      | (refine Br.dF ?_ ?_; omega)
      | (refine Br.d (fun h => ?_) (fun h => ?_))
      | (refine Br.swap ?_)
      | (refine Br.bnot ?_)
      | (refine Br.mk (fun h => Step.out ?_) (fun h => Step.out ?_))
      | (refine Two.mk (Step.out ?_) (Step.out ?_))
      | (refine Cp.mk fun q hq => Step.out ?_)
      | (refine Ovl.mk (by assumption) (Step.out ?_))
      | (refine CallOK.ctF (g := 13) (Step.out ?_))
      | (refine CallOK.ctF (g := 14) (Step.out ?_))
      | (refine CallOK.ctF (g := 15) (Step.out ?_))
      | (refine CallOK.ctF (g := 16) (Step.out ?_))
      | (refine CallOK.ctF (g := 20) (Step.out ?_))
      | (refine CallOK.of_ct (Step.out ?_))
      | (refine CallQ.of_ct (Step.out ?_))
      | (refine Met.by (g := 9) (awake_ct) ?_; rintro q outs ⟨rfl, rfl⟩)
      | (refine Met.by (g := 13) (idle_ct _ (by assumption)) ?_; rintro q outs ⟨rfl, rfl⟩)
      | (refine Met.by (g := 14) (deliver_ct _ (by assumption) _) ?_; rintro q outs ⟨rfl, rfl⟩)
      | (refine Met.by (g := 15) (back_ct _ (by assumption) _) ?_; rintro q outs ⟨rfl, rfl⟩)
      | (refine Met.by (g := 16) (send_ct _ (by assumption) _) ?_; rintro q outs ⟨rfl, rfl⟩)
      | (refine Met.by (g := 19) (check_ct _ (by assumption)) ?_; rintro q outs ⟨rfl, rfl⟩)
      | (refine Met.by (g := 20) (offer_ct _ (by assumption) _) ?_; rintro q outs ⟨rfl, rfl⟩)
      | (refine Vc.mk ?_ (Step.out ?_))
    all_goals rfl
  · intro m hmk
    have g := lm_good (j := 1048576 - k) (m := m) (by omega) (by omega) (by omega)
    have hl := lm_len (1048576 - k) m
    have c1 := offer_ct _ g.ok [109]
    rcases Nat.lt_or_ge m k with hlt | hge
    · rw [lm_offer (by omega) (by omega) (by omega)] at c1
      repeat' first
        | (refine Step.mk ?_; conv => whnf)
        | (refine Vc.om ?_ ?_; first | omega | with_reducible rfl | with_reducible exact same_rfl | (simp only [bytes_2, bytes_3, bytes_4, bytes_5, bytes_9, bytes_12, bytes_21, bytes_22, bytes_25, bytes_27, bytes_28, bytes_29, bytes_30, bytes_33, bytes_42, bytes_43, bytes_47, bytes_51, bytes_52, bytes_53, bytes_57, bytes_58, bytes_59, bytes_73, bytes_91, bytes_104, bytes_108, bytes_111, true_and, and_true] <;> omega))
        | (refine NilB.mk fun b hb => Step.out ?_)
        | with_reducible trivial
        | exact noSh_bool _
        | exact noSh_lit _
        | exact noSh_int _ _
        | exact noSh_str _
        | with_reducible rfl
        | with_reducible exact same_rfl
        | (refine Wr.i64 ?_ ?_; omega)
        | (refine Wr.u8 ?_ ?_; omega)
        | (refine Wr.i32 ?_ ?_; omega)
        | (with_reducible refine Br.tt ?_)
        | (with_reducible refine Br.ff ?_)
        | (refine Br.dT ?_ ?_; omega)
        | (refine Br.dF ?_ ?_; omega)
        | (refine Met.by c1 ?_; rintro q outs ⟨rfl, rfl⟩)
        | (refine Br.d (fun h => ?_) (fun h => ?_))
        | (refine Br.swap ?_)
        | (refine Br.bnot ?_)
        | (refine Br.mk (fun h => Step.out ?_) (fun h => Step.out ?_))
        | (refine Two.mk (Step.out ?_) (Step.out ?_))
        | (refine Cp.mk fun q hq => Step.out ?_)
        | (refine Ovl.mk (by assumption) (Step.out ?_))
        | (refine CallOK.ctF (g := 13) (Step.out ?_))
        | (refine CallOK.ctF (g := 14) (Step.out ?_))
        | (refine CallOK.ctF (g := 15) (Step.out ?_))
        | (refine CallOK.ctF (g := 16) (Step.out ?_))
        | (refine CallOK.ctF (g := 20) (Step.out ?_))
        | (refine CallOK.of_ct (Step.out ?_))
        | (refine CallQ.of_ct (Step.out ?_))
        | (refine Met.by (g := 9) (awake_ct) ?_; rintro q outs ⟨rfl, rfl⟩)
        | (refine Met.by (g := 13) (idle_ct _ (by assumption)) ?_; rintro q outs ⟨rfl, rfl⟩)
        | (refine Met.by (g := 14) (deliver_ct _ (by assumption) _) ?_; rintro q outs ⟨rfl, rfl⟩)
        | (refine Met.by (g := 15) (back_ct _ (by assumption) _) ?_; rintro q outs ⟨rfl, rfl⟩)
        | (refine Met.by (g := 16) (send_ct _ (by assumption) _) ?_; rintro q outs ⟨rfl, rfl⟩)
        | (refine Met.by (g := 19) (check_ct _ (by assumption)) ?_; rintro q outs ⟨rfl, rfl⟩)
        | (refine Met.by (g := 20) (offer_ct _ (by assumption) _) ?_; rintro q outs ⟨rfl, rfl⟩)
        | (refine Vc.mk ?_ (Step.out ?_))
      refine Again.by (m + 1) ⟨by omega, by omega⟩ ?_
      repeat' first
        | (refine Step.mk ?_; conv => whnf)
        | (refine Vc.om ?_ ?_; first | omega | with_reducible rfl | with_reducible exact same_rfl | (simp only [bytes_2, bytes_3, bytes_4, bytes_5, bytes_9, bytes_12, bytes_21, bytes_22, bytes_25, bytes_27, bytes_28, bytes_29, bytes_30, bytes_33, bytes_42, bytes_43, bytes_47, bytes_51, bytes_52, bytes_53, bytes_57, bytes_58, bytes_59, bytes_73, bytes_91, bytes_104, bytes_108, bytes_111, true_and, and_true] <;> omega))
        | (refine NilB.mk fun b hb => Step.out ?_)
        | with_reducible trivial
        | exact noSh_bool _
        | exact noSh_lit _
        | exact noSh_int _ _
        | exact noSh_str _
        | with_reducible rfl
        | with_reducible exact same_rfl
        | (refine Wr.i64 ?_ ?_; omega)
        | (refine Wr.u8 ?_ ?_; omega)
        | (refine Wr.i32 ?_ ?_; omega)
        | (with_reducible refine Br.tt ?_)
        | (with_reducible refine Br.ff ?_)
        | (refine Br.dT ?_ ?_; omega)
        | (refine Br.dF ?_ ?_; omega)
        | (refine Br.d (fun h => ?_) (fun h => ?_))
        | (refine Br.swap ?_)
        | (refine Br.bnot ?_)
        | (refine Br.mk (fun h => Step.out ?_) (fun h => Step.out ?_))
        | (refine Two.mk (Step.out ?_) (Step.out ?_))
        | (refine Cp.mk fun q hq => Step.out ?_)
        | (refine Ovl.mk (by assumption) (Step.out ?_))
        | (refine CallOK.ctF (g := 13) (Step.out ?_))
        | (refine CallOK.ctF (g := 14) (Step.out ?_))
        | (refine CallOK.ctF (g := 15) (Step.out ?_))
        | (refine CallOK.ctF (g := 16) (Step.out ?_))
        | (refine CallOK.ctF (g := 20) (Step.out ?_))
        | (refine CallOK.of_ct (Step.out ?_))
        | (refine CallQ.of_ct (Step.out ?_))
        | (refine Met.by (g := 9) (awake_ct) ?_; rintro q outs ⟨rfl, rfl⟩)
        | (refine Met.by (g := 13) (idle_ct _ (by assumption)) ?_; rintro q outs ⟨rfl, rfl⟩)
        | (refine Met.by (g := 14) (deliver_ct _ (by assumption) _) ?_; rintro q outs ⟨rfl, rfl⟩)
        | (refine Met.by (g := 15) (back_ct _ (by assumption) _) ?_; rintro q outs ⟨rfl, rfl⟩)
        | (refine Met.by (g := 16) (send_ct _ (by assumption) _) ?_; rintro q outs ⟨rfl, rfl⟩)
        | (refine Met.by (g := 19) (check_ct _ (by assumption)) ?_; rintro q outs ⟨rfl, rfl⟩)
        | (refine Met.by (g := 20) (offer_ct _ (by assumption) _) ?_; rintro q outs ⟨rfl, rfl⟩)
        | (refine Vc.mk ?_ (Step.out ?_))
      all_goals first
        | omega
        | exact ⟨rfl, fun _ _ => rfl⟩
        | rfl
    · obtain rfl : m = k := by omega
      rw [lm_full (by omega) (by omega) (by omega)] at c1
      repeat' first
        | (refine Step.mk ?_; conv => whnf)
        | (refine Vc.om ?_ ?_; first | omega | with_reducible rfl | with_reducible exact same_rfl | (simp only [bytes_2, bytes_3, bytes_4, bytes_5, bytes_9, bytes_12, bytes_21, bytes_22, bytes_25, bytes_27, bytes_28, bytes_29, bytes_30, bytes_33, bytes_42, bytes_43, bytes_47, bytes_51, bytes_52, bytes_53, bytes_57, bytes_58, bytes_59, bytes_73, bytes_91, bytes_104, bytes_108, bytes_111, true_and, and_true] <;> omega))
        | (refine NilB.mk fun b hb => Step.out ?_)
        | with_reducible trivial
        | exact noSh_bool _
        | exact noSh_lit _
        | exact noSh_int _ _
        | exact noSh_str _
        | with_reducible rfl
        | with_reducible exact same_rfl
        | (refine Wr.i64 ?_ ?_; omega)
        | (refine Wr.u8 ?_ ?_; omega)
        | (refine Wr.i32 ?_ ?_; omega)
        | (with_reducible refine Br.tt ?_)
        | (with_reducible refine Br.ff ?_)
        | (refine Br.dT ?_ ?_; omega)
        | (refine Br.dF ?_ ?_; omega)
        | (refine Met.by c1 ?_; rintro q outs ⟨rfl, rfl⟩)
        | (refine Br.d (fun h => ?_) (fun h => ?_))
        | (refine Br.swap ?_)
        | (refine Br.bnot ?_)
        | (refine Br.mk (fun h => Step.out ?_) (fun h => Step.out ?_))
        | (refine Two.mk (Step.out ?_) (Step.out ?_))
        | (refine Cp.mk fun q hq => Step.out ?_)
        | (refine Ovl.mk (by assumption) (Step.out ?_))
        | (refine CallOK.ctF (g := 13) (Step.out ?_))
        | (refine CallOK.ctF (g := 14) (Step.out ?_))
        | (refine CallOK.ctF (g := 15) (Step.out ?_))
        | (refine CallOK.ctF (g := 16) (Step.out ?_))
        | (refine CallOK.ctF (g := 20) (Step.out ?_))
        | (refine CallOK.of_ct (Step.out ?_))
        | (refine CallQ.of_ct (Step.out ?_))
        | (refine Met.by (g := 9) (awake_ct) ?_; rintro q outs ⟨rfl, rfl⟩)
        | (refine Met.by (g := 13) (idle_ct _ (by assumption)) ?_; rintro q outs ⟨rfl, rfl⟩)
        | (refine Met.by (g := 14) (deliver_ct _ (by assumption) _) ?_; rintro q outs ⟨rfl, rfl⟩)
        | (refine Met.by (g := 15) (back_ct _ (by assumption) _) ?_; rintro q outs ⟨rfl, rfl⟩)
        | (refine Met.by (g := 16) (send_ct _ (by assumption) _) ?_; rintro q outs ⟨rfl, rfl⟩)
        | (refine Met.by (g := 19) (check_ct _ (by assumption)) ?_; rintro q outs ⟨rfl, rfl⟩)
        | (refine Met.by (g := 20) (offer_ct _ (by assumption) _) ?_; rintro q outs ⟨rfl, rfl⟩)
        | (refine Vc.mk ?_ (Step.out ?_))
      refine CodeOK.loopW hΓ hm [] [] (by kernel_rfl) (α := Nat) (fun i => [(3, i64 m), (4, .loc 0 0), (5, i64 m), (8, i64 i)]) (fun i => [(0, .var (Lm (1048576 - m + i) (m - i)).l)]) 1 (fun i => i ≤ m) (fun i => m - i) ?_ ?_
      · refine Again.by 0 (Nat.zero_le _) ?_
        rw [Nat.sub_zero]
        repeat' first
          | (refine Step.mk ?_; conv => whnf)
          | (refine Vc.om ?_ ?_; first | omega | with_reducible rfl | with_reducible exact same_rfl | (simp only [bytes_2, bytes_3, bytes_4, bytes_5, bytes_9, bytes_12, bytes_21, bytes_22, bytes_25, bytes_27, bytes_28, bytes_29, bytes_30, bytes_33, bytes_42, bytes_43, bytes_47, bytes_51, bytes_52, bytes_53, bytes_57, bytes_58, bytes_59, bytes_73, bytes_91, bytes_104, bytes_108, bytes_111, true_and, and_true] <;> omega))
          | (refine NilB.mk fun b hb => Step.out ?_)
          | with_reducible trivial
          | exact noSh_bool _
          | exact noSh_lit _
          | exact noSh_int _ _
          | exact noSh_str _
          | with_reducible rfl
          | with_reducible exact same_rfl
          | (refine Wr.i64 ?_ ?_; omega)
          | (refine Wr.u8 ?_ ?_; omega)
          | (refine Wr.i32 ?_ ?_; omega)
          | (with_reducible refine Br.tt ?_)
          | (with_reducible refine Br.ff ?_)
          | (refine Br.dT ?_ ?_; omega)
          | (refine Br.dF ?_ ?_; omega)
          | (refine Br.d (fun h => ?_) (fun h => ?_))
          | (refine Br.swap ?_)
          | (refine Br.bnot ?_)
          | (refine Br.mk (fun h => Step.out ?_) (fun h => Step.out ?_))
          | (refine Two.mk (Step.out ?_) (Step.out ?_))
          | (refine Cp.mk fun q hq => Step.out ?_)
          | (refine Ovl.mk (by assumption) (Step.out ?_))
          | (refine CallOK.ctF (g := 13) (Step.out ?_))
          | (refine CallOK.ctF (g := 14) (Step.out ?_))
          | (refine CallOK.ctF (g := 15) (Step.out ?_))
          | (refine CallOK.ctF (g := 16) (Step.out ?_))
          | (refine CallOK.ctF (g := 20) (Step.out ?_))
          | (refine CallOK.of_ct (Step.out ?_))
          | (refine CallQ.of_ct (Step.out ?_))
          | (refine Met.by (g := 9) (awake_ct) ?_; rintro q outs ⟨rfl, rfl⟩)
          | (refine Met.by (g := 13) (idle_ct _ (by assumption)) ?_; rintro q outs ⟨rfl, rfl⟩)
          | (refine Met.by (g := 14) (deliver_ct _ (by assumption) _) ?_; rintro q outs ⟨rfl, rfl⟩)
          | (refine Met.by (g := 15) (back_ct _ (by assumption) _) ?_; rintro q outs ⟨rfl, rfl⟩)
          | (refine Met.by (g := 16) (send_ct _ (by assumption) _) ?_; rintro q outs ⟨rfl, rfl⟩)
          | (refine Met.by (g := 19) (check_ct _ (by assumption)) ?_; rintro q outs ⟨rfl, rfl⟩)
          | (refine Met.by (g := 20) (offer_ct _ (by assumption) _) ?_; rintro q outs ⟨rfl, rfl⟩)
          | (refine Vc.mk ?_ (Step.out ?_))
        all_goals first
          | omega
          | exact ⟨rfl, fun _ _ => rfl⟩
          | rfl
          | (show (1048576 - (m : Int)) = 1048576 - (m : Int) + ((0 : Nat) : Int); omega)
      · intro i hi
        have g := lm_good (j := 1048576 - m + i) (m := m - i) (by omega) (by omega) (by omega)
        have hl := lm_len (1048576 - m + i) (m - i)
        rcases Nat.lt_or_ge i m with hlt | hge
        · obtain ⟨q, hq⟩ : ∃ q, m - i = q + 1 := ⟨m - i - 1, by omega⟩
          rw [hq] at g hl ⊢
          have g1 := lm_deliver (j := 1048576 - m + i) (m := q) (by omega) (by omega) (by omega)
          have g2 := lm_back (j := 1048576 - m + i) (m := q) (by omega) (by omega) (by omega)
          have c1 := send_ct _ g.ok 0
          have c2 := deliver_ct _ g1.1.ok 0
          have c3 := back_ct _ g2.1.ok 0
          rw [lm_send (by omega) (by omega) (by omega)] at c1
          rw [g1.2] at c2
          rw [g2.2] at c3
          dsimp only at c1 c2 c3
          repeat' first
            | (refine Step.mk ?_; conv => whnf)
            | (refine Vc.om ?_ ?_; first | omega | with_reducible rfl | with_reducible exact same_rfl | (simp only [bytes_2, bytes_3, bytes_4, bytes_5, bytes_9, bytes_12, bytes_21, bytes_22, bytes_25, bytes_27, bytes_28, bytes_29, bytes_30, bytes_33, bytes_42, bytes_43, bytes_47, bytes_51, bytes_52, bytes_53, bytes_57, bytes_58, bytes_59, bytes_73, bytes_91, bytes_104, bytes_108, bytes_111, true_and, and_true] <;> omega))
            | (refine NilB.mk fun b hb => Step.out ?_)
            | with_reducible trivial
            | exact noSh_bool _
            | exact noSh_lit _
            | exact noSh_int _ _
            | exact noSh_str _
            | with_reducible rfl
            | with_reducible exact same_rfl
            | (refine Wr.i64 ?_ ?_; omega)
            | (refine Wr.u8 ?_ ?_; omega)
            | (refine Wr.i32 ?_ ?_; omega)
            | (with_reducible refine Br.tt ?_)
            | (with_reducible refine Br.ff ?_)
            | (refine Br.dT ?_ ?_; omega)
            | (refine Br.dF ?_ ?_; omega)
            | (refine Met.by c1 ?_; rintro q outs ⟨rfl, rfl⟩)
            | (refine Met.by c2 ?_; rintro q outs ⟨rfl, rfl⟩)
            | (refine Met.by c3 ?_; rintro q outs ⟨rfl, rfl⟩)
            | (refine Vc.om ?_ ?_; focus (simp; done))
            | (refine Wr.i64 ?_ ?_; focus (simp; done))
            | (refine Wr.u8 ?_ ?_; focus (simp; done))
            | (refine Br.dT ?_ ?_; focus (simp; done))
            | (refine Br.dF ?_ ?_; focus (simp; done))
            | (refine Br.d (fun h => ?_) (fun h => ?_))
            | (refine Br.swap ?_)
            | (refine Br.bnot ?_)
            | (refine Br.mk (fun h => Step.out ?_) (fun h => Step.out ?_))
            | (refine Two.mk (Step.out ?_) (Step.out ?_))
            | (refine Cp.mk fun q hq => Step.out ?_)
            | (refine Ovl.mk (by assumption) (Step.out ?_))
            | (refine CallOK.ctF (g := 13) (Step.out ?_))
            | (refine CallOK.ctF (g := 14) (Step.out ?_))
            | (refine CallOK.ctF (g := 15) (Step.out ?_))
            | (refine CallOK.ctF (g := 16) (Step.out ?_))
            | (refine CallOK.ctF (g := 20) (Step.out ?_))
            | (refine CallOK.of_ct (Step.out ?_))
            | (refine CallQ.of_ct (Step.out ?_))
            | (refine Met.by (g := 9) (awake_ct) ?_; rintro q outs ⟨rfl, rfl⟩)
            | (refine Met.by (g := 13) (idle_ct _ (by assumption)) ?_; rintro q outs ⟨rfl, rfl⟩)
            | (refine Met.by (g := 14) (deliver_ct _ (by assumption) _) ?_; rintro q outs ⟨rfl, rfl⟩)
            | (refine Met.by (g := 15) (back_ct _ (by assumption) _) ?_; rintro q outs ⟨rfl, rfl⟩)
            | (refine Met.by (g := 16) (send_ct _ (by assumption) _) ?_; rintro q outs ⟨rfl, rfl⟩)
            | (refine Met.by (g := 19) (check_ct _ (by assumption)) ?_; rintro q outs ⟨rfl, rfl⟩)
            | (refine Met.by (g := 20) (offer_ct _ (by assumption) _) ?_; rintro q outs ⟨rfl, rfl⟩)
            | (refine Vc.mk ?_ (Step.out ?_))
          refine Again.by (i + 1) ⟨by omega, by omega⟩ ?_
          rw [show m - (i + 1) = q by omega, show (1048576 - (m : Int) + ((i + 1 : Nat) : Int)) = 1048576 - m + i + 1 by omega]
          repeat' first
            | (refine Step.mk ?_; conv => whnf)
            | (refine Vc.om ?_ ?_; first | omega | with_reducible rfl | with_reducible exact same_rfl | (simp only [bytes_2, bytes_3, bytes_4, bytes_5, bytes_9, bytes_12, bytes_21, bytes_22, bytes_25, bytes_27, bytes_28, bytes_29, bytes_30, bytes_33, bytes_42, bytes_43, bytes_47, bytes_51, bytes_52, bytes_53, bytes_57, bytes_58, bytes_59, bytes_73, bytes_91, bytes_104, bytes_108, bytes_111, true_and, and_true] <;> omega))
            | (refine NilB.mk fun b hb => Step.out ?_)
            | with_reducible trivial
            | exact noSh_bool _
            | exact noSh_lit _
            | exact noSh_int _ _
            | exact noSh_str _
            | with_reducible rfl
            | with_reducible exact same_rfl
            | (refine Wr.i64 ?_ ?_; omega)
            | (refine Wr.u8 ?_ ?_; omega)
            | (refine Wr.i32 ?_ ?_; omega)
            | (with_reducible refine Br.tt ?_)
            | (with_reducible refine Br.ff ?_)
            | (refine Br.dT ?_ ?_; omega)
            | (refine Br.dF ?_ ?_; omega)
            | (refine Br.d (fun h => ?_) (fun h => ?_))
            | (refine Br.swap ?_)
            | (refine Br.bnot ?_)
            | (refine Br.mk (fun h => Step.out ?_) (fun h => Step.out ?_))
            | (refine Two.mk (Step.out ?_) (Step.out ?_))
            | (refine Cp.mk fun q hq => Step.out ?_)
            | (refine Ovl.mk (by assumption) (Step.out ?_))
            | (refine CallOK.ctF (g := 13) (Step.out ?_))
            | (refine CallOK.ctF (g := 14) (Step.out ?_))
            | (refine CallOK.ctF (g := 15) (Step.out ?_))
            | (refine CallOK.ctF (g := 16) (Step.out ?_))
            | (refine CallOK.ctF (g := 20) (Step.out ?_))
            | (refine CallOK.of_ct (Step.out ?_))
            | (refine CallQ.of_ct (Step.out ?_))
            | (refine Met.by (g := 9) (awake_ct) ?_; rintro q outs ⟨rfl, rfl⟩)
            | (refine Met.by (g := 13) (idle_ct _ (by assumption)) ?_; rintro q outs ⟨rfl, rfl⟩)
            | (refine Met.by (g := 14) (deliver_ct _ (by assumption) _) ?_; rintro q outs ⟨rfl, rfl⟩)
            | (refine Met.by (g := 15) (back_ct _ (by assumption) _) ?_; rintro q outs ⟨rfl, rfl⟩)
            | (refine Met.by (g := 16) (send_ct _ (by assumption) _) ?_; rintro q outs ⟨rfl, rfl⟩)
            | (refine Met.by (g := 19) (check_ct _ (by assumption)) ?_; rintro q outs ⟨rfl, rfl⟩)
            | (refine Met.by (g := 20) (offer_ct _ (by assumption) _) ?_; rintro q outs ⟨rfl, rfl⟩)
            | (refine Vc.mk ?_ (Step.out ?_))
          all_goals first
            | omega
            | exact ⟨rfl, fun _ _ => rfl⟩
            | rfl
        · obtain rfl : i = m := by omega
          rw [Nat.sub_self] at g hl ⊢
          have c1 := idle_ct _ g.ok
          have c2 := check0_ct _ g
          rw [Ch.idle, g.chk, decide_eq_true hl] at c1
          repeat' first
            | (refine Step.mk ?_; conv => whnf)
            | (refine Vc.om ?_ ?_; first | omega | with_reducible rfl | with_reducible exact same_rfl | (simp only [bytes_2, bytes_3, bytes_4, bytes_5, bytes_9, bytes_12, bytes_21, bytes_22, bytes_25, bytes_27, bytes_28, bytes_29, bytes_30, bytes_33, bytes_42, bytes_43, bytes_47, bytes_51, bytes_52, bytes_53, bytes_57, bytes_58, bytes_59, bytes_73, bytes_91, bytes_104, bytes_108, bytes_111, true_and, and_true] <;> omega))
            | (refine NilB.mk fun b hb => Step.out ?_)
            | with_reducible trivial
            | exact noSh_bool _
            | exact noSh_lit _
            | exact noSh_int _ _
            | exact noSh_str _
            | with_reducible rfl
            | with_reducible exact same_rfl
            | (refine Wr.i64 ?_ ?_; omega)
            | (refine Wr.u8 ?_ ?_; omega)
            | (refine Wr.i32 ?_ ?_; omega)
            | (with_reducible refine Br.tt ?_)
            | (with_reducible refine Br.ff ?_)
            | (refine Br.dT ?_ ?_; omega)
            | (refine Br.dF ?_ ?_; omega)
            | (refine Met.by c1 ?_; rintro q outs ⟨rfl, rfl⟩)
            | (refine Met.by c2 ?_; rintro q outs ⟨rfl, rfl⟩)
            | (refine Br.d (fun h => ?_) (fun h => ?_))
            | (refine Br.swap ?_)
            | (refine Br.bnot ?_)
            | (refine Br.mk (fun h => Step.out ?_) (fun h => Step.out ?_))
            | (refine Two.mk (Step.out ?_) (Step.out ?_))
            | (refine Cp.mk fun q hq => Step.out ?_)
            | (refine Ovl.mk (by assumption) (Step.out ?_))
            | (refine CallOK.ctF (g := 13) (Step.out ?_))
            | (refine CallOK.ctF (g := 14) (Step.out ?_))
            | (refine CallOK.ctF (g := 15) (Step.out ?_))
            | (refine CallOK.ctF (g := 16) (Step.out ?_))
            | (refine CallOK.ctF (g := 20) (Step.out ?_))
            | (refine CallOK.of_ct (Step.out ?_))
            | (refine CallQ.of_ct (Step.out ?_))
            | (refine Met.by (g := 9) (awake_ct) ?_; rintro q outs ⟨rfl, rfl⟩)
            | (refine Met.by (g := 13) (idle_ct _ (by assumption)) ?_; rintro q outs ⟨rfl, rfl⟩)
            | (refine Met.by (g := 14) (deliver_ct _ (by assumption) _) ?_; rintro q outs ⟨rfl, rfl⟩)
            | (refine Met.by (g := 15) (back_ct _ (by assumption) _) ?_; rintro q outs ⟨rfl, rfl⟩)
            | (refine Met.by (g := 16) (send_ct _ (by assumption) _) ?_; rintro q outs ⟨rfl, rfl⟩)
            | (refine Met.by (g := 19) (check_ct _ (by assumption)) ?_; rintro q outs ⟨rfl, rfl⟩)
            | (refine Met.by (g := 20) (offer_ct _ (by assumption) _) ?_; rintro q outs ⟨rfl, rfl⟩)
            | (refine Vc.mk ?_ (Step.out ?_))
          all_goals exact absurd (show 1048576 - (i : Int) + i = 1048576 by omega) h
end Kx
