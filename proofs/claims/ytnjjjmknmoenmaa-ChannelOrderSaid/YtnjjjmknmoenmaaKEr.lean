/-
  The law ChannelOrder: the walk.
  No condition beyond those written in each theorem.
-/
import Derived.Test.YtnjjjmknmoenmaaKEq
open Go Sx Go.Proofs
set_option linter.unusedSimpArgs false
set_option linter.unusedVariables false
namespace Kx
def u16s (l : List Int) : D := .tab 1 l.length fun i => [.int .u16 (l.getD i 0)]
def b8 (x : Int) : UInt8 := UInt8.ofNat (IntKind.u8.wrap x).toNat
theorem b8_val (x : Int) : ((b8 x).toNat : Int) = IntKind.u8.wrap x := by
  have h : 0 ≤ IntKind.u8.wrap x ∧ IntKind.u8.wrap x < 256 := by
    simp only [IntKind.wrap, IntKind.signed, IntKind.bits, Bool.false_and]
    simp
    omega
  rw [b8, UInt8.toNat_ofNat']
  omega
theorem by2 (x y : Int) : ByS 2 (fun i => selC [[D.int .u8 (IntKind.u8.wrap x)], [D.int .u8 (IntKind.u8.wrap y)]] i) [b8 x, b8 y] := by
  refine ⟨rfl, fun i hi => ?_⟩
  obtain rfl | rfl : i = 0 ∨ i = 1 := by omega
  · show iteL (0 = 0) [D.int .u8 (IntKind.u8.wrap x)] [D.int .u8 (IntKind.u8.wrap y)] = _
    rw [iteL_int, if_pos rfl, List.getD_cons_zero, b8_val]
  · show iteL (1 = 0) [D.int .u8 (IntKind.u8.wrap x)] [D.int .u8 (IntKind.u8.wrap y)] = _
    rw [iteL_int, if_neg (by decide), List.getD_cons_succ, List.getD_cons_zero, b8_val]
theorem equalG_ct (l : List Str) (n : Nat) (f : Nat → List D) (hl : l.length ≤ 1000000) (hn : n = l.length) (hf : ∀ i, i < n → f i = [.str (l.getD i [])]) : Ct Try.prog 37 [strs l, .tab 1 n f] fun r outs => r = .bool true ∧ outs = [] :=
  (equalT_ct l l rfl hl).arg ⟨rfl, ⟨rfl, fun _ _ => rfl⟩, ⟨hn, fun i hi => hf i (by rw [hn]; exact hi)⟩, trivial⟩
theorem or_pre {c : Ch} {of ar : List Str} (h : Or c of ar) : ∀ i, i < (ar.length : Int).toNat → [D.str (of.getD i [])] = [D.str (ar.getD i [])] := fun i hi => by
  rw [Int.toNat_natCast] at hi
  have hl := h.bd
  have e := h.a
  rw [e, List.length_take] at hi
  rw [e]
  simp only [List.getD_eq_getElem?_getD]
  rw [List.getElem?_take, if_pos (by omega)]
theorem app0 (l : List Str) : l.length + 0 = l.length ∧ ∀ i, i < l.length → iteL (i < l.length) [D.str (l.getD i [])] [] = [D.str (l.getD i [])] :=
  ⟨rfl, fun i hi => by
    show (if i < l.length then [D.str (l.getD i [])] else []) = _
    rw [if_pos hi]⟩
set_option maxHeartbeats 4000000 in
theorem order_ct (l ms : List Int) : Ct Try.prog 7 [ints l, u16s ms] fun r outs => r = .bool true ∧ outs = [] := by
  refine .det (.of_W (fn := Try.f7) hΓ hm Try.func7 [] [] (by kernel_rfl) (Step.out ?_))
  repeat' first
    | (refine Step.mk ?_; conv => whnf)
    | (refine Vc.om ?_ ?_; first | omega | with_reducible rfl | with_reducible exact same_rfl | (simp only [bytes_2, bytes_3, bytes_4, bytes_5, bytes_9, bytes_12, bytes_21, bytes_22, bytes_25, bytes_27, bytes_28, bytes_29, bytes_30, bytes_33, bytes_42, bytes_43, bytes_47, bytes_51, bytes_52, bytes_53, bytes_57, bytes_58, bytes_59, bytes_73, bytes_91, bytes_104, bytes_108, bytes_111, true_and, and_true] <;> omega))
    | (refine NilB.mk fun b hb => Step.out ?_)
    | with_reducible trivial
    | exact noSh_bool _
    | exact noSh_lit _
    | exact noSh_int _ _
    | exact noSh_str _
    | with_reducible rfl
    | with_reducible exact same_rfl
    | (refine Wr.i64 ?_ ?_; omega)
    | (refine Wr.u8 ?_ ?_; omega)
    | (refine Wr.i32 ?_ ?_; omega)
    | (with_reducible refine Br.tt ?_)
    | (with_reducible refine Br.ff ?_)
    | (refine Br.dT ?_ ?_; omega)
    | (refine Br.dF ?_ ?_; omega)
    | (refine Br.d (fun h => ?_) (fun h => ?_))
    | (refine Br.swap ?_)
    | (refine Br.bnot ?_)
    | (refine Br.mk (fun h => Step.out ?_) (fun h => Step.out ?_))
    | (refine Two.mk (Step.out ?_) (Step.out ?_))
    | (refine Cp.mk fun q hq => Step.out ?_)
    | (refine Ovl.mk (by assumption) (Step.out ?_))
    | (refine CallOK.ctF (g := 14) (Step.out ?_))
    | (refine CallOK.ctF (g := 15) (Step.out ?_))
    | (refine CallOK.ctF (g := 16) (Step.out ?_))
    | (refine CallOK.ctF (g := 20) (Step.out ?_))
    | (refine CallOK.ctF (g := 29) (Step.out ?_))
    | (refine CallOK.ctF (g := 31) (Step.out ?_))
    | (refine CallOK.ctF (g := 34) (Step.out ?_))
    | (refine CallOK.ctF (g := 37) (Step.out ?_))
    | (refine CallOK.of_ct (Step.out ?_))
    | (refine CallQ.of_ct (Step.out ?_))
    | (refine Met.by (g := 9) (awake_ct) ?_; rintro q outs ⟨rfl, rfl⟩)
    | (refine Met.by (g := 10) (few_ct _) ?_; rintro q outs ⟨rfl, rfl⟩)
    | (refine Met.by (g := 14) (deliver_ct _ (by assumption) _) ?_; rintro q outs ⟨rfl, rfl⟩)
    | (refine Met.by (g := 15) (back_ct _ (by assumption) _) ?_; rintro q outs ⟨rfl, rfl⟩)
    | (refine Met.by (g := 16) (send_ct _ (by assumption) _) ?_; rintro q outs ⟨rfl, rfl⟩)
    | (refine Met.by (g := 17) (cnew_ct) ?_; rintro q outs ⟨rfl, rfl⟩)
    | (refine Met.by (g := 19) (check_ct _ (by assumption)) ?_; rintro q outs ⟨rfl, rfl⟩)
    | (refine Met.by (g := 20) (offer_ct _ (by assumption) _) ?_; rintro q outs ⟨rfl, rfl⟩)
    | (refine Met.by (g := 29) (lose_ct _ (by assumption) _) ?_; rintro q outs ⟨rfl, rfl⟩)
    | (refine Met.by (g := 31) (repeat_ct _ (by assumption) _) ?_; rintro q outs ⟨rfl, rfl⟩)
    | (refine Met.by (g := 34) (loseB_ct _ (by assumption) _) ?_; rintro q outs ⟨rfl, rfl⟩)
    | (refine Met.by (g := 37) (equal_ct _ _ (by omega) (by omega)) ?_; rintro q outs ⟨rfl, rfl⟩)
    | (refine Vc.mk ?_ (Step.out ?_))
  · refine CodeOK.loopW hΓ hm [] [] (by kernel_rfl) (α := (Ch × List Str × List Str) × Nat) (fun z => [(5, .loc 0 0), (6, .own 1), (7, .own 2), (29, u16s ms), (30, i64 ms.length), (31, i64 z.2)]) (fun z => [(0, .var z.1.1.l), (1, .arr 9 1 z.1.2.1.length fun j => [.str (z.1.2.1.getD j [])]), (2, .arr 9 1 z.1.2.2.length fun j => [.str (z.1.2.2.getD j [])])]) 3 (fun z => z.2 ≤ ms.length ∧ z.1.2.1.length ≤ z.2 ∧ Or z.1.1 z.1.2.1 z.1.2.2) (fun z => ms.length - z.2) ?_ ?_
    · refine Again.by ((Ch.new, [], []), 0) ⟨Nat.zero_le _, Nat.le_refl _, or_new⟩ ?_
      dsimp only
      repeat' first
        | (refine Step.mk ?_; conv => whnf)
        | (refine Vc.om ?_ ?_; first | omega | with_reducible rfl | with_reducible exact same_rfl | (simp only [bytes_2, bytes_3, bytes_4, bytes_5, bytes_9, bytes_12, bytes_21, bytes_22, bytes_25, bytes_27, bytes_28, bytes_29, bytes_30, bytes_33, bytes_42, bytes_43, bytes_47, bytes_51, bytes_52, bytes_53, bytes_57, bytes_58, bytes_59, bytes_73, bytes_91, bytes_104, bytes_108, bytes_111, true_and, and_true] <;> omega))
        | (refine NilB.mk fun b hb => Step.out ?_)
        | with_reducible trivial
        | exact noSh_bool _
        | exact noSh_lit _
        | exact noSh_int _ _
        | exact noSh_str _
        | with_reducible rfl
        | with_reducible exact same_rfl
        | (refine Wr.i64 ?_ ?_; omega)
        | (refine Wr.u8 ?_ ?_; omega)
        | (refine Wr.i32 ?_ ?_; omega)
        | (with_reducible refine Br.tt ?_)
        | (with_reducible refine Br.ff ?_)
        | (refine Br.dT ?_ ?_; omega)
        | (refine Br.dF ?_ ?_; omega)
        | (refine Br.d (fun h => ?_) (fun h => ?_))
        | (refine Br.swap ?_)
        | (refine Br.bnot ?_)
        | (refine Br.mk (fun h => Step.out ?_) (fun h => Step.out ?_))
        | (refine Two.mk (Step.out ?_) (Step.out ?_))
        | (refine Cp.mk fun q hq => Step.out ?_)
        | (refine Ovl.mk (by assumption) (Step.out ?_))
        | (refine CallOK.ctF (g := 14) (Step.out ?_))
        | (refine CallOK.ctF (g := 15) (Step.out ?_))
        | (refine CallOK.ctF (g := 16) (Step.out ?_))
        | (refine CallOK.ctF (g := 20) (Step.out ?_))
        | (refine CallOK.ctF (g := 29) (Step.out ?_))
        | (refine CallOK.ctF (g := 31) (Step.out ?_))
        | (refine CallOK.ctF (g := 34) (Step.out ?_))
        | (refine CallOK.ctF (g := 37) (Step.out ?_))
        | (refine CallOK.of_ct (Step.out ?_))
        | (refine CallQ.of_ct (Step.out ?_))
        | (refine Met.by (g := 9) (awake_ct) ?_; rintro q outs ⟨rfl, rfl⟩)
        | (refine Met.by (g := 10) (few_ct _) ?_; rintro q outs ⟨rfl, rfl⟩)
        | (refine Met.by (g := 14) (deliver_ct _ (by assumption) _) ?_; rintro q outs ⟨rfl, rfl⟩)
        | (refine Met.by (g := 15) (back_ct _ (by assumption) _) ?_; rintro q outs ⟨rfl, rfl⟩)
        | (refine Met.by (g := 16) (send_ct _ (by assumption) _) ?_; rintro q outs ⟨rfl, rfl⟩)
        | (refine Met.by (g := 17) (cnew_ct) ?_; rintro q outs ⟨rfl, rfl⟩)
        | (refine Met.by (g := 19) (check_ct _ (by assumption)) ?_; rintro q outs ⟨rfl, rfl⟩)
        | (refine Met.by (g := 20) (offer_ct _ (by assumption) _) ?_; rintro q outs ⟨rfl, rfl⟩)
        | (refine Met.by (g := 29) (lose_ct _ (by assumption) _) ?_; rintro q outs ⟨rfl, rfl⟩)
        | (refine Met.by (g := 31) (repeat_ct _ (by assumption) _) ?_; rintro q outs ⟨rfl, rfl⟩)
        | (refine Met.by (g := 34) (loseB_ct _ (by assumption) _) ?_; rintro q outs ⟨rfl, rfl⟩)
        | (refine Met.by (g := 37) (equal_ct _ _ (by omega) (by omega)) ?_; rintro q outs ⟨rfl, rfl⟩)
        | (refine Vc.mk ?_ (Step.out ?_))
    · rintro ⟨⟨c, of, ar⟩, k⟩ ⟨hk, hlen, hor⟩
      have g := hor.g
      have hb := hor.bd
      dsimp only at hk hlen hor g hb ⊢
      have ho := g.ok
      repeat' first
        | (refine Step.mk ?_; conv => whnf)
        | (refine Vc.om ?_ ?_; first | omega | with_reducible rfl | with_reducible exact same_rfl | (simp only [bytes_2, bytes_3, bytes_4, bytes_5, bytes_9, bytes_12, bytes_21, bytes_22, bytes_25, bytes_27, bytes_28, bytes_29, bytes_30, bytes_33, bytes_42, bytes_43, bytes_47, bytes_51, bytes_52, bytes_53, bytes_57, bytes_58, bytes_59, bytes_73, bytes_91, bytes_104, bytes_108, bytes_111, true_and, and_true] <;> omega))
        | (refine NilB.mk fun b hb => Step.out ?_)
        | with_reducible trivial
        | exact noSh_bool _
        | exact noSh_lit _
        | exact noSh_int _ _
        | exact noSh_str _
        | with_reducible rfl
        | with_reducible exact same_rfl
        | (refine Wr.i64 ?_ ?_; omega)
        | (refine Wr.u8 ?_ ?_; omega)
        | (refine Wr.i32 ?_ ?_; omega)
        | (with_reducible refine Br.tt ?_)
        | (with_reducible refine Br.ff ?_)
        | (refine Br.dT ?_ ?_; omega)
        | (refine Br.dF ?_ ?_; omega)
        | (exact noSh_cz _ _)
        | (refine Vc.om ?_ ?_; focus (first | (have q := or_send hor ‹(c.send _).2 = 0›; have hb := q.bd; have := q.g.e1; have := q.g.e2; have := q.g.reach; have := q.g.w; have := q.g.b1; have := q.g.base; (try simp only [List.length_append, List.length_cons, List.length_nil, bytes_9] at hb ⊢); omega) | (have q := or_lose hor ‹(c.lose _).2 = 0›; have hb := q.bd; have := q.g.e1; have := q.g.e2; have := q.g.reach; have := q.g.w; have := q.g.b1; have := q.g.base; (try simp only [List.length_append, List.length_cons, List.length_nil, bytes_9] at hb ⊢); omega) | (have q := or_repeat hor ‹(c.repeat _).2 = 0›; have hb := q.bd; have := q.g.e1; have := q.g.e2; have := q.g.reach; have := q.g.w; have := q.g.b1; have := q.g.base; (try simp only [List.length_append, List.length_cons, List.length_nil, bytes_9] at hb ⊢); omega) | (have q := or_loseB hor ‹(c.loseB _).2 = 0›; have hb := q.bd; have := q.g.e1; have := q.g.e2; have := q.g.reach; have := q.g.w; have := q.g.b1; have := q.g.base; (try simp only [List.length_append, List.length_cons, List.length_nil, bytes_9] at hb ⊢); omega) | (have q := or_back hor ‹(c.backM _).2 = 0›; have hb := q.bd; have := q.g.e1; have := q.g.e2; have := q.g.reach; have := q.g.w; have := q.g.b1; have := q.g.base; (try simp only [List.length_append, List.length_cons, List.length_nil, bytes_9] at hb ⊢); omega) | (have q := or_offer hor ‹(c.offer _).2 = 0›; have hb := q.bd; have := q.g.e1; have := q.g.e2; have := q.g.reach; have := q.g.w; have := q.g.b1; have := q.g.base; (try simp only [List.length_append, List.length_cons, List.length_nil, bytes_9] at hb ⊢); omega) | (have q := or_deliver hor ‹(c.deliver _).2.2 = 0›; have hb := q.bd; have := q.g.e1; have := q.g.e2; have := q.g.reach; have := q.g.w; have := q.g.b1; have := q.g.base; (try simp only [List.length_append, List.length_cons, List.length_nil, bytes_9] at hb ⊢); omega); done))
        | (refine Wr.i64 ?_ ?_; focus (first | (have q := or_send hor ‹(c.send _).2 = 0›; have hb := q.bd; have := q.g.e1; have := q.g.e2; have := q.g.reach; have := q.g.w; have := q.g.b1; have := q.g.base; (try simp only [List.length_append, List.length_cons, List.length_nil, bytes_9] at hb ⊢); omega) | (have q := or_lose hor ‹(c.lose _).2 = 0›; have hb := q.bd; have := q.g.e1; have := q.g.e2; have := q.g.reach; have := q.g.w; have := q.g.b1; have := q.g.base; (try simp only [List.length_append, List.length_cons, List.length_nil, bytes_9] at hb ⊢); omega) | (have q := or_repeat hor ‹(c.repeat _).2 = 0›; have hb := q.bd; have := q.g.e1; have := q.g.e2; have := q.g.reach; have := q.g.w; have := q.g.b1; have := q.g.base; (try simp only [List.length_append, List.length_cons, List.length_nil, bytes_9] at hb ⊢); omega) | (have q := or_loseB hor ‹(c.loseB _).2 = 0›; have hb := q.bd; have := q.g.e1; have := q.g.e2; have := q.g.reach; have := q.g.w; have := q.g.b1; have := q.g.base; (try simp only [List.length_append, List.length_cons, List.length_nil, bytes_9] at hb ⊢); omega) | (have q := or_back hor ‹(c.backM _).2 = 0›; have hb := q.bd; have := q.g.e1; have := q.g.e2; have := q.g.reach; have := q.g.w; have := q.g.b1; have := q.g.base; (try simp only [List.length_append, List.length_cons, List.length_nil, bytes_9] at hb ⊢); omega) | (have q := or_offer hor ‹(c.offer _).2 = 0›; have hb := q.bd; have := q.g.e1; have := q.g.e2; have := q.g.reach; have := q.g.w; have := q.g.b1; have := q.g.base; (try simp only [List.length_append, List.length_cons, List.length_nil, bytes_9] at hb ⊢); omega) | (have q := or_deliver hor ‹(c.deliver _).2.2 = 0›; have hb := q.bd; have := q.g.e1; have := q.g.e2; have := q.g.reach; have := q.g.w; have := q.g.b1; have := q.g.base; (try simp only [List.length_append, List.length_cons, List.length_nil, bytes_9] at hb ⊢); omega); done))
        | (refine Wr.u8 ?_ ?_; focus (first | (have q := or_send hor ‹(c.send _).2 = 0›; have hb := q.bd; have := q.g.e1; have := q.g.e2; have := q.g.reach; have := q.g.w; have := q.g.b1; have := q.g.base; (try simp only [List.length_append, List.length_cons, List.length_nil, bytes_9] at hb ⊢); omega) | (have q := or_lose hor ‹(c.lose _).2 = 0›; have hb := q.bd; have := q.g.e1; have := q.g.e2; have := q.g.reach; have := q.g.w; have := q.g.b1; have := q.g.base; (try simp only [List.length_append, List.length_cons, List.length_nil, bytes_9] at hb ⊢); omega) | (have q := or_repeat hor ‹(c.repeat _).2 = 0›; have hb := q.bd; have := q.g.e1; have := q.g.e2; have := q.g.reach; have := q.g.w; have := q.g.b1; have := q.g.base; (try simp only [List.length_append, List.length_cons, List.length_nil, bytes_9] at hb ⊢); omega) | (have q := or_loseB hor ‹(c.loseB _).2 = 0›; have hb := q.bd; have := q.g.e1; have := q.g.e2; have := q.g.reach; have := q.g.w; have := q.g.b1; have := q.g.base; (try simp only [List.length_append, List.length_cons, List.length_nil, bytes_9] at hb ⊢); omega) | (have q := or_back hor ‹(c.backM _).2 = 0›; have hb := q.bd; have := q.g.e1; have := q.g.e2; have := q.g.reach; have := q.g.w; have := q.g.b1; have := q.g.base; (try simp only [List.length_append, List.length_cons, List.length_nil, bytes_9] at hb ⊢); omega) | (have q := or_offer hor ‹(c.offer _).2 = 0›; have hb := q.bd; have := q.g.e1; have := q.g.e2; have := q.g.reach; have := q.g.w; have := q.g.b1; have := q.g.base; (try simp only [List.length_append, List.length_cons, List.length_nil, bytes_9] at hb ⊢); omega) | (have q := or_deliver hor ‹(c.deliver _).2.2 = 0›; have hb := q.bd; have := q.g.e1; have := q.g.e2; have := q.g.reach; have := q.g.w; have := q.g.b1; have := q.g.base; (try simp only [List.length_append, List.length_cons, List.length_nil, bytes_9] at hb ⊢); omega); done))
        | (refine Br.dT ?_ ?_; focus (first | (have q := or_send hor ‹(c.send _).2 = 0›; have hb := q.bd; have := q.g.e1; have := q.g.e2; have := q.g.reach; have := q.g.w; have := q.g.b1; have := q.g.base; (try simp only [List.length_append, List.length_cons, List.length_nil, bytes_9] at hb ⊢); omega) | (have q := or_lose hor ‹(c.lose _).2 = 0›; have hb := q.bd; have := q.g.e1; have := q.g.e2; have := q.g.reach; have := q.g.w; have := q.g.b1; have := q.g.base; (try simp only [List.length_append, List.length_cons, List.length_nil, bytes_9] at hb ⊢); omega) | (have q := or_repeat hor ‹(c.repeat _).2 = 0›; have hb := q.bd; have := q.g.e1; have := q.g.e2; have := q.g.reach; have := q.g.w; have := q.g.b1; have := q.g.base; (try simp only [List.length_append, List.length_cons, List.length_nil, bytes_9] at hb ⊢); omega) | (have q := or_loseB hor ‹(c.loseB _).2 = 0›; have hb := q.bd; have := q.g.e1; have := q.g.e2; have := q.g.reach; have := q.g.w; have := q.g.b1; have := q.g.base; (try simp only [List.length_append, List.length_cons, List.length_nil, bytes_9] at hb ⊢); omega) | (have q := or_back hor ‹(c.backM _).2 = 0›; have hb := q.bd; have := q.g.e1; have := q.g.e2; have := q.g.reach; have := q.g.w; have := q.g.b1; have := q.g.base; (try simp only [List.length_append, List.length_cons, List.length_nil, bytes_9] at hb ⊢); omega) | (have q := or_offer hor ‹(c.offer _).2 = 0›; have hb := q.bd; have := q.g.e1; have := q.g.e2; have := q.g.reach; have := q.g.w; have := q.g.b1; have := q.g.base; (try simp only [List.length_append, List.length_cons, List.length_nil, bytes_9] at hb ⊢); omega) | (have q := or_deliver hor ‹(c.deliver _).2.2 = 0›; have hb := q.bd; have := q.g.e1; have := q.g.e2; have := q.g.reach; have := q.g.w; have := q.g.b1; have := q.g.base; (try simp only [List.length_append, List.length_cons, List.length_nil, bytes_9] at hb ⊢); omega); done))
        | (refine Br.dF ?_ ?_; focus (first | (have q := or_send hor ‹(c.send _).2 = 0›; have hb := q.bd; have := q.g.e1; have := q.g.e2; have := q.g.reach; have := q.g.w; have := q.g.b1; have := q.g.base; (try simp only [List.length_append, List.length_cons, List.length_nil, bytes_9] at hb ⊢); omega) | (have q := or_lose hor ‹(c.lose _).2 = 0›; have hb := q.bd; have := q.g.e1; have := q.g.e2; have := q.g.reach; have := q.g.w; have := q.g.b1; have := q.g.base; (try simp only [List.length_append, List.length_cons, List.length_nil, bytes_9] at hb ⊢); omega) | (have q := or_repeat hor ‹(c.repeat _).2 = 0›; have hb := q.bd; have := q.g.e1; have := q.g.e2; have := q.g.reach; have := q.g.w; have := q.g.b1; have := q.g.base; (try simp only [List.length_append, List.length_cons, List.length_nil, bytes_9] at hb ⊢); omega) | (have q := or_loseB hor ‹(c.loseB _).2 = 0›; have hb := q.bd; have := q.g.e1; have := q.g.e2; have := q.g.reach; have := q.g.w; have := q.g.b1; have := q.g.base; (try simp only [List.length_append, List.length_cons, List.length_nil, bytes_9] at hb ⊢); omega) | (have q := or_back hor ‹(c.backM _).2 = 0›; have hb := q.bd; have := q.g.e1; have := q.g.e2; have := q.g.reach; have := q.g.w; have := q.g.b1; have := q.g.base; (try simp only [List.length_append, List.length_cons, List.length_nil, bytes_9] at hb ⊢); omega) | (have q := or_offer hor ‹(c.offer _).2 = 0›; have hb := q.bd; have := q.g.e1; have := q.g.e2; have := q.g.reach; have := q.g.w; have := q.g.b1; have := q.g.base; (try simp only [List.length_append, List.length_cons, List.length_nil, bytes_9] at hb ⊢); omega) | (have q := or_deliver hor ‹(c.deliver _).2.2 = 0›; have hb := q.bd; have := q.g.e1; have := q.g.e2; have := q.g.reach; have := q.g.w; have := q.g.b1; have := q.g.base; (try simp only [List.length_append, List.length_cons, List.length_nil, bytes_9] at hb ⊢); omega); done))
        | (refine Lf.by [b8 _, b8 _] (by2 _ _) (Step.mk ?_))
        | (refine Wr.raw ?_)
        | (refine Met.by (equalG_ct _ _ _ (by omega) (Int.toNat_natCast _) (or_pre hor)) ?_; rintro q outs ⟨rfl, rfl⟩)
        | (refine Met.by (check0_ct _ g) ?_; rintro q outs ⟨rfl, rfl⟩)
        | (refine Br.d (fun h => ?_) (fun h => ?_))
        | (refine Br.swap ?_)
        | (refine Br.bnot ?_)
        | (refine Br.mk (fun h => Step.out ?_) (fun h => Step.out ?_))
        | (refine Two.mk (Step.out ?_) (Step.out ?_))
        | (refine Cp.mk fun q hq => Step.out ?_)
        | (refine Ovl.mk (by assumption) (Step.out ?_))
        | (refine CallOK.ctF (g := 14) (Step.out ?_))
        | (refine CallOK.ctF (g := 15) (Step.out ?_))
        | (refine CallOK.ctF (g := 16) (Step.out ?_))
        | (refine CallOK.ctF (g := 20) (Step.out ?_))
        | (refine CallOK.ctF (g := 29) (Step.out ?_))
        | (refine CallOK.ctF (g := 31) (Step.out ?_))
        | (refine CallOK.ctF (g := 34) (Step.out ?_))
        | (refine CallOK.ctF (g := 37) (Step.out ?_))
        | (refine CallOK.of_ct (Step.out ?_))
        | (refine CallQ.of_ct (Step.out ?_))
        | (refine Met.by (g := 9) (awake_ct) ?_; rintro q outs ⟨rfl, rfl⟩)
        | (refine Met.by (g := 10) (few_ct _) ?_; rintro q outs ⟨rfl, rfl⟩)
        | (refine Met.by (g := 14) (deliver_ct _ (by assumption) _) ?_; rintro q outs ⟨rfl, rfl⟩)
        | (refine Met.by (g := 15) (back_ct _ (by assumption) _) ?_; rintro q outs ⟨rfl, rfl⟩)
        | (refine Met.by (g := 16) (send_ct _ (by assumption) _) ?_; rintro q outs ⟨rfl, rfl⟩)
        | (refine Met.by (g := 17) (cnew_ct) ?_; rintro q outs ⟨rfl, rfl⟩)
        | (refine Met.by (g := 19) (check_ct _ (by assumption)) ?_; rintro q outs ⟨rfl, rfl⟩)
        | (refine Met.by (g := 20) (offer_ct _ (by assumption) _) ?_; rintro q outs ⟨rfl, rfl⟩)
        | (refine Met.by (g := 29) (lose_ct _ (by assumption) _) ?_; rintro q outs ⟨rfl, rfl⟩)
        | (refine Met.by (g := 31) (repeat_ct _ (by assumption) _) ?_; rintro q outs ⟨rfl, rfl⟩)
        | (refine Met.by (g := 34) (loseB_ct _ (by assumption) _) ?_; rintro q outs ⟨rfl, rfl⟩)
        | (refine Met.by (g := 37) (equal_ct _ _ (by omega) (by omega)) ?_; rintro q outs ⟨rfl, rfl⟩)
        | (refine Vc.mk ?_ (Step.out ?_))
      all_goals try first
        | (refine Again.by (((c.send _).1, of, ar), k + 1) ⟨⟨by dsimp only; omega, by dsimp only; omega, or_send hor ‹(c.send _).2 = 0›⟩, by dsimp only; omega⟩ ?_)
        | (refine Again.by (((c.lose _).1, of, ar), k + 1) ⟨⟨by dsimp only; omega, by dsimp only; omega, or_lose hor ‹(c.lose _).2 = 0›⟩, by dsimp only; omega⟩ ?_)
        | (refine Again.by (((c.repeat _).1, of, ar), k + 1) ⟨⟨by dsimp only; omega, by dsimp only; omega, or_repeat hor ‹(c.repeat _).2 = 0›⟩, by dsimp only; omega⟩ ?_)
        | (refine Again.by (((c.loseB _).1, of, ar), k + 1) ⟨⟨by dsimp only; omega, by dsimp only; omega, or_loseB hor ‹(c.loseB _).2 = 0›⟩, by dsimp only; omega⟩ ?_)
        | (refine Again.by (((c.backM _).1, of, ar), k + 1) ⟨⟨by dsimp only; omega, by dsimp only; omega, or_back hor ‹(c.backM _).2 = 0›⟩, by dsimp only; omega⟩ ?_)
        | (refine Again.by (((c.offer _).1, of ++ [_], ar), k + 1) ⟨⟨by dsimp only; omega, by dsimp only; simp only [List.length_append, List.length_cons, List.length_nil]; omega, or_offer hor ‹(c.offer _).2 = 0›⟩, by dsimp only; omega⟩ ?_)
        | (refine Again.by (((c.deliver _).1, of, ar ++ (c.deliver _).2.1), k + 1) ⟨⟨by dsimp only; omega, by dsimp only; omega, or_deliver hor ‹(c.deliver _).2.2 = 0›⟩, by dsimp only; omega⟩ ?_)
        | (refine Again.by ((c, of, ar), k + 1) ⟨⟨by dsimp only; omega, by dsimp only; omega, hor⟩, by dsimp only; omega⟩ ?_)
      all_goals try dsimp only
      all_goals
        repeat' first
          | (refine Step.mk ?_; conv => whnf)
          | (refine Vc.om ?_ ?_; first | omega | with_reducible rfl | with_reducible exact same_rfl | (simp only [bytes_2, bytes_3, bytes_4, bytes_5, bytes_9, bytes_12, bytes_21, bytes_22, bytes_25, bytes_27, bytes_28, bytes_29, bytes_30, bytes_33, bytes_42, bytes_43, bytes_47, bytes_51, bytes_52, bytes_53, bytes_57, bytes_58, bytes_59, bytes_73, bytes_91, bytes_104, bytes_108, bytes_111, true_and, and_true] <;> omega))
          | (refine NilB.mk fun b hb => Step.out ?_)
          | with_reducible trivial
          | exact noSh_bool _
          | exact noSh_lit _
          | exact noSh_int _ _
          | exact noSh_str _
          | with_reducible rfl
          | with_reducible exact same_rfl
          | (refine Wr.i64 ?_ ?_; omega)
          | (refine Wr.u8 ?_ ?_; omega)
          | (refine Wr.i32 ?_ ?_; omega)
          | (with_reducible refine Br.tt ?_)
          | (with_reducible refine Br.ff ?_)
          | (refine Br.dT ?_ ?_; omega)
          | (refine Br.dF ?_ ?_; omega)
          | (refine Br.d (fun h => ?_) (fun h => ?_))
          | (refine Br.swap ?_)
          | (refine Br.bnot ?_)
          | (refine Br.mk (fun h => Step.out ?_) (fun h => Step.out ?_))
          | (refine Two.mk (Step.out ?_) (Step.out ?_))
          | (refine Cp.mk fun q hq => Step.out ?_)
          | (refine Ovl.mk (by assumption) (Step.out ?_))
          | (refine CallOK.ctF (g := 14) (Step.out ?_))
          | (refine CallOK.ctF (g := 15) (Step.out ?_))
          | (refine CallOK.ctF (g := 16) (Step.out ?_))
          | (refine CallOK.ctF (g := 20) (Step.out ?_))
          | (refine CallOK.ctF (g := 29) (Step.out ?_))
          | (refine CallOK.ctF (g := 31) (Step.out ?_))
          | (refine CallOK.ctF (g := 34) (Step.out ?_))
          | (refine CallOK.ctF (g := 37) (Step.out ?_))
          | (refine CallOK.of_ct (Step.out ?_))
          | (refine CallQ.of_ct (Step.out ?_))
          | (refine Met.by (g := 9) (awake_ct) ?_; rintro q outs ⟨rfl, rfl⟩)
          | (refine Met.by (g := 10) (few_ct _) ?_; rintro q outs ⟨rfl, rfl⟩)
          | (refine Met.by (g := 14) (deliver_ct _ (by assumption) _) ?_; rintro q outs ⟨rfl, rfl⟩)
          | (refine Met.by (g := 15) (back_ct _ (by assumption) _) ?_; rintro q outs ⟨rfl, rfl⟩)
          | (refine Met.by (g := 16) (send_ct _ (by assumption) _) ?_; rintro q outs ⟨rfl, rfl⟩)
          | (refine Met.by (g := 17) (cnew_ct) ?_; rintro q outs ⟨rfl, rfl⟩)
          | (refine Met.by (g := 19) (check_ct _ (by assumption)) ?_; rintro q outs ⟨rfl, rfl⟩)
          | (refine Met.by (g := 20) (offer_ct _ (by assumption) _) ?_; rintro q outs ⟨rfl, rfl⟩)
          | (refine Met.by (g := 29) (lose_ct _ (by assumption) _) ?_; rintro q outs ⟨rfl, rfl⟩)
          | (refine Met.by (g := 31) (repeat_ct _ (by assumption) _) ?_; rintro q outs ⟨rfl, rfl⟩)
          | (refine Met.by (g := 34) (loseB_ct _ (by assumption) _) ?_; rintro q outs ⟨rfl, rfl⟩)
          | (refine Met.by (g := 37) (equal_ct _ _ (by omega) (by omega)) ?_; rintro q outs ⟨rfl, rfl⟩)
          | (refine Vc.mk ?_ (Step.out ?_))
      all_goals try first
        | exact ⟨rfl, fun _ _ => rfl⟩
        | exact app1 stF [] stF_same _ _
        | exact app0 _
        | exact app_all stF [] stF_same _ _
end Kx
