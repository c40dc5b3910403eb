/-
  All moves of any channel, valid or not: for the law Exact.
  No condition beyond those written in each theorem.
-/
import Derived.Test.YtnjjjmknmoenmaaKFe
open Go Sx Go.Proofs
set_option linter.unusedSimpArgs false
set_option linter.unusedVariables false
namespace Kx
def Ch.bad (c : Ch) : Prop := c.base < 1 ∨ 1048576 < c.base
/-- A channel of which only the size is known. -/
structure Ch.any (c : Ch) : Prop where
  o : c.ok ∨ c.bad
  w : c.wait.length ≤ 10000
  t : c.there.length ≤ 10000
  h : c.held.length ≤ 10000
  k : c.back.length ≤ 10000
theorem Ch.ok.any {c : Ch} (h : c.ok) : c.any := ⟨.inl h, h.w, h.t, h.h, h.k⟩
theorem err_bad {c : Ch} (h : c.bad) (i : Int) (n : Nat) : c.err i n = 2 := by rw [Ch.err, chk_2 h]; rfl
theorem checkB_ct (c : Ch) (h : c.bad) : Ct Try.prog 19 [c.d] fun r outs => r = i64 2 ∧ outs = [] := by
  unfold Ch.bad at h
  refine .det (.of_W (fn := Try.f19) hΓ hm Try.func19 [] [] (by kernel_rfl) (Step.out ?_))
  repeat' first
    | (refine Step.mk ?_; conv => whnf)
    | with_reducible trivial
    | (refine Br.dT ?_ ?_; omega)
    | (refine Br.d (fun h => ?_) (fun h => ?_))
    | (refine Br.swap ?_)
    | (refine Two.mk (Step.out ?_) (Step.out ?_))
theorem rcheckB_ct (c : Ch) (h : c.bad) : Ct Try.prog 24 [c.d] fun r outs => r = i64 2 ∧ outs = [] := by
  unfold Ch.bad at h
  refine .det (.of_W (fn := Try.f24) hΓ hm Try.func24 ord24 [] (by kernel_rfl) (Step.out ?_))
  repeat' first
    | (refine Step.mk ?_; conv => whnf)
    | with_reducible trivial
    | (refine Br.dT ?_ ?_; omega)
    | (refine Br.d (fun h => ?_) (fun h => ?_))
    | (refine Br.swap ?_)
    | (refine Two.mk (Step.out ?_) (Step.out ?_))
theorem takenB_ct (c : Ch) (h : c.bad) (i n : Int) : Ct Try.prog 40 [c.d, i64 i, i64 n] fun r outs => r = .tup [Ch.z.o, i64 2] ∧ outs = [] := by
  refine .det (.of_W (fn := Try.f40) hΓ hm Try.func40 [] [] (by kernel_rfl) (Step.out ?_))
  repeat' first
    | (refine Step.mk ?_; conv => whnf)
    | with_reducible trivial
    | (refine Br.dF ?_ ?_; omega)
    | (refine Met.by (checkB_ct c h) ?_; rintro q outs ⟨rfl, rfl⟩)
    | (refine Br.bnot ?_)
    | (refine Two.mk (Step.out ?_) (Step.out ?_))
    | (refine CallOK.ctF (g := 19) (Step.out ?_))
theorem ratB_ct (c : Ch) (h : c.bad) (i : Int) : Ct Try.prog 54 [c.d, i64 i] fun r outs => r = i64 2 ∧ outs = [] := by
  refine .det (.of_W (fn := Try.f54) hΓ hm Try.func54 [] [] (by kernel_rfl) (Step.out ?_))
  repeat' first
    | (refine Step.mk ?_; conv => whnf)
    | with_reducible trivial
    | (refine Br.dF ?_ ?_; omega)
    | (refine Met.by (rcheckB_ct c h) ?_; rintro q outs ⟨rfl, rfl⟩)
    | (refine Br.bnot ?_)
    | (refine Two.mk (Step.out ?_) (Step.out ?_))
    | (refine CallOK.ctF (g := 24) (Step.out ?_))
theorem checkX_ct (c : Ch) (h : c.any) (e : Int) (he : c.chk = e) : Ct Try.prog 19 [c.d] fun r outs => r = i64 e ∧ outs = [] := by
  subst he
  rcases h.o with h | h
  · exact check_ct c h
  · rw [chk_2 h]; exact checkB_ct c h
theorem rcheckX_ct (c : Ch) (h : c.any) (e : Int) (he : c.chk = e) : Ct Try.prog 24 [c.d] fun r outs => r = i64 e ∧ outs = [] := by
  subst he
  rcases h.o with h | h
  · exact rcheck_ct c h
  · rw [chk_2 h]; exact rcheckB_ct c h
theorem idleX_ct (c : Ch) (h : c.any) (e : Bool) (he : c.idle = e) : Ct Try.prog 13 [c.d] fun r outs => r = .bool e ∧ outs = [] := by
  subst he
  rcases h.o with h | h
  · exact idle_ct c h
  · rw [show c.idle = false by rw [Ch.idle, chk_2 h]; rfl]
    refine .det (.of_W (fn := Try.f13) hΓ hm Try.func13 [] [] (by kernel_rfl) (Step.out ?_))
    repeat' first
      | (refine Step.mk ?_; conv => whnf)
      | with_reducible trivial
      | (refine Br.dF ?_ ?_; omega)
      | (refine Met.by (checkB_ct c h) ?_; rintro q outs ⟨rfl, rfl⟩)
      | (refine Two.mk (Step.out ?_) (Step.out ?_))
      | (refine CallOK.ctF (g := 19) (Step.out ?_))
theorem ridleX_ct (c : Ch) (h : c.any) (e : Bool) (he : c.idle = e) : Ct Try.prog 25 [c.d] fun r outs => r = .bool e ∧ outs = [] := by
  subst he
  rcases h.o with h | h
  · exact ridle_ct c h
  · rw [show c.idle = false by rw [Ch.idle, chk_2 h]; rfl]
    refine .det (.of_W (fn := Try.f25) hΓ hm Try.func25 [] [] (by kernel_rfl) (Step.out ?_))
    repeat' first
      | (refine Step.mk ?_; conv => whnf)
      | with_reducible trivial
      | (refine Br.dF ?_ ?_; omega)
      | (refine Met.by (rcheckB_ct c h) ?_; rintro q outs ⟨rfl, rfl⟩)
      | (refine Two.mk (Step.out ?_) (Step.out ?_))
      | (refine CallOK.ctF (g := 24) (Step.out ?_))
theorem offer_bad {c : Ch} (h : c.bad) (p : Str) : c.offer p = (.z, 2) := by
  unfold Ch.offer; simp [chk_2 h, err_bad h]
theorem offer_ln {c x : Ch} {p : Str} {e : Int} (h : c.any) (hx : c.offer p = (x, e)) : x.ln := by
  obtain ⟨_, h1, h2, h3, h4⟩ := h
  unfold Ch.offer at hx
  (repeat' split at hx) <;> (obtain ⟨rfl, -⟩ := Prod.mk.inj hx) <;> constructor <;> (try simp) <;> omega
theorem offerX_ct (c : Ch) (h : c.any) (p : Str) (x : Ch) (e : Int) (hx : c.offer p = (x, e)) : Ct Try.prog 20 [c.d, .str p] fun r outs => r = .tup [x.o, i64 e] ∧ outs = [] := by
  rcases h.o with h | h
  · have := offer_ct c h p
    rwa [hx] at this
  · obtain ⟨rfl, rfl⟩ := Prod.mk.inj ((offer_bad h p).symm.trans hx)
    refine .det (.of_W (fn := Try.f20) hΓ hm Try.func20 [] [] (by kernel_rfl) (Step.out ?_))
    repeat' first
      | (refine Step.mk ?_; conv => whnf)
      | with_reducible trivial
      | (refine Br.dF ?_ ?_; omega)
      | (refine Met.by (checkB_ct c h) ?_; rintro q outs ⟨rfl, rfl⟩)
      | (refine Br.bnot ?_)
      | (refine Two.mk (Step.out ?_) (Step.out ?_))
      | (refine CallOK.ctF (g := 19) (Step.out ?_))
    all_goals rfl
theorem rofferX_ct (c : Ch) (h : c.any) (p : Str) (x : Ch) (e : Int) (hx : c.offer p = (x, e)) : Ct Try.prog 26 [c.d, .str p] fun r outs => r = .tup [x.o, i64 e] ∧ outs = [] := by
  rcases h.o with h | h
  · have := roffer_ct c h p
    rwa [hx] at this
  · obtain ⟨rfl, rfl⟩ := Prod.mk.inj ((offer_bad h p).symm.trans hx)
    refine .det (.of_W (fn := Try.f26) hΓ hm Try.func26 [] [] (by kernel_rfl) (Step.out ?_))
    repeat' first
      | (refine Step.mk ?_; conv => whnf)
      | with_reducible trivial
      | (refine Br.dF ?_ ?_; omega)
      | (refine Met.by (rcheckB_ct c h) ?_; rintro q outs ⟨rfl, rfl⟩)
      | (refine Br.bnot ?_)
      | (refine Two.mk (Step.out ?_) (Step.out ?_))
      | (refine CallOK.ctF (g := 24) (Step.out ?_))
    all_goals rfl
theorem send_bad {c : Ch} (h : c.bad) (i : Int) : c.send i = (.z, 2) := by
  unfold Ch.send; simp [chk_2 h, err_bad h]
theorem send_ln {c x : Ch} {i : Int} {e : Int} (h : c.any) (hx : c.send i = (x, e)) : x.ln := by
  obtain ⟨_, h1, h2, h3, h4⟩ := h
  unfold Ch.send at hx
  (repeat' split at hx) <;> (obtain ⟨rfl, -⟩ := Prod.mk.inj hx) <;> constructor <;> (try simp) <;> omega
theorem sendX_ct (c : Ch) (h : c.any) (i : Int) (x : Ch) (e : Int) (hx : c.send i = (x, e)) : Ct Try.prog 16 [c.d, i64 i] fun r outs => r = .tup [x.o, i64 e] ∧ outs = [] := by
  rcases h.o with h | h
  · have := send_ct c h i
    rwa [hx] at this
  · obtain ⟨rfl, rfl⟩ := Prod.mk.inj ((send_bad h i).symm.trans hx)
    refine .det (.of_W (fn := Try.f16) hΓ hm Try.func16 ord16 [] (by kernel_rfl) (Step.out ?_))
    repeat' first
      | (refine Step.mk ?_; conv => whnf)
      | with_reducible trivial
      | (refine Br.dF ?_ ?_; omega)
      | (refine Met.by (checkB_ct c h) ?_; rintro q outs ⟨rfl, rfl⟩)
      | (refine Br.bnot ?_)
      | (refine Two.mk (Step.out ?_) (Step.out ?_))
      | (refine CallOK.ctF (g := 19) (Step.out ?_))
    all_goals rfl
theorem rsendX_ct (c : Ch) (h : c.any) (i : Int) (x : Ch) (e : Int) (hx : c.send i = (x, e)) : Ct Try.prog 28 [c.d, i64 i] fun r outs => r = .tup [x.o, i64 e] ∧ outs = [] := by
  rcases h.o with h | h
  · have := rsend_ct c h i
    rwa [hx] at this
  · obtain ⟨rfl, rfl⟩ := Prod.mk.inj ((send_bad h i).symm.trans hx)
    refine .det (.of_W (fn := Try.f28) hΓ hm Try.func28 ord28 [] (by kernel_rfl) (Step.out ?_))
    repeat' first
      | (refine Step.mk ?_; conv => whnf)
      | with_reducible trivial
      | (refine Br.dF ?_ ?_; omega)
      | (refine Met.by (rcheckB_ct c h) ?_; rintro q outs ⟨rfl, rfl⟩)
      | (refine Br.bnot ?_)
      | (refine Two.mk (Step.out ?_) (Step.out ?_))
      | (refine CallOK.ctF (g := 24) (Step.out ?_))
    all_goals rfl
theorem lose_bad {c : Ch} (h : c.bad) (i : Int) : c.lose i = (.z, 2) := by
  unfold Ch.lose; simp [chk_2 h, err_bad h]
theorem lose_ln {c x : Ch} {i : Int} {e : Int} (h : c.any) (hx : c.lose i = (x, e)) : x.ln := by
  obtain ⟨_, h1, h2, h3, h4⟩ := h
  unfold Ch.lose at hx
  (repeat' split at hx) <;> (obtain ⟨rfl, -⟩ := Prod.mk.inj hx) <;> constructor <;> (try simp) <;> omega
theorem loseX_ct (c : Ch) (h : c.any) (i : Int) (x : Ch) (e : Int) (hx : c.lose i = (x, e)) : Ct Try.prog 29 [c.d, i64 i] fun r outs => r = .tup [x.o, i64 e] ∧ outs = [] := by
  rcases h.o with h | h
  · have := lose_ct c h i
    rwa [hx] at this
  · obtain ⟨rfl, rfl⟩ := Prod.mk.inj ((lose_bad h i).symm.trans hx)
    refine .det (.of_W (fn := Try.f29) hΓ hm Try.func29 [] [] (by kernel_rfl) (Step.out ?_))
    repeat' first
      | (refine Step.mk ?_; conv => whnf)
      | with_reducible trivial
      | (refine Br.dF ?_ ?_; omega)
      | (refine Met.by (takenB_ct c h _ _) ?_; rintro q outs ⟨rfl, rfl⟩)
      | (refine Br.bnot ?_)
      | (refine Two.mk (Step.out ?_) (Step.out ?_))
      | (refine CallOK.of_ct (Step.out ?_))
    all_goals rfl
theorem rloseX_ct (c : Ch) (h : c.any) (i : Int) (x : Ch) (e : Int) (hx : c.lose i = (x, e)) : Ct Try.prog 30 [c.d, i64 i] fun r outs => r = .tup [x.o, i64 e] ∧ outs = [] := by
  rcases h.o with h | h
  · have := rlose_ct c h i
    rwa [hx] at this
  · obtain ⟨rfl, rfl⟩ := Prod.mk.inj ((lose_bad h i).symm.trans hx)
    refine .det (.of_W (fn := Try.f30) hΓ hm Try.func30 ord30 [] (by kernel_rfl) (Step.out ?_))
    repeat' first
      | (refine Step.mk ?_; conv => whnf)
      | with_reducible trivial
      | (refine Br.dF ?_ ?_; omega)
      | (refine Met.by (ratB_ct c h _) ?_; rintro q outs ⟨rfl, rfl⟩)
      | (refine Br.bnot ?_)
      | (refine Two.mk (Step.out ?_) (Step.out ?_))
      | (refine CallOK.of_ct (Step.out ?_))
    all_goals rfl
theorem repeat_bad {c : Ch} (h : c.bad) (i : Int) : c.repeat i = (.z, 2) := by
  unfold Ch.repeat; simp [chk_2 h, err_bad h]
theorem repeat_ln {c x : Ch} {i : Int} {e : Int} (h : c.any) (hx : c.repeat i = (x, e)) : x.ln := by
  obtain ⟨_, h1, h2, h3, h4⟩ := h
  unfold Ch.repeat at hx
  (repeat' split at hx) <;> (obtain ⟨rfl, -⟩ := Prod.mk.inj hx) <;> constructor <;> (try simp) <;> omega
theorem repeatX_ct (c : Ch) (h : c.any) (i : Int) (x : Ch) (e : Int) (hx : c.repeat i = (x, e)) : Ct Try.prog 31 [c.d, i64 i] fun r outs => r = .tup [x.o, i64 e] ∧ outs = [] := by
  rcases h.o with h | h
  · have := repeat_ct c h i
    rwa [hx] at this
  · obtain ⟨rfl, rfl⟩ := Prod.mk.inj ((repeat_bad h i).symm.trans hx)
    refine .det (.of_W (fn := Try.f31) hΓ hm Try.func31 ord31 [] (by kernel_rfl) (Step.out ?_))
    repeat' first
      | (refine Step.mk ?_; conv => whnf)
      | with_reducible trivial
      | (refine Br.dF ?_ ?_; omega)
      | (refine Met.by (takenB_ct c h _ _) ?_; rintro q outs ⟨rfl, rfl⟩)
      | (refine Br.bnot ?_)
      | (refine Two.mk (Step.out ?_) (Step.out ?_))
      | (refine CallOK.of_ct (Step.out ?_))
    all_goals rfl
theorem rrepeatX_ct (c : Ch) (h : c.any) (i : Int) (x : Ch) (e : Int) (hx : c.repeat i = (x, e)) : Ct Try.prog 32 [c.d, i64 i] fun r outs => r = .tup [x.o, i64 e] ∧ outs = [] := by
  rcases h.o with h | h
  · have := rrepeat_ct c h i
    rwa [hx] at this
  · obtain ⟨rfl, rfl⟩ := Prod.mk.inj ((repeat_bad h i).symm.trans hx)
    refine .det (.of_W (fn := Try.f32) hΓ hm Try.func32 ord32 [] (by kernel_rfl) (Step.out ?_))
    repeat' first
      | (refine Step.mk ?_; conv => whnf)
      | with_reducible trivial
      | (refine Br.dF ?_ ?_; omega)
      | (refine Met.by (ratB_ct c h _) ?_; rintro q outs ⟨rfl, rfl⟩)
      | (refine Br.bnot ?_)
      | (refine Two.mk (Step.out ?_) (Step.out ?_))
      | (refine CallOK.of_ct (Step.out ?_))
    all_goals rfl
theorem loseB_bad {c : Ch} (h : c.bad) (i : Int) : c.loseB i = (.z, 2) := by
  unfold Ch.loseB; simp [chk_2 h, err_bad h]
theorem loseB_ln {c x : Ch} {i : Int} {e : Int} (h : c.any) (hx : c.loseB i = (x, e)) : x.ln := by
  obtain ⟨_, h1, h2, h3, h4⟩ := h
  unfold Ch.loseB at hx
  (repeat' split at hx) <;> (obtain ⟨rfl, -⟩ := Prod.mk.inj hx) <;> constructor <;> (try simp) <;> omega
theorem loseBX_ct (c : Ch) (h : c.any) (i : Int) (x : Ch) (e : Int) (hx : c.loseB i = (x, e)) : Ct Try.prog 34 [c.d, i64 i] fun r outs => r = .tup [x.o, i64 e] ∧ outs = [] := by
  rcases h.o with h | h
  · have := loseB_ct c h i
    rwa [hx] at this
  · obtain ⟨rfl, rfl⟩ := Prod.mk.inj ((loseB_bad h i).symm.trans hx)
    refine .det (.of_W (fn := Try.f34) hΓ hm Try.func34 [] [] (by kernel_rfl) (Step.out ?_))
    repeat' first
      | (refine Step.mk ?_; conv => whnf)
      | with_reducible trivial
      | (refine Br.dF ?_ ?_; omega)
      | (refine Met.by (takenB_ct c h _ _) ?_; rintro q outs ⟨rfl, rfl⟩)
      | (refine Br.bnot ?_)
      | (refine Two.mk (Step.out ?_) (Step.out ?_))
      | (refine CallOK.of_ct (Step.out ?_))
    all_goals rfl
theorem rloseB_bad (c : Ch) (h : c.bad) (i : Int) : Ct Try.prog 35 [c.d, i64 i] fun r outs => r = .tup [Ch.z.o, i64 2] ∧ outs = [] := by
  refine .det (.of_W (fn := Try.f35) hΓ hm Try.func35 ord35 [] (by kernel_rfl) (Step.out ?_))
  repeat' first
    | (refine Step.mk ?_; conv => whnf)
    | with_reducible trivial
    | (refine Br.dF ?_ ?_; omega)
    | (refine Met.by (rcheckB_ct c h) ?_; rintro q outs ⟨rfl, rfl⟩)
    | (refine Br.bnot ?_)
    | (refine Two.mk (Step.out ?_) (Step.out ?_))
    | (refine CallOK.ctF (g := 24) (Step.out ?_))
  all_goals rfl
theorem rloseBX_ct (c : Ch) (h : c.any) (i : Int) (x : Ch) (e : Int) (hx : c.loseB i = (x, e)) : Ct Try.prog 35 [c.d, i64 i] fun r outs => r = .tup [x.o, i64 e] ∧ outs = [] := by
  rcases h.o with h | h
  · have := rloseB_ct c h i
    rwa [hx] at this
  · obtain ⟨rfl, rfl⟩ := Prod.mk.inj ((loseB_bad h i).symm.trans hx)
    refine .det (.of_W (fn := Try.f35) hΓ hm Try.func35 ord35 [] (by kernel_rfl) (Step.out ?_))
    repeat' first
      | (refine Step.mk ?_; conv => whnf)
      | with_reducible trivial
      | (refine Br.dF ?_ ?_; omega)
      | (refine Met.by (rcheckB_ct c h) ?_; rintro q outs ⟨rfl, rfl⟩)
      | (refine Br.bnot ?_)
      | (refine Two.mk (Step.out ?_) (Step.out ?_))
      | (refine CallOK.ctF (g := 24) (Step.out ?_))
    all_goals rfl
theorem backM_bad {c : Ch} (h : c.bad) (i : Int) : c.backM i = (.z, 2) := by
  unfold Ch.backM; simp [chk_2 h, err_bad h]
theorem backM_ln {c x : Ch} {i : Int} {e : Int} (h : c.any) (hx : c.backM i = (x, e)) : x.ln := by
  obtain ⟨_, h1, h2, h3, h4⟩ := h
  unfold Ch.backM at hx
  unfold Ch.ack at hx
  (repeat' split at hx) <;> (obtain ⟨rfl, -⟩ := Prod.mk.inj hx) <;> constructor <;> (try simp) <;> omega
theorem backMX_ct (c : Ch) (h : c.any) (i : Int) (x : Ch) (e : Int) (hx : c.backM i = (x, e)) : Ct Try.prog 15 [c.d, i64 i] fun r outs => r = .tup [x.o, i64 e] ∧ outs = [] := by
  rcases h.o with h | h
  · have := back_ct c h i
    rwa [hx] at this
  · obtain ⟨rfl, rfl⟩ := Prod.mk.inj ((backM_bad h i).symm.trans hx)
    refine .det (.of_W (fn := Try.f15) hΓ hm Try.func15 [] [] (by kernel_rfl) (Step.out ?_))
    repeat' first
      | (refine Step.mk ?_; conv => whnf)
      | with_reducible trivial
      | (refine Br.dF ?_ ?_; omega)
      | (refine Met.by (takenB_ct c h _ _) ?_; rintro q outs ⟨rfl, rfl⟩)
      | (refine Br.bnot ?_)
      | (refine Two.mk (Step.out ?_) (Step.out ?_))
      | (refine CallOK.of_ct (Step.out ?_))
    all_goals rfl
theorem rbackMX_ct (c : Ch) (h : c.any) (i : Int) (x : Ch) (e : Int) (hx : c.backM i = (x, e)) : Ct Try.prog 33 [c.d, i64 i] fun r outs => r = .tup [x.q, i64 e] ∧ outs = [] := by
  rcases h.o with h | h
  · have := rbackQ_ct c h i
    rwa [hx] at this
  · obtain ⟨rfl, rfl⟩ := Prod.mk.inj ((backM_bad h i).symm.trans hx)
    have hl := rloseB_bad c h i
    refine .det (.of_W (fn := Try.f33) hΓ hm Try.func33 [] [] (by kernel_rfl) (Step.out ?_))
    repeat' first
      | (refine Step.mk ?_; conv => whnf)
      | with_reducible trivial
      | (refine Br.dF ?_ ?_; omega)
      | (refine Met.by hl ?_; rintro q outs ⟨rfl, rfl⟩)
      | (refine Br.bnot ?_)
      | (refine Two.mk (Step.out ?_) (Step.out ?_))
      | (refine CallOK.ctF (g := 35) (Step.out ?_))
    all_goals rfl
theorem deliver_bad {c : Ch} (h : c.bad) (i : Int) : c.deliver i = (.z, [], 2) := by
  unfold Ch.deliver; simp [err_bad h]
theorem deliver_ln {c x : Ch} {i e : Int} {l : List Str} (hx : c.deliver i = (x, l, e)) : x.ln ∧ l.length ≤ 1000000 := by
  by_cases he : c.err i c.there.length = 0
  · have g := Ch.good_of (Ch.err0 he).1
    obtain rfl : e = 0 := by
      unfold Ch.deliver at hx
      rw [if_neg (not_not_intro he)] at hx
      exact (Prod.mk.inj (Prod.mk.inj hx).2).2.symm
    obtain ⟨s, hb, _, hl, _⟩ := deliver_step g hx
    have e2 := s.g.e2; have e1 := g.e1
    have hr : x.reach = x.base + min (x.wait.length : Int) 4 := rfl
    have gx := s.g.lens; have gc := g.lens
    exact ⟨⟨by omega, by omega, by omega, by omega⟩, by omega⟩
  · unfold Ch.deliver at hx
    rw [if_pos he] at hx
    obtain ⟨rfl, h2⟩ := Prod.mk.inj hx
    obtain ⟨rfl, -⟩ := Prod.mk.inj h2
    exact ⟨⟨by simp, by simp, by simp, by simp⟩, by simp⟩
theorem deliverX_ct (c : Ch) (h : c.any) (i : Int) (x : Ch) (l : List Str) (e : Int) (hx : c.deliver i = (x, l, e)) : Ct Try.prog 14 [c.d, i64 i] fun r outs => r = .tup [x.d, strs l, i64 e] ∧ outs = [] := by
  rcases h.o with h | h
  · have := deliver_ct c h i
    rwa [hx] at this
  · obtain ⟨rfl, h2⟩ := Prod.mk.inj ((deliver_bad h i).symm.trans hx)
    obtain ⟨rfl, rfl⟩ := Prod.mk.inj h2
    refine .det (.of_W (fn := Try.f14) hΓ hm Try.func14 ord14 [] (by kernel_rfl) (Step.out ?_))
    repeat' first
      | (refine Step.mk ?_; conv => whnf)
      | with_reducible trivial
      | (refine Br.dF ?_ ?_; omega)
      | (refine Met.by (takenB_ct c h _ _) ?_; rintro q outs ⟨rfl, rfl⟩)
      | (refine Br.bnot ?_)
      | (refine Two.mk (Step.out ?_) (Step.out ?_))
      | (refine CallOK.of_ct (Step.out ?_))
    all_goals rfl
theorem rdeliverX_ct (c : Ch) (h : c.any) (i : Int) (x : Ch) (l : List Str) (e : Int) (hx : c.deliver i = (x, l, e)) : Ct Try.prog 36 [c.d, i64 i] fun r outs => r = .tup [x.d, strs l, i64 e] ∧ outs = [] := by
  rcases h.o with h | h
  · have := rdeliver_ct c h i
    rwa [hx] at this
  · obtain ⟨rfl, h2⟩ := Prod.mk.inj ((deliver_bad h i).symm.trans hx)
    obtain ⟨rfl, rfl⟩ := Prod.mk.inj h2
    refine .det (.of_W (fn := Try.f36) hΓ hm Try.func36 ord36 [] (by kernel_rfl) (Step.out ?_))
    repeat' first
      | (refine Step.mk ?_; conv => whnf)
      | with_reducible trivial
      | (refine Br.dF ?_ ?_; omega)
      | (refine Met.by (ratB_ct c h _) ?_; rintro q outs ⟨rfl, rfl⟩)
      | (refine Br.bnot ?_)
      | (refine Two.mk (Step.out ?_) (Step.out ?_))
      | (refine CallOK.of_ct (Step.out ?_))
    all_goals rfl
theorem rsame1_ct (l : List Str) (hl : l.length ≤ 1000000) : Ct Try.prog 55 [strs l, strs l] fun q outs => q = .bool true ∧ outs = [] := by
  refine .det (.of_W (fn := Try.f55) hΓ hm Try.func55 ord55 [] (by kernel_rfl) (Step.out ?_))
  repeat' first
    | (refine Step.mk ?_; conv => whnf)
    | (refine Br.dT ?_ ?_; omega)
    | (refine Br.bnot ?_)
  refine CodeOK.loopW hΓ hm ord55 [] (by kernel_rfl) (α := Nat) (fun i => [(0, strs l), (1, strs l), (5, i64 i)]) (fun i => []) 0 (fun i => i ≤ l.length) (fun i => l.length - i) ?_ ?_
  · refine Again.by 0 (Nat.zero_le _) ?_
    repeat' first
      | (refine Step.mk ?_; conv => whnf)
      | (refine Vc.om ?_ ?_; first | omega | with_reducible rfl | with_reducible exact same_rfl)
      | with_reducible trivial
  · intro i hi
    repeat' first
      | (refine Step.mk ?_; conv => whnf)
      | (refine Vc.om ?_ ?_; first | omega | with_reducible rfl | with_reducible exact same_rfl)
      | with_reducible trivial
      | (refine Wr.i64 ?_ ?_; omega)
      | (refine Br.d (fun h => ?_) (fun h => ?_))
      | (refine Br.bnot ?_)
      | (refine Two.mk (Step.out ?_) (Step.out ?_))
    refine Again.by (i + 1) ⟨by omega, by omega⟩ ?_
    repeat' first
      | (refine Step.mk ?_; conv => whnf)
      | (refine Vc.om ?_ ?_; first | omega | with_reducible rfl | with_reducible exact same_rfl)
      | with_reducible trivial
theorem equal1_ct (l : List Str) (hl : l.length ≤ 1000000) : Ct Try.prog 37 [strs l, strs l] fun q outs => q = .bool true ∧ outs = [] := by
  refine .det (.of_W (fn := Try.f37) hΓ hm Try.func37 [] [] (by kernel_rfl) (Step.out ?_))
  repeat' first
    | (refine Step.mk ?_; conv => whnf)
    | with_reducible trivial
    | (refine Two.mk (Step.out ?_) (Step.out ?_))
    | (refine CallOK.ctF (g := 55) (Step.out ?_))
    | (refine Met.by (g := 55) (rsame1_ct _ (by omega)) ?_; rintro q outs ⟨rfl, rfl⟩)
end Kx
