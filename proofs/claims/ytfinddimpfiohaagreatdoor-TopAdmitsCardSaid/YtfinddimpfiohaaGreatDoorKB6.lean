/-
  The reference's checks of settings: some number comes out.
  No condition beyond those written in each theorem.
-/
import Derived.Test.YtfinddimpfiohaaGreatDoorKB5
import Derived.Test.YtfinddimpfiohaaGreatDoorKB3
import Derived.Test.YtfinddimpfiohaaGreatDoorKA7
set_option linter.unusedSimpArgs false
set_option linter.unusedVariables false
set_option maxRecDepth 4000
open Go Sx Go.Proofs
namespace Kx
def Er (r:D) (outs:List D):Prop:=(∃ e:Int,r=i64 e)/\outs = []
theorem Er.mk (e:Int):Er (i64 e) []:=⟨⟨e,rfl⟩,rfl⟩
theorem r9len_ct (L:Int):Cr 319 [i64 L] (.bool (rightB' L)):=by
 refine .det (De Tryz.func319 [] [] ?_)
 repeat' first|refine S0 ?_;conv=>whnf|refine Vo ?_|exact T0|(refine Br.d (fun h=>?_) fun h=>?_)|refine T2 ?_ ?_
 all_goals (simp [rightB', *];try omega)
theorem r9len_is (L:Int) (v:Bool) (h:rightB' L=v):Cr 319 [i64 L] (.bool v):=h ▸ r9len_ct L
theorem r9new_ct (L:Int) (h:LenOk L):Cr 274 [i64 L] (.tup [.agg [i64 L,u64sO (List.replicate (L / 64).toNat 0)],i64 0]):=by
 have hr:=right_of L h
 have hL:64<=L/\L<=192:=by rcases h with rfl | rfl | rfl<;>omega
 refine .det (De Tryz.func274 [] [] ?_)
 repeat' first|(rw [Int.tdiv_eq_ediv_of_nonneg (by omega)])|refine S0 ?_;conv=>whnf|refine Vo ?_|refine Vb ?_|exact T0|refine W6 ?_|with_reducible refine Br.tt ?_|(refine M0 (r9len_is L _ hr) ?_)|refine Br.bnot ?_|refine T2 ?_ ?_|refine K0 ?_
 refine ⟨by simp,fun i hi=>?_⟩
 have:(List.replicate (L / 64).toNat (0:Int)).getD i 0=0:=by
  simp [List.getD,List.getElem?_replicate]
  split<;>rfl
 dsimp only;rw [this];rfl
theorem r14check_ct (p:Pm) (hp:p.ok):Cr 214 [p.d] (i64 0):=by
 have hL:=hp.L;have h1:=hp.h1;have h2:=hp.h2;have s1:=hp.s1;have s2:=hp.s2;refine .det (De Tryz.func214 [] [] ?_)
 repeat' first|refine S0 ?_;conv=>whnf|exact T0|refine B1 ?_|refine B0 ?_|(refine M0 (r9new_ct _ hL) ?_)|refine Br.swap ?_|refine Br.bnot ?_|refine T2 ?_ ?_|refine K0 ?_
theorem r16check_ct (s:Sc) (hs:s.ok) (P:List Pm) (hP:∀ i,i<P.length->(P.getD i Pm.z).ok):Ct Tryz.prog 148 [s.d,.tab 3 P.length (pmsL P)] Er:=by
 have n5:=hs.n5;refine De Tryz.func148 [] [] ?_
 repeat' first|refine S0 ?_;conv=>whnf|refine B1 ?_|(exact Er.mk _)|(refine Br.d (fun h=>?_) fun h=>?_)|refine Br.bnot ?_|refine K0 ?_|(refine M0 (g:=213) (rscheck_ct _ (by assumption)) ?_)
 refine Lw [] [] (α:=Nat) (fun i=>[(1,.tab 3 P.length (pmsL P)),(6,i64 i)]) (fun i=>[]) 0 (fun i=>i<=P.length) (fun i=>P.length - i) ?_ ?_
 ·refine Again.by 0 (zle _) ?_
  repeat' first|refine S0 ?_;conv=>whnf|refine Vo ?_|exact T0
 ·intro i hi
  have hc:=fun h:(i:Int)<P.length=>r14check_ct (P.getD (i:Int).toNat Pm.z) (hP _ (by omega))
  repeat' first|refine S0 ?_;conv=>whnf|refine Vo ?_|refine W6 ?_|refine B1 ?_|(refine M0 (hc (by omega)) ?_)|(exact Er.mk _)|(refine Br.d (fun h=>?_) fun h=>?_)|refine Br.swap ?_|refine Br.bnot ?_|refine K0 ?_
  all_goals
   refine Again.by (i+1) ⟨by omega,by omega⟩ ?_
   repeat' first|refine S0 ?_;conv=>whnf|refine Vo ?_|exact T0
theorem r20fits_ct (t k:Int):Cr 215 [i64 t,i64 k] (.bool (fitB t k)):=by
 refine .det (De Tryz.func215 [] [] ?_)
 repeat' first|refine S0 ?_;conv=>whnf|exact T0|refine B1 ?_|(refine Br.d (fun h=>?_) fun h=>?_)|refine T2 ?_ ?_
 all_goals (simp [fitB, *];done)
def befB (a b:Cp):Bool:=decide (a.1<b.1) || (decide (a.1=b.1) && decide (a.2<b.2))
theorem r20before_ct (a b:Cp):Cr 216 [.agg (cpF a),.agg (cpF b)] (.bool (befB a b)):=by
 refine .det (De Tryz.func216 [] [] ?_)
 repeat' first|refine S0 ?_;conv=>whnf|exact T0|(refine Br.d (fun h=>?_) fun h=>?_)|refine Br.swap ?_|refine T2 ?_ ?_
 all_goals (simp [befB, *];done)
theorem r20check_ct (s:Sc) (hs:s.ok) (K:List (List Cp)) (hK:K.length<=8) (hk:∀ k ∈ K,KyOk s k):Ct Tryz.prog 149 [s.d,kys K] Er:=by
 have n5:=hs.n5;refine De Tryz.func149 ord149 [] ?_
 repeat' first|refine S0 ?_;conv=>whnf|refine B1 ?_|refine B0 ?_|refine Br.bnot ?_|refine K0 ?_|(refine M0 (g:=213) (rscheck_ct _ (by assumption)) ?_)
 refine Lw ord149 [] (α:=Nat) (fun i=>[(1,kys K),(2,.loc 0 0),(6,i64 i)]) (fun i=>[(0,.var s.l)]) 1 (fun i=>i<=K.length) (fun i=>K.length - i) ?_ ?_
 ·refine Again.by 0 (zle _) ?_
  repeat' first|refine S0 ?_;conv=>whnf|refine Vo ?_|exact T0
 ·intro i hi
  have hc:i<K.length->KyOk s (K.getD i []):=fun h=>hk _ (mem_getD h)
  by_cases hlt:i<K.length
  ·have hko:=hc hlt;have hkl:=hko.o.n
   repeat' first|refine S0 ?_;conv=>whnf|refine Vo ?_|refine B1 ?_|(exact Er.mk _)|(refine Br.d (fun h=>?_) fun h=>?_)|refine Br.swap ?_
   refine Lw ord149 [] (α:=Nat) (fun j=>[(1,kys K),(2,.loc 0 0),(6,i64 i),(7,cps (K.getD i [])),(8,i64 j)]) (fun j=>[(0,.var s.l)]) 1 (fun j=>j<=(K.getD i []).length) (fun j=>(K.getD i []).length - j) ?_ ?_
   ·refine Again.by 0 (zle _) ?_
    repeat' first|refine S0 ?_;conv=>whnf|refine Vo ?_|exact T0|(exact ⟨rfl,fun _ _=>rfl⟩)|refine Vm ?_ ?_
   ·intro j hj
    repeat' first|refine S0 ?_;conv=>whnf|refine Vo ?_|refine W6 ?_|(exact Er.mk _)|(refine Br.d (fun h=>?_) fun h=>?_)|refine Br.swap ?_|refine Br.bnot ?_|(refine Bm (fun h=>?_) fun h=>?_)|refine K1 ?_|(refine M0 (g:=215) (r20fits_ct _ _) ?_)|(refine M0 (g:=216) (r20before_ct _ _) ?_)
    ·refine Again.by (j+1) ⟨by omega,by omega⟩ ?_
     repeat' first|refine S0 ?_;conv=>whnf|refine Vo ?_|exact T0
    ·refine Again.by (j+1) ⟨by omega,by omega⟩ ?_
     repeat' first|refine S0 ?_;conv=>whnf|refine Vo ?_|exact T0
    ·refine Again.by (i+1) ⟨by omega,by omega⟩ ?_
     repeat' first|refine S0 ?_;conv=>whnf|refine Vo ?_|exact T0
  ·repeat' first|refine S0 ?_;conv=>whnf|refine B0 ?_|(exact Er.mk _)
theorem r18check_ct:Cr 150 [.nil] (i64 0):=by
 refine .det (De Tryz.func150 ord150 [] ?_)
 repeat' first|refine S0 ?_;conv=>whnf|refine B0 ?_
 refine Lw ord150 [] (α:=Unit) (fun i=>[(0,.nil),(3,i64 1)]) (fun i=>[]) 0 (fun i=>True) (fun i=>0) ?_ ?_
 ·refine Again.by () trivial ?_
  repeat' first|refine S0 ?_;conv=>whnf|refine Vo ?_|exact T0
 ·intro i hi
  repeat' first|refine S0 ?_;conv=>whnf|refine B0 ?_
  refine Lw ord150 [] (α:=Unit) (fun i=>[(0,.nil),(4,i64 0)]) (fun i=>[]) 0 (fun i=>True) (fun i=>0) ?_ ?_
  ·refine Again.by () trivial ?_
   repeat' first|refine S0 ?_;conv=>whnf|refine Vo ?_|exact T0
  ·intro i hi
   repeat' first|refine S0 ?_;conv=>whnf|exact T0|refine B0 ?_|refine T2 ?_ ?_
theorem r19check_ct (l:List Ex):Ct Tryz.prog 151 [exs l] Er:=by
 refine De Tryz.func151 [] [] ?_
 repeat' first|refine S0 ?_;conv=>whnf|(exact Er.mk _)|(refine Br.d (fun h=>?_) fun h=>?_)|refine Br.swap ?_
 refine Lw [] [] (α:=Nat) (fun i=>[(0,exs l),(3,i64 i)]) (fun i=>[]) 0 (fun i=>i<=l.length) (fun i=>l.length - i) ?_ ?_
 ·refine Again.by 0 (zle _) ?_
  repeat' first|refine S0 ?_;conv=>whnf|refine Vo ?_|exact T0
 ·intro i hi
  repeat' first|refine S0 ?_;conv=>whnf|refine Vo ?_|refine W6 ?_|(exact Er.mk _)|(refine Br.d (fun h=>?_) fun h=>?_)|refine Br.swap ?_|refine Br.bnot ?_
  all_goals
   refine Again.by (i+1) ⟨by omega,by omega⟩ ?_
   repeat' first|refine S0 ?_;conv=>whnf|refine Vo ?_|exact T0
def wfB (x:Int):Bool:=decide (-65536<=x) && decide (x<=65536)
theorem r25fits_ct (x:Int):Cr 217 [i64 x] (.bool (wfB x)):=by
 refine .det (De Tryz.func217 [] [] ?_)
 repeat' first|refine S0 ?_;conv=>whnf|exact T0|(refine Br.d (fun h=>?_) fun h=>?_)|refine T2 ?_ ?_
 all_goals (simp [wfB, *];done)
theorem r25check_ct (p:Int) (a b:List Int) (hl:b.length=a.length):Ct Tryz.prog 152 [.agg [i64 p,ints a,ints b]] Er:=by
 refine De Tryz.func152 [] [] ?_
 repeat' first|refine S0 ?_;conv=>whnf|refine B1 ?_|(exact Er.mk _)|(refine Br.d (fun h=>?_) fun h=>?_)|refine Br.swap ?_|refine Br.bnot ?_|(refine Bm (fun h=>?_) fun h=>?_)|refine K0 ?_|(refine M0 (g:=217) (r25fits_ct _) ?_)
 refine Lw [] [] (α:=Nat) (fun i=>[(1,.loc 0 0),(3,i64 i)]) (fun i=>[(0,.var [i64 p,ints a,ints b])]) 1 (fun i=>i<=a.length) (fun i=>a.length - i) ?_ ?_
 ·refine Again.by 0 (zle _) ?_
  repeat' first|refine S0 ?_;conv=>whnf|refine Vo ?_|exact T0
 ·intro i hi
  repeat' first|refine S0 ?_;conv=>whnf|refine Vo ?_|refine W6 ?_|(exact Er.mk _)|(refine Br.d (fun h=>?_) fun h=>?_)|refine Br.swap ?_|refine Br.bnot ?_|(refine Bm (fun h=>?_) fun h=>?_)|refine K0 ?_|(refine M0 (g:=217) (r25fits_ct _) ?_)
  all_goals
   refine Again.by (i+1) ⟨by omega,by omega⟩ ?_
   repeat' first|refine S0 ?_;conv=>whnf|refine Vo ?_|exact T0
theorem r27check_ct (lo hi:Int):Ct Tryz.prog 153 [.agg [i64 lo,i64 hi]] Er:=by
 refine De Tryz.func153 [] [] ?_
 repeat' first|refine S0 ?_;conv=>whnf|(exact Er.mk _)|(refine Br.d (fun h=>?_) fun h=>?_)|refine Br.swap ?_
theorem RegsOk.lt {l:List Int} (h:RegsOk l) {i:Nat} (hi:i+1<l.length):l.getD i 0<l.getD (i+1) 0:=by
 rw [gDe,gDe,List.getElem?_eq_getElem hi,List.getElem?_eq_getElem (by omega)];exact List.pairwise_iff_getElem.1 h.p i (i+1) (by omega) hi (by omega)
theorem r34regs_ct (l:List Int) (h:RegsOk l):Cr 218 [ints l] (.bool true):=by
 have h2:=h.n2;have h4:=h.n4;refine .det (De Tryz.func218 ord218 [] ?_)
 repeat' first|refine S0 ?_;conv=>whnf
 refine Lw ord218 [] (α:=Nat) (fun i=>[(0,ints l),(3,i64 i)]) (fun i=>[]) 0 (fun i=>i<=l.length) (fun i=>l.length - i) ?_ ?_
 ·refine Again.by 0 (zle _) ?_
  repeat' first|refine S0 ?_;conv=>whnf|refine Vo ?_|exact T0
 ·intro i hi
  have hb:=fun hl:(i:Int)<l.length=>h.b (l.getD (i:Int).toNat 0) (getD_in (by omega))
  have ha:=fun (hl:(i:Int)<l.length) (h0:0<(i:Int))=>h.lt (i:=i - 1) (by omega)
  repeat' first|refine S0 ?_;conv=>whnf|refine Vo ?_|exact T0|refine W6 ?_|refine B0 ?_|(refine Br.d (fun h=>?_) fun h=>?_)|refine Br.swap ?_|refine T2 ?_ ?_
  ·have:=ha (by omega) (by omega);rw [show i - 1+1=i by omega] at this;rw [show ((i:Int) - 1).toNat=i - 1 by omega,tnc] at h;omega
  ·refine Again.by (i+1) ⟨by omega,by omega⟩ ?_
   repeat' first|refine S0 ?_;conv=>whnf|refine Vo ?_|exact T0
  ·refine Again.by (i+1) ⟨by omega,by omega⟩ ?_
   repeat' first|refine S0 ?_;conv=>whnf|refine Vo ?_|exact T0
  ·exact decide_eq_true (by omega)
theorem r34check_ct (p:Pj) (h:RegsOk p.r) (h1:1<=p.n) (h4:p.n<=4):Cr 154 [.agg p.f] (i64 0):=by
 refine .det (De Tryz.func154 [] [] ?_)
 repeat' first|refine S0 ?_;conv=>whnf|exact T0|with_reducible refine Br.tt ?_|refine B0 ?_|refine Br.swap ?_|refine Br.bnot ?_|refine T2 ?_ ?_|refine K0 ?_|(refine M0 (g:=218) (r34regs_ct _ (by assumption)) ?_)
set_option maxHeartbeats 2000000 in
theorem r40setting_ct (S:Stg) (hS:S.ok):Ct Tryz.prog 95 [S.d] Er:=by
 have hs:=hS.s.ok;have hP:=fun i h=>(hS.P i h).1;have hK:=hS.K5;have hk:=hS.K;have hsn:=hS.simn;have hd:S.di.length=S.ag.length:=by rw [hS.din,hS.agn]
 have hpn:=hS.pj.n;have n5:=hs.n5;refine De Tryz.func95 ord95 [] ?_
 repeat' first|refine S0 ?_;conv=>whnf|refine B1 ?_|(exact Er.mk _)|(refine Met.by (r16check_ct S.s hs S.P hP) ?_;rintro q outs ⟨⟨e,rfl⟩,rfl⟩)|(refine Met.by (r20check_ct S.s hs S.K (by omega) hk) ?_;rintro q outs ⟨⟨e,rfl⟩,rfl⟩)|(refine Br.d (fun h=>?_) fun h=>?_)|refine Br.swap ?_|refine Br.bnot ?_|refine K0 ?_
 refine Lw ord95 [] (α:=Nat) (fun i=>[(1,.loc 0 0),(5,i64 S.s.f.length),(6,i64 i)]) (fun i=>[(0,.var S.l)]) 1 (fun i=>i<=S.s.f.length) (fun i=>S.s.f.length - i) ?_ ?_
 ·refine Again.by 0 (zle _) ?_
  repeat' first|refine S0 ?_;conv=>whnf|refine Vo ?_|exact T0
 ·intro i hi
  repeat' first|refine S0 ?_;conv=>whnf|refine Vo ?_|refine W6 ?_|refine B1 ?_|(exact Er.mk _)|(refine Br.d (fun h=>?_) fun h=>?_)|refine Br.bnot ?_|refine K0 ?_|(refine M0 (g:=150) (r18check_ct) ?_)|(refine Met.by (g:=151) (r19check_ct _) ?_;rintro q outs ⟨⟨e,rfl⟩,rfl⟩)
  all_goals try
   refine Again.by (i+1) ⟨by omega,by omega⟩ ?_
   repeat' first|refine S0 ?_;conv=>whnf|refine Vo ?_|exact T0
   done
  refine Lw ord95 [] (α:=Nat) (fun i=>[(1,.loc 0 0),(5,i64 S.s.f.length),(9,i64 i)]) (fun i=>[(0,.var S.l)]) 1 (fun i=>i<=S.s.f.length) (fun i=>S.s.f.length - i) ?_ ?_
  ·refine Again.by 0 (zle _) ?_
   repeat' first|refine S0 ?_;conv=>whnf|refine Vo ?_|exact T0
  ·intro i hi
   repeat' first|refine S0 ?_;conv=>whnf|refine Vo ?_|refine W6 ?_|refine B0 ?_|(exact Er.mk _)|(refine Met.by (r25check_ct S.pr S.ag S.di hd) ?_;rintro q outs ⟨⟨e,rfl⟩,rfl⟩)|(refine Br.d (fun h=>?_) fun h=>?_)|refine Br.swap ?_|refine Br.bnot ?_|refine K0 ?_|(refine Met.by (g:=153) (r27check_ct _ _) ?_;rintro q outs ⟨⟨e,rfl⟩,rfl⟩)
   all_goals try
    refine Again.by (i+1) ⟨by omega,by omega⟩ ?_
    repeat' first|refine S0 ?_;conv=>whnf|refine Vo ?_|exact T0
    done
   refine Lw ord95 [] (α:=Nat) (fun i=>[(1,.loc 0 0),(12,i64 i)]) (fun i=>[(0,.var S.l)]) 1 (fun i=>i<=S.pj.length) (fun i=>S.pj.length - i) ?_ ?_
   ·refine Again.by 0 (zle _) ?_
    repeat' first|refine S0 ?_;conv=>whnf|refine Vo ?_|exact T0
   ·intro i hi
    have hp:=fun h:(i:Int)<S.pj.length=>hS.pj.r (S.pj.getD (i:Int).toNat Pj.z) (getD_in (by omega))
    repeat' first|refine S0 ?_;conv=>whnf|refine Vo ?_|refine W6 ?_|refine B1 ?_|(exact Er.mk _)|(refine M0 (r34check_ct (S.pj.getD (i:Int).toNat Pj.z) (hp (by omega)).1 (hp (by omega)).2.1 (hp (by omega)).2.2) ?_)|(refine Br.d (fun h=>?_) fun h=>?_)|refine Br.swap ?_|refine Br.bnot ?_|refine K1 ?_
    all_goals
     refine Again.by (i+1) ⟨by omega,by omega⟩ ?_
     repeat' first|refine S0 ?_;conv=>whnf|refine Vo ?_|exact T0
end Kx
open Go Sx Go.Proofs
namespace Kx
theorem valsB_T {l:List Str} (h1:1<=l.length) (h5:l.length<=5) (h:∀ j,j<l.length->(l.getD j []).length<=64):valsB l=true:=by
 have:(l.any fun s=>decide (64<s.length))=false:=by
  rw [List.any_eq_false];intro x hx;obtain ⟨j,hj,rfl⟩:=List.getElem_of_mem hx;have:=h j hj;rw [gDe,List.getElem?_eq_getElem hj] at this;simpa using this
 rw [valsB,decide_eq_true h1,decide_eq_true h5,this];rfl
theorem valsB_F {l:List Str} {j:Nat} (hj:j<l.length) (h:64<(l.getD j []).length):valsB l=false:=by
 have:(l.any fun s=>decide (64<s.length))=true:=List.any_eq_true.2 ⟨_,getD_in (z:=[]) hj,decide_eq_true h⟩;rw [valsB,this];simp
theorem r36values_ct (l:List Str) (hl:l.length<=100000):Cr 219 [strs l] (.bool (valsB l)):=by
 refine .det (De Tryz.func219 [] [] ?_)
 repeat' first|refine S0 ?_;conv=>whnf|exact T0|(refine Br.d (fun h=>?_) fun h=>?_)|refine Br.swap ?_|refine T2 ?_ ?_
 ·rw [valsB,decide_eq_false (show ¬1<=l.length by omega)];rfl
 ·rw [valsB,decide_eq_false (show ¬l.length<=5 by omega),Bool.and_false];rfl
 ·refine Lw [] [] (α:=Nat) (fun i=>[(0,strs l),(3,i64 i)]) (fun i=>[]) 0 (fun i=>i<=l.length/\∀ j,j<i->(l.getD j []).length<=64) (fun i=>l.length - i) ?_ ?_
  ·refine Again.by 0 ⟨zle _,nofun⟩ ?_
   repeat' first|refine S0 ?_;conv=>whnf|refine Vo ?_|exact T0
  ·intro i ⟨hi,hp⟩
   repeat' first|refine S0 ?_;conv=>whnf|refine Vo ?_|exact T0|refine W6 ?_|(refine Br.d (fun h=>?_) fun h=>?_)|refine T2 ?_ ?_
   ·exact (valsB_F (j:=i) (by omega) (by rw [tnc] at h;omega)).symm
   ·refine Again.by (i+1) ⟨⟨by omega,fun j hj=>?_⟩,by omega⟩ ?_
    ·rcases Nat.lt_or_eq_of_le (Nat.le_of_lt_succ hj) with h1 | rfl
     ·exact hp j h1
     ·rw [tnc] at h;omega
    repeat' first|refine S0 ?_;conv=>whnf|refine Vo ?_|exact T0
   ·exact (valsB_T (by omega) (by omega) fun j hj=>hp j (by omega)).symm
theorem r36status_ct (a b c:Int):Cr 220 [i64 a,i64 b,i64 c] (.bool (statB a b c)):=by
 refine .det (De Tryz.func220 [] [] ?_)
 repeat' first|refine S0 ?_;conv=>whnf|exact T0|(refine Br.d (fun h=>?_) fun h=>?_)|refine T2 ?_ ?_
 all_goals (simp only [statB,idB];repeat' split)
 all_goals first | rfl | (exfalso;omega) | (simp [*];done) | (simp_all;done)
theorem r36row_ct (e:Ev):Cr 225 [e.d] e.row.d:=by
 refine .det (De Tryz.func225 [] [] ?_)
 repeat' first|refine S0 ?_;conv=>whnf|exact T0|(refine Br.d (fun h=>?_) fun h=>?_)|refine T2 ?_ ?_
 all_goals (unfold Ev.row;simp [h])
theorem r36check_ct (e:Ev) (hl:e.vals.length<=100000):Cr 223 [e.d] (i64 e.chk):=by
 refine .det (De Tryz.func223 [] [] ?_)
 repeat' first|refine S0 ?_;conv=>whnf|exact T0|(refine Br.d (fun h=>?_) fun h=>?_)|refine Br.swap ?_|refine Br.bnot ?_|(refine Bm (fun h=>?_) fun h=>?_)|refine T2 ?_ ?_|refine K0 ?_|(refine M0 (g:=219) (r36values_ct _ (by omega)) ?_)|(refine M0 (g:=220) (r36status_ct _ _ _) ?_)
 all_goals unfold Ev.chk Ev.good
 all_goals first
  | trivial
  | exact hb h
  | with_reducible rfl
  | with_reducible exact same_rfl
  | omega
  | ((simp [idB, *];done))
  | ((simp [idB, *];omega))
  | ((simp_all [idB];done))
  | ((simp_all [idB];omega))
theorem cont_lt (a b:Rw):cont a b<0 ↔ a.ver<b.ver\/(a.ver=b.ver/\0<cmpV b.vals a.vals):=by
 have h:=cmpV_ok.sym b.vals a.vals;simp only [cont,cmp2,cmpI_c];rw [h];generalize cmpV b.vals a.vals=v
 (repeat' split)<;>omega
theorem stat_lt (a b:Rw):stat a b<0 ↔ a.sv<b.sv\/(a.sv=b.sv/\(a.st<b.st\/(a.st=b.st/\a.into<b.into))):=by
 simp only [stat,cmp2,cmpI_c]
 (repeat' split)<;>omega
set_option maxHeartbeats 1000000 in
theorem r36join0 (a b:Rw) (ha:a.vals.length<=1000000) (hb:b.vals.length<=1000000) (h1:cont a b<0) (h2:stat a b<0):Cr 284 [a.d,b.d] ((both a b).d):=by
 have hX:both a b=⟨a.id,b.ver,b.vals,b.sv,b.st,b.into⟩:=by simp only [both,if_pos h1,if_pos h2]
 have hc:=rcompare_ct b.vals a.vals hb ha;rw [cont_lt] at h1;rw [stat_lt] at h2;rw [hX];clear hX;generalize cmpV b.vals a.vals=v at *;refine .det (De Tryz.func284 ord284 [] ?_)
 repeat' first|refine S0 ?_;conv=>whnf|refine Vb ?_|exact T0|exact T1|refine B1 ?_|(refine M0 hc ?_)|(refine Br.d (fun h=>?_) fun h=>?_)|refine Br.swap ?_|refine T2 ?_ ?_|refine K0 ?_
 all_goals first | rfl | (exfalso;omega) | exact ⟨rfl,fun _ _=>rfl⟩ | omega
theorem r36join1 (a b:Rw) (ha:a.vals.length<=1000000) (hb:b.vals.length<=1000000) (h1:cont a b<0) (h2:¬stat a b<0):Cr 284 [a.d,b.d] ((both a b).d):=by
 have hX:both a b=⟨a.id,b.ver,b.vals,a.sv,a.st,a.into⟩:=by simp only [both,if_pos h1,if_neg h2]
 have hc:=rcompare_ct b.vals a.vals hb ha;rw [cont_lt] at h1;rw [stat_lt] at h2;rw [hX];clear hX;generalize cmpV b.vals a.vals=v at *;refine .det (De Tryz.func284 ord284 [] ?_)
 repeat' first|refine S0 ?_;conv=>whnf|refine Vb ?_|exact T0|exact T1|refine B1 ?_|refine B0 ?_|(refine M0 hc ?_)|(refine Br.d (fun h=>?_) fun h=>?_)|refine Br.swap ?_|refine T2 ?_ ?_|refine K0 ?_
 all_goals first | rfl | (exfalso;omega) | exact ⟨rfl,fun _ _=>rfl⟩ | omega
theorem r36join2 (a b:Rw) (ha:a.vals.length<=1000000) (hb:b.vals.length<=1000000) (h1:¬cont a b<0) (h2:stat a b<0):Cr 284 [a.d,b.d] ((both a b).d):=by
 have hX:both a b=⟨a.id,a.ver,a.vals,b.sv,b.st,b.into⟩:=by simp only [both,if_neg h1,if_pos h2]
 have hc:=rcompare_ct b.vals a.vals hb ha;rw [cont_lt] at h1;rw [stat_lt] at h2;rw [hX];clear hX;generalize cmpV b.vals a.vals=v at *;refine .det (De Tryz.func284 ord284 [] ?_)
 repeat' first|refine S0 ?_;conv=>whnf|refine Vb ?_|exact T0|exact T1|refine B1 ?_|refine B0 ?_|(refine M0 hc ?_)|(refine Br.d (fun h=>?_) fun h=>?_)|refine Br.swap ?_|refine T2 ?_ ?_|refine K0 ?_
 all_goals first | rfl | (exfalso;omega) | exact ⟨rfl,fun _ _=>rfl⟩ | omega
theorem r36join3 (a b:Rw) (ha:a.vals.length<=1000000) (hb:b.vals.length<=1000000) (h1:¬cont a b<0) (h2:¬stat a b<0):Cr 284 [a.d,b.d] ((both a b).d):=by
 have hX:both a b=⟨a.id,a.ver,a.vals,a.sv,a.st,a.into⟩:=by simp only [both,if_neg h1,if_neg h2]
 have hc:=rcompare_ct b.vals a.vals hb ha;rw [cont_lt] at h1;rw [stat_lt] at h2;rw [hX];clear hX;generalize cmpV b.vals a.vals=v at *;refine .det (De Tryz.func284 ord284 [] ?_)
 repeat' first|refine S0 ?_;conv=>whnf|refine Vb ?_|exact T0|exact T1|refine B0 ?_|(refine M0 hc ?_)|(refine Br.d (fun h=>?_) fun h=>?_)|refine Br.swap ?_|refine T2 ?_ ?_|refine K0 ?_
 all_goals first | rfl | (exfalso;omega) | exact ⟨rfl,fun _ _=>rfl⟩ | omega
theorem r36join_ct (a b:Rw) (ha:a.vals.length<=1000000) (hb:b.vals.length<=1000000):Cr 284 [a.d,b.d] ((both a b).d):=by
 by_cases h1:cont a b<0<;>by_cases h2:stat a b<0
 ·exact r36join0 a b ha hb h1 h2
 ·exact r36join1 a b ha hb h1 h2
 ·exact r36join2 a b ha hb h1 h2
 ·exact r36join3 a b ha hb h1 h2
end Kx
open Go Sx Go.Proofs
namespace Kx
theorem stB_F1 {r:Rw} (h:r.ver=0/\r.sv=0):r.stateB=false:=if_pos (.inl ⟨h.1,.inl h.2⟩)
theorem stB_F2 {r:Rw} (h:r.ver=0) (h2:¬(r.vals.length:Int)=0):r.stateB=false:=if_pos (.inl ⟨h,.inr (by omega)⟩)
theorem stB_F3 {r:Rw} (h:0<r.ver) (h2:valsB r.vals=false):r.stateB=false:=if_pos (.inr ⟨h,h2⟩)
theorem stB_F4 {r:Rw} (h:r.sv=0) (h2:¬r.st=0\/¬r.into=0):r.stateB=false:=by
 unfold Rw.stateB;split
 ·rfl
 ·first
   | rw [if_pos h]
   | skip
  rcases h2 with h2 | h2<;>simp [h2]
theorem stB_F5 {r:Rw} (h:statB r.id r.st r.into=false):r.stateB=false:=by
 unfold Rw.stateB;split
 ·rfl
 ·split
  ·rw [Bool.and_eq_false_iff,decide_eq_false_iff_not,decide_eq_false_iff_not]
   refine Classical.byContradiction fun hn=>?_
   have h1:r.st=0/\r.into=0:=by omega
   rw [h1.1,h1.2] at h;simp [statB] at h
  ·exact h
theorem stB_T {r:Rw} (h1:¬(r.ver=0/\r.sv=0)) (h2:¬(r.ver=0/\¬(r.vals.length:Int)=0)) (h3:r.ver=0\/valsB r.vals=true) (h4:¬r.sv=0\/(r.st=0/\r.into=0)) (h5:statB r.id r.st r.into=true):r.stateB=true:=by
 unfold Rw.stateB;rw [if_neg]
 ·split
  ·have h6:r.st=0/\r.into=0:=by omega
   rw [decide_eq_true h6.1,decide_eq_true h6.2];rfl
  ·exact h5
 ·rintro (⟨h,h6⟩ | ⟨h,h6⟩)
  ·omega
  ·rcases h3 with h3 | h3
   ·omega
   ·rw [h3] at h6;cases h6
theorem r36valid_ct (l:List Rw) (hl:RwsOK l):Cr 155 [rws l] (i64 (valid l)):=by
 have hn:=hl.n;refine .det (De Tryz.func155 ord155 [] ?_)
 repeat' first|refine S0 ?_;conv=>whnf|exact T0|(refine Br.d (fun h=>?_) fun h=>?_)|refine T2 ?_ ?_
 ·rw [valid,if_pos (by omega)]
 ·have hval:valid l=vGo 0 l:=by rw [valid,if_neg (by omega)]
  refine Lw ord155 [] (α:=Nat) (fun i=>[(0,rws l),(3,i64 i)]) (fun i=>[]) 0 (fun i=>i<=l.length/\vGo 0 l=vGo (rAt l i) (l.drop i)) (fun i=>l.length - i) ?_ ?_
  ·refine Again.by 0 ⟨zle _,rfl⟩ ?_
   repeat' first|refine S0 ?_;conv=>whnf|refine Vo ?_|exact T0
  ·intro i ⟨hi,hv⟩
   have hvl:=fun (h:i<l.length)=>hl.v _ (getD_in (z:=Rw.z) (i:=(i:Int).toNat) h)
   have hE:=fun (h:i<l.length)=>hval.trans (hv.trans (vGo_step l (rAt l i) i h))
   have hE2:=fun (h:i<l.length)=>hv.trans (vGo_step l (rAt l i) i h)
   have hz:¬i<l.length->vGo 0 l=0:=fun h=>by rw [hv,ddl (by omega)];rfl
   have hr0:i=0->rAt l i=0:=fun h=>by rw [h];rfl
   have hr1:0<i->rAt l i=(l.getD ((i:Int) - 1).toNat Rw.z).id:=fun h=>by rw [rAt,if_neg (by omega),show ((i:Int) - 1).toNat=i - 1 by omega]
   have hr2:rAt l (i+1)=(l.getD (i:Int).toNat Rw.z).id:=by rw [rAt,if_neg (by omega),Nat.add_sub_cancel,tnc]
   rw [show i=(i:Int).toNat from (tnc i).symm] at hE hE2;simp only [tnc] at hE hE2;clear hv
   repeat' first|refine S0 ?_;conv=>whnf|refine Vo ?_|exact T0|refine W6 ?_|refine B1 ?_|refine B0 ?_|(refine Br.d (fun h=>?_) fun h=>?_)|refine Br.swap ?_|refine Br.bnot ?_|(refine Bm (fun h=>?_) fun h=>?_)|refine T2 ?_ ?_|refine K0 ?_|(refine M0 (g:=219) (r36values_ct _ (by omega)) ?_)|(refine M0 (g:=220) (r36status_ct _ _ _) ?_)
   all_goals try
    rw [hE (by omega),if_pos (by simp only [idB,verB,Bool.and_eq_false_iff,decide_eq_false_iff_not,tnc] at *;omega)]
    done
   all_goals try
    rw [hE (by omega),if_neg (by simp only [idB,verB,Bool.and_eq_false_iff,decide_eq_false_iff_not,tnc] at *;omega),if_pos (by
     simp only [tnc] at *
     first | exact stB_F1 ⟨by omega,by omega⟩ | exact stB_F2 (by omega) ‹_› | exact stB_F3 (by omega) ‹_› | exact stB_F4 (by omega) (by omega) | exact stB_F5 ‹_›)]
    done
   all_goals try
    rw [hE (by omega),if_neg (by simp only [idB,verB,Bool.and_eq_false_iff,decide_eq_false_iff_not,tnc] at *;omega),if_neg (by
     simp only [tnc] at *;rw [Bool.not_eq_false];refine stB_T (by omega) (by omega) ?_ (by omega) ‹_›
     first | exact .inl (by omega) | exact .inr ‹_›),if_pos (by simp only [tnc] at *;omega)]
    done
   all_goals try
    refine Again.by (i+1) ⟨⟨by omega,?_⟩,by omega⟩ ?_
    ·rw [hE2 (by omega),if_neg (by simp only [idB,verB,Bool.and_eq_false_iff,decide_eq_false_iff_not,tnc] at *;omega),if_neg (by
      simp only [tnc] at *;rw [Bool.not_eq_false];refine stB_T (by omega) (by omega) ?_ (by omega) ‹_›
      first | exact .inl (by omega) | exact .inr ‹_›),if_neg (by simp only [tnc] at *;omega),hr2,tnc]
    ·repeat' first|refine S0 ?_;conv=>whnf|refine Vo ?_|exact T0
    done
   all_goals try
    rw [hval,hz (by omega)]
    done
theorem ins_before {r:Rw} (m:List Rw):∀ {l:List Rw},(∀ x ∈ l,x.id<r.id)->ins (l ++ m) r=l ++ ins m r
 | [],_=>rfl
 | x :: l,h=>by
   rw [List.cons_append,ins,if_pos (h x (by simp)),ins_before m fun y hy=>h y (by simp [hy])];rfl
theorem ins_after {r:Rw} (m:List Rw):∀ {l:List Rw},(∃ x ∈ l,r.id<=x.id)->ins (l ++ m) r=ins l r ++ m
 | [],h=>by obtain ⟨x,hx,_⟩:=h;cases hx
 | x :: l,h=>by
   rw [List.cons_append,ins,ins];split
   ·rw [ins_after m (by
     obtain ⟨y,hy,h2⟩:=h
     rcases List.mem_cons.1 hy with rfl | hy
     ·omega
     ·exact ⟨y,hy,h2⟩)];rfl
   ·split<;>rfl
theorem both_self (r:Rw):both r r=r:=by
 have h1:¬cont r r<0:=by
  rw [cont_lt];have:=(cmpV_ok.eq r.vals r.vals).2 rfl;omega
 have h2:¬stat r r<0:=by rw [stat_lt];omega
 simp only [both,if_neg h1,if_neg h2]
def putAt (l:List Rw) (r:Rw) (i:Nat) (b:Bool):List Rw:=if b=true then ins (l.take i) r else l.take i
theorem putAt_len (l:List Rw) (r:Rw) (i:Nat) (b:Bool):(putAt l r i b).length<=i+1:=by
 unfold putAt;split
 ·have:=ins_len (l.take i) r;simp at this;omega
 ·simp;omega
theorem take_s' (l:List Rw) (i:Nat) (h:i<l.length):l.take (i+1)=l.take i ++ [l.getD i Rw.z]:=take_s l i Rw.z h
theorem put_A {l:List Rw} {r:Rw} {i:Nat} (h:i<l.length) (h1:∀ x ∈ l.take i,x.id<r.id) (he:(l.getD i Rw.z).id=r.id):putAt l r (i+1) true=putAt l r i false ++ [both (l.getD i Rw.z) r]:=by
 rw [putAt,if_pos rfl,putAt,if_neg (by simp),take_s' l i h,ins_before _ h1,ins,if_neg (by omega),if_pos he]
theorem put_B {l:List Rw} {r:Rw} {i:Nat} (h:i<l.length) (h1:∀ x ∈ l.take i,x.id<r.id) (he:r.id<(l.getD i Rw.z).id):putAt l r (i+1) true=(putAt l r i false ++ [r]) ++ [l.getD i Rw.z]:=by
 rw [putAt,if_pos rfl,putAt,if_neg (by simp),take_s' l i h,ins_before _ h1,ins,if_neg (by omega),if_neg (by omega),List.append_assoc];rfl
theorem put_C {l:List Rw} {r:Rw} {i:Nat} (h:i<l.length):putAt l r (i+1) false=putAt l r i false ++ [l.getD i Rw.z]:=by
 rw [putAt,if_neg (by simp),putAt,if_neg (by simp),take_s' l i h]
theorem put_D {l:List Rw} {r:Rw} {i:Nat} (h:i<l.length) (h2:∃ x ∈ l.take i,r.id<=x.id):putAt l r (i+1) true=putAt l r i true ++ [l.getD i Rw.z]:=by
 rw [putAt,if_pos rfl,putAt,if_pos rfl,take_s' l i h,ins_after _ h2]
theorem put_E {l:List Rw} {r:Rw} (h1:∀ x ∈ l,x.id<r.id):ins l r=l ++ [r]:=by
 have:=ins_before (r:=r) [] h1;rw [List.append_nil] at this;exact this
theorem ite_rw (c:Prop) [Decidable c] (x y:Rw):iteL c (Rw.f x) (Rw.f y)=Rw.f (if c then x else y):=by
 show [i64 (if c then _ else _),i64 (if c then _ else _),D.ite c (strs x.vals) (strs y.vals),i64 (if c then _ else _),i64 (if c then _ else _),i64 (if c then _ else _)]=_
 rw [ite_strs]
 split<;>rfl
theorem rw_app (l:List Rw) (x:Rw) {m:List Rw} (hm:m=l ++ [x]):l.length+1=m.length/\∀ i,i<m.length->iteL (i<l.length) (Rw.f (l.getD i Rw.z)) (selC [Rw.f x] (i - l.length))=Rw.f (m.getD i Rw.z):=by
 subst hm;exact app1 Rw.f Rw.z ite_rw l x
theorem rw_app2 (A:List Rw) (x y:Rw) {m:List Rw} (hm:m=(A ++ [x]) ++ [y]):A.length+1+1=m.length/\∀ i,i<m.length->iteL (i<A.length+1) (iteL (i<A.length) (Rw.f (A.getD i Rw.z)) (selC [Rw.f x] (i - A.length))) (selC [Rw.f y] (i - (A.length+1)))=Rw.f (m.getD i Rw.z):=by
 subst hm;refine ⟨by simp,fun i hi=>?_⟩
 show iteL (i<A.length+1) (iteL (i<A.length) (Rw.f (A.getD i Rw.z)) (Rw.f x)) (Rw.f y)=_
 rw [ite_rw,ite_rw]
 congr 1
 have e:(A ++ [x]).length=A.length+1:=by simp
 rw [lap,e,List.length_singleton] at hi;by_cases h1:i<A.length+1
 ·rw [if_pos h1,getD_ap1 _ _ _ _ (by omega)];by_cases h2:i<A.length
  ·rw [if_pos h2,getD_ap1 _ _ _ _ h2]
  ·obtain rfl:i=A.length:=by omega
   rw [if_neg h2,getD_last]
 ·rw [if_neg h1]
  obtain rfl:i=(A ++ [x]).length:=by omega
  rw [getD_last]
theorem r36joinS_ct (a:Rw) (ha:a.vals.length<=1000000):Cr 284 [a.d,a.d] a.d:=by
 have:=r36join_ct a a ha ha
 rwa [both_self] at this
set_option maxHeartbeats 2000000 in
theorem r36put_ct (l:List Rw) (r:Rw) (hl:RwsOK l) (hr:r.vals.length<=100000):Cr 224 [rws l,r.d] (rwsO 107 (ins l r)):=by
 have hn:=hl.n;refine .det (De Tryz.func224 ord224 [] ?_)
 repeat' first|refine S0 ?_;conv=>whnf
 refine Lw ord224 [] (α:=Nat × Bool) (fun z=>[(0,rws l),(3,.loc 0 0),(5,.own 1),(6,.bool z.2),(7,i64 z.1)]) (fun z=>[(0,.var r.f),(1,.arr 107 6 (putAt l r z.1 z.2).length fun i=>Rw.f ((putAt l r z.1 z.2).getD i Rw.z))]) 2 (fun z=>z.1<=l.length/\(z.2=false->∀ x ∈ l.take z.1,x.id<r.id)/\(z.2=true->∃ x ∈ l.take z.1,r.id<=x.id)) (fun z=>l.length - z.1) ?_ ?_
 ·refine Again.by (0,false) ⟨zle _,fun _ _ h=>by simp at h,nofun⟩ ?_
  repeat' first|refine S0 ?_;conv=>whnf|refine Vo ?_|exact T0|(rfl)|refine Vm ?_ ?_
 ·intro ⟨i,b⟩ ⟨hi,h1,h2⟩;dsimp only at hi h1 h2 ⊢
  have hvl:=fun (h:i<l.length)=>hl.v _ (getD_in (z:=Rw.z) (i:=(i:Int).toNat) h)
  have hpl:=putAt_len l r i b
  have hin:i<l.length->l.getD i Rw.z ∈ l.take (i+1):=fun h=>by rw [take_s' l i h];simp
  have hsub:∀ x ∈ l.take i,x ∈ l.take (i+1):=fun x hx=>by
   by_cases h:i<l.length
   ·rw [take_s' l i h];simp [hx]
   ·rw [List.take_of_length_le (by omega)] at hx ⊢;exact hx
  cases b
  all_goals
   repeat' first|refine S0 ?_;conv=>whnf|refine Vo ?_|refine Vb ?_|exact T0|refine W6 ?_|with_reducible refine Br.tt ?_|with_reducible refine Br.ff ?_|(refine M0 (r36join_ct (l.getD (i:Int).toNat Rw.z) r (by have:=hvl (by omega);omega) (by omega)) ?_)|(refine M0 (r36joinS_ct (l.getD (i:Int).toNat Rw.z) (by have:=hvl (by omega);omega)) ?_)|(refine M0 (r36joinS_ct r (by omega)) ?_)|(refine Br.d (fun h=>?_) fun h=>?_)|refine Br.bnot ?_|refine T2 ?_ ?_|refine K0 ?_|refine K1 ?_
  ·have h' : (l.getD i Rw.z).id=r.id:=h
   refine Again.by (i+1,true) ⟨⟨by dsimp only;omega,nofun,fun _=>⟨_,hin (by omega),by omega⟩⟩,by dsimp only;omega⟩ ?_
   repeat' first|refine S0 ?_;conv=>whnf|refine Vo ?_|exact T0|(exact rw_app (putAt l r i false) _ (put_A (by omega) (h1 rfl) h'))|refine Vm ?_ ?_
  ·have h9:¬(l.getD i Rw.z).id=r.id:=h;have h8:r.id<=(l.getD i Rw.z).id:=‹r.id<=(l.getD (i:Int).toNat Rw.z).id›
   refine Again.by (i+1,true) ⟨⟨by dsimp only;omega,nofun,fun _=>⟨_,hin (by omega),by omega⟩⟩,by dsimp only;omega⟩ ?_
   repeat' first|refine S0 ?_;conv=>whnf|refine Vo ?_|exact T0|(exact rw_app2 (putAt l r i false) r _ (put_B (by omega) (h1 rfl) (by omega)))|refine Vm ?_ ?_
  ·have h9:¬r.id<=(l.getD i Rw.z).id:=h
   refine Again.by (i+1,false) ⟨⟨by dsimp only;omega,fun _ x hx=>?_,nofun⟩,by dsimp only;omega⟩ ?_
   ·dsimp only at hx;rw [take_s' l i (by omega)] at hx
    rcases List.mem_append.1 hx with hx | hx
    ·exact h1 rfl x hx
    ·rw [List.mem_singleton.1 hx];omega
   repeat' first|refine S0 ?_;conv=>whnf|refine Vo ?_|exact T0|(exact rw_app (putAt l r i false) _ (put_C (by omega)))|refine Vm ?_ ?_
  ·have hi2:i=l.length:=by omega
   subst hi2
   have h1' : ∀ x ∈ l,x.id<r.id:=fun x hx=>h1 rfl x (by rw [List.take_of_length_le (Nat.le_refl _)];exact hx)
   exact rw_app (putAt l r l.length false) r (by rw [put_E h1',putAt,if_neg (by simp),List.take_of_length_le (Nat.le_refl _)])
  ·obtain ⟨x,hx,hx2⟩:=h2 rfl
   refine Again.by (i+1,true) ⟨⟨by dsimp only;omega,nofun,fun _=>⟨x,hsub x hx,hx2⟩⟩,by dsimp only;omega⟩ ?_
   repeat' first|refine S0 ?_;conv=>whnf|refine Vo ?_|exact T0|(exact rw_app (putAt l r i true) _ (put_D (by omega) ⟨x,hx,hx2⟩))|refine Vm ?_ ?_
  ·have hi2:i=l.length:=by omega
   subst hi2;rw [show putAt l r l.length true=ins l r by rw [putAt,if_pos rfl,List.take_of_length_le (Nat.le_refl _)]];exact ⟨rfl,fun _ _=>rfl⟩
theorem r36apply_ct (l:List Rw) (e:Ev) (hl:RwsOK l) (he:e.vals.length<=100000):Cr 158 [rws l,e.d] (.tup [rws (apply l e).1,i64 (apply l e).2]):=by
 have hrl:e.row.vals.length<=100000:=by
  unfold Ev.row;split
  ·exact he
  ·simp
 by_cases h1:valid l=0
 ·by_cases h2:e.chk=0
  ·by_cases h3:(ins l e.row).length<=64
   ·have ha:apply l e=(ins l e.row,0):=by simp only [apply];rw [if_neg (by omega),if_neg (by omega),if_neg (by omega)]
    rw [ha];refine .det (De Tryz.func158 [] [] ?_)
    repeat' first|refine S0 ?_;conv=>whnf|exact T0|exact T1|refine B1 ?_|refine B0 ?_|(refine M0 (r36put_ct l e.row hl hrl) ?_)|refine Br.bnot ?_|refine T2 ?_ ?_|refine K0 ?_|(refine M0 (g:=155) (r36valid_ct _ (by assumption)) ?_)|(refine M0 (g:=223) (r36check_ct _ (by omega)) ?_)|(refine M0 (g:=225) (r36row_ct _) ?_)
   ·have ha:apply l e=([],1):=by simp only [apply];rw [if_neg (by omega),if_neg (by omega),if_pos (by omega)]
    rw [ha];refine .det (De Tryz.func158 [] [] ?_)
    repeat' first|refine S0 ?_;conv=>whnf|exact T0|refine B1 ?_|(refine M0 (r36put_ct l e.row hl hrl) ?_)|refine Br.bnot ?_|refine T2 ?_ ?_|refine K0 ?_|(refine M0 (g:=155) (r36valid_ct _ (by assumption)) ?_)|(refine M0 (g:=223) (r36check_ct _ (by omega)) ?_)|(refine M0 (g:=225) (r36row_ct _) ?_)
  ·have ha:apply l e=([],e.chk):=by simp only [apply];rw [if_neg (by omega),if_pos (by omega)]
   rw [ha];refine .det (De Tryz.func158 [] [] ?_)
   repeat' first|refine S0 ?_;conv=>whnf|exact T0|refine B1 ?_|refine B0 ?_|(rfl)|refine Br.bnot ?_|refine T2 ?_ ?_|refine K0 ?_|(refine M0 (g:=155) (r36valid_ct _ (by assumption)) ?_)|(refine M0 (g:=223) (r36check_ct _ (by omega)) ?_)
 ·have ha:apply l e=([],valid l):=by simp only [apply];rw [if_pos (by omega)]
  rw [ha];refine .det (De Tryz.func158 [] [] ?_)
  repeat' first|refine S0 ?_;conv=>whnf|exact T0|refine B0 ?_|(rfl)|refine Br.bnot ?_|refine T2 ?_ ?_|refine K0 ?_|(refine M0 (g:=155) (r36valid_ct _ (by assumption)) ?_)
end Kx
open Go Sx Go.Proofs
namespace Kx
theorem rread_ct (s:Str):Ct Tryz.prog 278 [.str s] fun r outs=>∃ y m d,True/\r = .tup [dtD y m d,i64 (ern (rdB s) 4)]/\outs = []:=by
 refine .some3 (De Tryz.func278 ord278 [] ?_);by_cases h:s.length=8
 ·have e:rdB s=validD (pnum (s.take 4)) (pnum ((s.take 6).drop 4)) (pnum ((s.take s.length).drop 6)):=by rw [rdB,decide_eq_true h,Bool.true_and]
  repeat' first|refine S0 ?_;conv=>whnf|refine Vo ?_|refine B1 ?_|(refine M0 (rmade_ct _ _ _ (by simp;omega) (by simp;omega) (by simp;omega) _ rfl) ?_)|refine Br.bnot ?_|refine K1 ?_
  all_goals refine Lf3.by (pk (rdB s) (pnum (s.take 4))) (pk (rdB s) (pnum ((s.take 6).drop 4))) (pk (rdB s) (pnum ((s.take s.length).drop 6))) trivial ?_
  all_goals rw [e]
  all_goals
   repeat' first|refine S0 ?_;conv=>whnf|exact T0|refine T2 ?_ ?_
  all_goals rfl
 ·have e:rdB s=false:=by rw [rdB,decide_eq_false h,Bool.false_and]
  repeat' first|refine S0 ?_;conv=>whnf|refine B0 ?_|refine Br.bnot ?_
  all_goals refine Lf3.by 0 0 0 trivial ?_
  all_goals rw [e]
  all_goals
   repeat' first|refine S0 ?_;conv=>whnf|exact T0|refine T2 ?_ ?_
  all_goals rfl
theorem r12normal_ct (s:Sc) (hs:s.ok) (i:Nat) (hi:i<s.f.length) (x:Str) (hx:x.length<=10000):Cr 221 [s.d,i64 i,.str x] (.bool (nB s i x)):=by
 have h4:=hs.kd hi;have hro:=hs.ro;by_cases h0:x = []
 ·subst h0;rw [nB,if_pos rfl];refine .det (De Tryz.func221 [] [] ?_)
  repeat' first|refine S0 ?_;conv=>whnf|exact T0|refine B1 ?_|refine B0 ?_|(refine Br.dT rfl ?_)|refine Br.swap ?_|refine Br.bnot ?_|refine T2 ?_ ?_|refine K0 ?_|(refine M0 (g:=213) (rscheck_ct _ (by assumption)) ?_)
 ·rw [nB,if_neg h0]
  have hk4:s.kind i=1\/s.kind i=2\/s.kind i=3\/s.kind i=4:=by omega
  have hk' : (s.f.getD (i:Int).toNat ([],0)).2=s.kind i:=rfl
  rcases hk4 with hk | hk | hk | hk
  all_goals
   rw [hk] at hk' ⊢;refine .det (De Tryz.func221 [] [] ?_)
   repeat' first|refine S0 ?_;conv=>whnf|refine Vo ?_|exact T0|refine B1 ?_|refine B0 ?_|(refine M0 (rnormal_ct s.r x hro hx) ?_)|(refine M0 (rnormed_ct x hx) ?_)|(refine M0 (arnormal_ct s.r x hro hx) ?_)|(exact ern_true _)|refine Br.swap ?_|refine Br.bnot ?_|refine T2 ?_ ?_|refine K0 ?_|(refine M0 (g:=213) (rscheck_ct _ (by assumption)) ?_)|(refine Met.by (g:=278) (rread_ct _) ?_;rintro q outs ⟨y,m,d,_,rfl,rfl⟩)
  all_goals rfl
theorem r13check_ct (s:Sc) (hs:s.ok) (a b:Int) (v:List Str) (hn:v.length<=100000) (hv:∀ x ∈ v,x.length<=10000):Ct Tryz.prog 156 [s.d,.agg [i64 a,i64 b,strs v]] Er:=by
 have n5:=hs.n5;refine De Tryz.func156 ord156 [] ?_
 repeat' first|refine S0 ?_;conv=>whnf|refine B1 ?_|(exact Er.mk _)|(refine Br.d (fun h=>?_) fun h=>?_)|refine Br.swap ?_|refine Br.bnot ?_|refine K0 ?_|(refine M0 (g:=213) (rscheck_ct _ (by assumption)) ?_)
 refine Lw ord156 [] (α:=Nat) (fun i=>[(2,.loc 0 0),(3,.loc 1 0),(6,i64 i)]) (fun i=>[(0,.var s.l),(1,.var [i64 a,i64 b,strs v])]) 2 (fun i=>i<=v.length) (fun i=>v.length - i) ?_ ?_
 ·refine Again.by 0 (zle _) ?_
  repeat' first|refine S0 ?_;conv=>whnf|refine Vo ?_|exact T0
 ·intro i hi
  have hc:=fun h:(i:Int)<v.length=>r12normal_ct s hs i (by omega) (v.getD (i:Int).toNat []) (hv _ (getD_in (by omega)))
  repeat' first|refine S0 ?_;conv=>whnf|refine Vo ?_|refine W6 ?_|(exact Er.mk _)|(refine M0 (hc (by omega)) ?_)|(refine Br.d (fun h=>?_) fun h=>?_)|refine Br.bnot ?_|(refine Bm (fun h=>?_) fun h=>?_)|refine K1 ?_
  all_goals
   refine Again.by (i+1) ⟨by omega,by omega⟩ ?_
   repeat' first|refine S0 ?_;conv=>whnf|refine Vo ?_|exact T0
theorem rmakeF_ct (s:Sc) (hs:s.ok) (a b:Int) (hab:¬(1<=a/\a<=1048576/\1<=b/\b<=1048576)) (raws:List Str) (hn:raws.length=s.f.length) :
 Ct Tryz.prog 157 [s.d,i64 a,i64 b,strs raws] fun q outs=>∃ (x:Rc) (e:Int),e≠0/\q = .tup [x.d,i64 e]/\outs = []:=by
 refine .some2 (De Tryz.func157 ord157 [] ?_)
 repeat' first|refine S0 ?_;conv=>whnf|refine B1 ?_|(refine Br.d (fun h=>?_) fun h=>?_)|refine Br.swap ?_|refine Br.bnot ?_|refine K0 ?_|(refine M0 (g:=213) (rscheck_ct _ (by assumption)) ?_)
 all_goals refine Lf2.by Rc.z 7 (by decide) ?_
 all_goals
  repeat' first|refine S0 ?_;conv=>whnf|exact T0|refine T2 ?_ ?_
end Kx
