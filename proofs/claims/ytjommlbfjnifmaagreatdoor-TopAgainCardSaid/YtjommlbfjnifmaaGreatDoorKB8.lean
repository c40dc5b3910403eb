/-
  Persons of bonds.
  No condition beyond those written in each theorem.
-/
import Derived.Test.YtjommlbfjnifmaaGreatDoorKB7
import Derived.Test.YtjommlbfjnifmaaGreatDoorKB4
import Derived.Test.YtjommlbfjnifmaaGreatDoorKB6
import Derived.Test.YtjommlbfjnifmaaGreatDoorKB2
set_option linter.unusedSimpArgs false
set_option linter.unusedVariables false
set_option maxRecDepth 4000
open Go Sx Go.Proofs
namespace Kx
theorem way_ct (l:List Bd) (s:List Dz) (B:List Bd) (hB:BdV B):Cr 74 [rul l s,bds B] (.tup [rss (wayL stab (barB s) B),i64 0]):=by
 have hs:=small_ct B hB.n;unfold wayL;by_cases h8:(refsL B).length<=8
 ·have he:=exact_ct l s B hB h8;rw [decide_eq_true h8] at hs;rw [if_pos h8];generalize exactL (barB s) B=P at *;refine .det (De Tryz.func74 [] [] ?_)
  repeat' first|refine S0 ?_;conv=>whnf|exact T0|exact T1|with_reducible refine Br.tt ?_|(refine M0 hs ?_)|(refine M0 he ?_)|refine T2 ?_ ?_|refine K0 ?_
 ·have he:=greedy_ct l s B hB;rw [decide_eq_false h8] at hs;rw [if_neg h8];generalize greedyL stab (barB s) B=P at *;refine .det (De Tryz.func74 [] [] ?_)
  repeat' first|refine S0 ?_;conv=>whnf|exact T0|exact T1|with_reducible refine Br.ff ?_|(refine M0 hs ?_)|(refine M0 he ?_)|refine T2 ?_ ?_|refine K0 ?_
theorem usolve_ct (l:List Bd) (s:List Dz) (h:BdV l) (hs:decided s=0) (hsn:s.length<=4096):Cr 38 [bds l,des s] (.tup [rss (solveL stab l s),i64 (valL l (solveL stab l s)),i64 0]):=by
 have hP:=solve_good (sb:=stab) stab_in l s;have hlen:=Pers_len hP;have hRl:=h.len
 have hF:(flW (wayL stab (barB s)) (cbs l)).length<=12:=by
  have:(solveL stab l s).length=(flatL stab l s).length:=(srtP_perm _).length_eq;have e:flatL stab l s=flW (wayL stab (barB s)) (cbs l):=rfl;rw [<-e,<-this];omega
 have hd:(flW (wayL stab (barB s)) (cbs l)).Pairwise hdNe:=flat_hd stab_in l s
 have hmm:∀ p,p ∈ flW (wayL stab (barB s)) (cbs l)->p ∈ solveL stab l s:=fun p hp=>(srtP_perm _).mem_iff.2 hp
 have hne:∀ p ∈ flW (wayL stab (barB s)) (cbs l),p≠[]:=fun p hp=>hP.ne p (hmm p hp)
 have hpl:∀ p ∈ flW (wayL stab (barB s)) (cbs l),p.length<=24:=fun p hp=>by
  have:=nodup_len (hP.per p (hmm p hp)).asc.nodup (hP.sub p (hmm p hp));omega
 have hcl:(cbs l).length<=24:=by
  have:=tops_len (uni l) (refsL l) hRl;unfold cbs;simpa using this
 have hc:=solveG_ct 74 (wayL stab (barB s)) l s h hs hsn (fun B hB=>way_ct l s B (by
  obtain ⟨k,_,e⟩:=List.mem_map.1 hB
  exact h.sub _ e.symm)) hF hne hd hpl hcl
 have e:srtP (flW (wayL stab (barB s)) (cbs l))=solveL stab l s:=rfl;rw [e] at hc;generalize solveL stab l s=P at *;refine .det (De Tryz.func38 [] [] ?_)
 repeat' first|refine S0 ?_;conv=>whnf|exact T0|exact T1|(refine M0 hc ?_)|refine T2 ?_ ?_|refine K0 ?_
end Kx
open Go Sx Go.Proofs
namespace Kx
def kptB (x y:List Bd) (s t:List Dz) (i:Nat):Bool:=decide (touch ((prt y).getD i []) x=(cbs y).getD i []) && decide (wth ((prt y).getD i []) s=wth ((prt y).getD i []) t)
theorem kpt_ok {x y:List Bd} {s t:List Dz} {i:Nat} (hi:i<(cbs y).length) (h:kptB x y s t i=true):touch (refsL ((cbs y).getD i [])) x=(cbs y).getD i []/\∀ a ∈ refsL ((cbs y).getD i []),∀ b ∈ refsL ((cbs y).getD i []),barB s a b=barB t a b:=by
 unfold kptB at h;rw [bat,decide_eq_true_eq,decide_eq_true_eq] at h
 have e:(prt y).getD i []=refsL ((cbs y).getD i []):=by
  rw [prt_eq,gDe,List.getElem?_map,gDe,List.getElem?_eq_getElem hi];rfl
 rw [e] at h;exact ⟨h.1,wth_bars h.2⟩
theorem prt_len24 {y:List Bd} (hy:BdV y):∀ p ∈ prt y,p.length<=24:=fun p hp=>by
 unfold prt at hp;obtain ⟨k,_,rfl⟩:=List.mem_map.1 hp;exact Nat.le_trans (List.length_filter_le _ _) hy.len
theorem cbs_bdv {y:List Bd} (hy:BdV y):∀ B ∈ cbs y,BdV B:=fun B hB=>by
 unfold cbs at hB;obtain ⟨k,_,e⟩:=List.mem_map.1 hB;exact hy.sub _ e.symm
theorem bpre_app (F:Nat->Bool) (n:Nat) (f:Nat->List D) (hf:f (n - n) = [.bool (F n)]) (m:Nat) (hm:m=n+1):m=n+1/\∀ j,j<n+1->iteL (j<n) [.bool (F j)] (f (j - n)) = [.bool (F j)]:=by
 rw [Nat.sub_self] at hf;refine ⟨hm,fun j hj=>?_⟩;rw [show j - n=0 by omega,hf]
 show [D.bool (if j<n then F j else F n)]=_
 by_cases h:j<n
 ·rw [if_pos h]
 ·rw [if_neg h,show j=n by omega]
theorem bpre_lit (F:Nat->Bool) (n:Nat) (f:Nat->List D) (hf:f (n - n) = [.lit (F n)]) (m:Nat) (hm:m=n+1):m=n+1/\∀ j,j<n+1->iteL (j<n) [.bool (F j)] (f (j - n)) = [.bool (F j)]:=by
 rw [Nat.sub_self] at hf;refine ⟨hm,fun j hj=>?_⟩;rw [show j - n=0 by omega,hf]
 show [D.bool (if j<n then F j else F n)]=_
 by_cases h:j<n
 ·rw [if_pos h]
 ·rw [if_neg h,show j=n by omega]
def kpts (f:Nat->Bool) (n:Nat):D:=.tab 1 n fun i=>[.bool (f i)]
theorem divide_ct (x y:List Bd) (s t:List Dz) (P:List (List Rf)) (v:Int) (hx:BdV x) (hy:BdV y) (hs:decided s=0) (hsn:s.length<=4096) (ht:decided t=0) (htn:t.length<=4096) (hP:Pers (barB s) x (refsL x) P) (hPl:P.length<=24) :
 Cr 40 [sol x P v,des s,bds y,des t] (.tup [.agg [rss (prt y),bdss (cbs y),kpts (kptB x y s t) (cbs y).length],i64 0]):=by
 have hv:=uvalid_ct x s P hx hs hsn hP hPl;have hc:=ccheck_ct y hy;have ho:=cof_ct y hy;have hsp:=split_ct y hy
 have hlen:(prt y).length=(cbs y).length:=by rw [prt_eq,List.length_map]
 have hxn:=hx.n;have hyn:=hy.n
 have hpl:∀ i,((prt y).getD i []).length<=24:=fun i=>by
  rcases Nat.lt_or_ge i (prt y).length with h | h
  ·exact prt_len24 hy _ (getD_mem h)
  ·rw [gDe,List.getElem?_eq_none h];simp
 have hbl:∀ i,((cbs y).getD i []).length<=648:=fun i=>by
  rcases Nat.lt_or_ge i (cbs y).length with h | h
  ·exact (cbs_bdv hy _ (getD_mem h)).n
  ·rw [gDe,List.getElem?_eq_none h];simp
 have hcl:(cbs y).length<=24:=by
  have:=tops_len (uni y) (refsL y) hy.len;unfold cbs;simpa using this
 have hK:kptB x y s t=fun i=>decide (touch ((prt y).getD i []) x=(cbs y).getD i []) && decide (wth ((prt y).getD i []) s=wth ((prt y).getD i []) t):=rfl
 have htl:∀ p:List Rf,(touch p x).length<=648:=fun p=>Nat.le_trans (List.length_filter_le _ _) hxn
 have hwl:∀ (p:List Rf) (s:List Dz),s.length<=4096->(wth p s).length<=4096:=fun p s h=>by
  have h1:=cptQ_len (srtQ (cplL p s)) (srtQ (cplL p s)).length;rw [srtQ_len] at h1;have h2:=cpl_len p s;unfold wth;rw [srtQ_len];omega
 generalize kptB x y s t=K at *;generalize prt y=PT at *;generalize cbs y=C at *;refine .det (De Tryz.func40 ord40 [15] ?_)
 repeat' first|refine S0 ?_;conv=>whnf|refine B1 ?_|(refine M0 hv ?_)|(refine M0 hc ?_)|(refine M0 ho ?_)|(refine M0 hsp ?_)|refine Br.bnot ?_|refine K0 ?_|(refine M0 (g:=47) (decided_ct _) ?_)
 refine Lw ord40 [15] (α:=Nat) (fun i=>[(1,des s),(3,des t),(4,.loc 0 0),(8,.loc 1 0),(13,.loc 2 0),(51,rss PT),(52,i64 PT.length),(53,i64 i)]) (fun i=>[(0,.var [bds x,rss P,i64 v]),(1,.var [.nil,.nil,.nil]),(2,.var [rss PT,bdss C,.own 3]),(3,.arr 4 1 i fun j=>[.bool (K j)])]) 4 (fun i=>i<=PT.length) (fun i=>PT.length - i) ?_ ?_
 ·refine Again.by 0 (zle _) ?_
  repeat' first|refine S0 ?_;conv=>whnf|refine Vo ?_|exact T0
 ·intro i hi;by_cases hlt:i<PT.length
  ·have hpi:=hpl (i:Int).toNat;have hbi:=hbl (i:Int).toNat;have hti:=htl (PT.getD (i:Int).toNat []);have hw1:=hwl (PT.getD (i:Int).toNat []) s hsn;have hw2:=hwl (PT.getD (i:Int).toNat []) t htn;have hKi:K i=(decide (touch (PT.getD (i:Int).toNat []) x=C.getD (i:Int).toNat []) && decide (wth (PT.getD (i:Int).toNat []) s=wth (PT.getD (i:Int).toNat []) t)):=congrFun hK i
   repeat' first|refine S0 ?_;conv=>whnf|refine B1 ?_
   refine Cw ord40 [] (α:=Unit) (fun u=>[(1,des s),(3,des t),(4,.loc 0 0),(8,.loc 1 0),(13,.loc 2 0),(51,rss PT),(52,i64 PT.length),(53,i64 i)]) (fun u=>[(0,.var [bds x,rss P,i64 v]),(1,.var [.nil,.nil,.nil]),(2,.var [rss PT,bdss C,.own 3]),(3,.arr 4 1 (i+1) fun j=>[.bool (K j)])]) 4 (fun u=>True) ?_ ?_
   ·repeat' first|refine S0 ?_;conv=>whnf|refine Vo ?_|refine Vb ?_|(refine M0 (equalq_ct _ _ (by omega) (by omega)) ?_)|(refine Br.d (fun h=>?_) fun h=>?_)|refine K1 ?_|(refine M0 (g:=81) (bequal_ct _ _ (by omega) (by omega)) ?_)|(refine M0 (g:=82) (ends_ct _ _ (by omega) (by omega)) ?_)|(refine M0 (g:=84) (within_ct _ _ (by omega) (by omega)) ?_)
    all_goals
     refine Again.by () trivial ?_
     repeat' first|refine S0 ?_;conv=>whnf|refine Vo ?_|exact T0|refine Vm ?_ ?_
    ·refine bpre_app K i _ ?_ _ rfl;rw [hKi,decide_eq_true h,Bool.true_and,Nat.sub_self];rfl
    ·refine bpre_lit K i _ ?_ _ rfl;rw [hKi,decide_eq_false h,Bool.false_and,Nat.sub_self];rfl
   ·intro _ _
    repeat' first|refine S0 ?_;conv=>whnf|refine W6 ?_
    refine Again.by (i+1) ⟨by omega,by omega⟩ ?_
    repeat' first|refine S0 ?_;conv=>whnf|refine Vo ?_|exact T0
  ·obtain rfl:i=PT.length:=by omega
   repeat' first|refine S0 ?_;conv=>whnf|exact T0|exact T1|refine B0 ?_|refine T2 ?_ ?_
   all_goals exact ⟨hlen,fun _ _=>rfl⟩
end Kx
open Go Sx Go.Proofs
namespace Kx
theorem of_ct (l:List Bd) (s:List Dz) (h:BdV l) (hs:decided s=0) (hsn:s.length<=4096):Cr 16 [bds l,des s] (.tup [sol l (solveL stab l s) (valL l (solveL stab l s)),i64 0]):=by
 have hc:=usolve_ct l s h hs hsn;have hcl:=bclone_ct l (by have:=h.n;omega);generalize solveL stab l s=P at *;refine .det (De Tryz.func16 [] [] ?_)
 repeat' first|refine S0 ?_;conv=>whnf|exact T0|exact T1|refine B1 ?_|(refine M0 hc ?_)|(refine M0 hcl ?_)|refine Br.bnot ?_|refine T2 ?_ ?_|refine K0 ?_
theorem first2_ct (x y:List Rf) (hx:0<x.length) (hy:0<y.length):Cr 44 [rfs x,rfs y] (i64 (cmpR (hdR x) (hdR y))):=by
 refine .det (De Tryz.func44 ord44 [] ?_)
 repeat' first|refine S0 ?_;conv=>whnf|refine Vo ?_|exact T0|refine T2 ?_ ?_|refine K1 ?_|(refine M0 (g:=45) (rcompare_ct _ _) ?_)
 rfl
theorem fpersonsO_ct (P:List (List Rf)) (hP:P.length<=100) (hp:∀ p ∈ P,p.length<=100):Cr 86 [rss P,.fn 87 []] (rssO P):=by
 refine .det (De Tryz.func86 [] [] ?_)
 repeat' first|refine S0 ?_;conv=>whnf|refine Vb ?_|(refine NilB.mk fun b hb=>Step.out ?_)|exact T0|(refine Bm (fun h=>?_) fun h=>?_)|refine T2 ?_ ?_
 ·exact hb h
 ·refine Lw [] [] (α:=Nat) (fun i=>[(1,.fn 87 []),(5,.own 0),(13,rss P),(14,i64 P.length),(15,i64 i)]) (fun i=>[(0,.arr 128 1 P.length fun j=>prt1 P i j)]) 1 (fun i=>i<=P.length) (fun i=>P.length - i) ?_ ?_
  ·refine Again.by 0 (zle _) ?_
   repeat' first|refine S0 ?_;conv=>whnf|refine Vo ?_|exact T0|(refine Cho.l (Step.out ?_))|(exact ⟨rfl,fun _ _=>rfl⟩)|refine Vm ?_ ?_
  ·intro i hi;by_cases hlt:i<P.length
   ·have hl:=hp _ (getD_mem (z:=[]) hlt);have hc:=rlist_ct (P.getD (i:Int).toNat []) (show (P.getD i []).length<=1000 by omega)
    repeat' first|refine S0 ?_;conv=>whnf|refine Vo ?_|refine W6 ?_|refine B1 ?_|(refine M0 hc ?_)|refine K0 ?_
    refine Again.by (i+1) ⟨by omega,by omega⟩ ?_
    repeat' first|refine S0 ?_;conv=>whnf|refine Vo ?_|exact T0|(refine Cho.l (Step.out ?_))|refine Vm ?_ ?_
    refine ⟨rfl,fun j _=>?_⟩
    show iteL (j=i) (setL (prt1 P i i) 0 [rfs (P.getD i [])]) (prt1 P i j)=_
    obtain ⟨d,e⟩:=prt1_one P i;rw [e];rfl
   ·obtain rfl:i=P.length:=by omega
    repeat' first|refine S0 ?_;conv=>whnf|exact T0|refine B0 ?_|refine T2 ?_ ?_
    all_goals exact ⟨rfl,fun j hj=>prt1_keep P j _ hj⟩
theorem personsO_ct (P:List (List Rf)) (hP:P.length<=100) (hp:∀ p ∈ P,p.length<=100):Cr 42 [rss P] (rssO P):=by
 have hc:=fpersonsO_ct P hP hp;refine .det (De Tryz.func42 [] [] ?_)
 repeat' first|refine S0 ?_;conv=>whnf|exact T0|exact T1|(refine M0 hc ?_)|refine T2 ?_ ?_|refine K0 ?_
def gQ (K:Nat->Bool) (PT:List (List Rf)) (P:List (List Rf)) (W:Nat->List (List Rf)) (n:Nat):List (List Rf):=(List.range n).flatMap fun i=>if K i=true then P.filter (fun p=>decide (hdR p ∈ PT.getD i [])) else W i
theorem gQ_step (K:Nat->Bool) (PT:List (List Rf)) (P:List (List Rf)) (W:Nat->List (List Rf)) (n:Nat):gQ K PT P W (n+1)=gQ K PT P W n ++ if K n=true then P.filter (fun p=>decide (hdR p ∈ PT.getD n [])) else W n:=by
 unfold gQ;rw [List.range_succ,List.flatMap_append];simp
theorem gQ_eq (K:Nat->Bool) (PT:List (List Rf)) (P:List (List Rf)) (W:Nat->List (List Rf)) (g:Nat->List Rf):∀ n,(∀ i,i<n->PT.getD i []=g i)->gQ K PT P W n=(List.range n).flatMap fun i=>if K i=true then P.filter (fun p=>decide (hdR p ∈ g i)) else W i
 | 0,_=>rfl
 | n+1,h=>by
   rw [gQ_step,gQ_eq K PT P W g n fun i hi=>h i (by omega),h n (by omega),List.range_succ,List.flatMap_append];simp
theorem gQ_le (K:Nat->Bool) (PT:List (List Rf)) (P:List (List Rf)) (W:Nat->List (List Rf)) (n:Nat):∀ k,(gQ K PT P W n).length<=(gQ K PT P W (n+k)).length
 | 0=>Nat.le_refl _
 | k+1=>by
   have:=gQ_le K PT P W n k;rw [<-Nat.add_assoc,gQ_step,lap];omega
theorem flt_step (P:List (List Rf)) (f:List Rf->Bool) (j:Nat) (h:j<P.length):(P.take (j+1)).filter f=if f (P.getD j [])=true then (P.take j).filter f ++ [P.getD j []] else (P.take j).filter f:=by
 rw [take1 P [] j h,List.filter_append];split
 ·rename_i e;rw [List.filter_cons_of_pos e];rfl
 ·rename_i e;rw [List.filter_cons_of_neg e,List.filter_nil,List.append_nil]
theorem flt_le (P:List (List Rf)) (f:List Rf->Bool) (j:Nat):((P.take j).filter f).length<=(P.filter f).length:=by
 conv=>rhs;rw [<-List.take_append_drop j P]
 rw [List.filter_append,lap];omega
theorem again_ct (x y:List Bd) (s t:List Dz) (hx:BdV x) (hy:BdV y) (hs:decided s=0) (hsn:s.length<=4096) (ht:decided t=0) (htn:t.length<=4096) :
 Ct Tryz.prog 17 [sol x (solveL stab x s) (valL x (solveL stab x s)),des s,bds y,des t] fun q outs=>∃ n:Int,True/\q = .tup [sol y (solveL stab y t) (valL y (solveL stab y t)),i64 n,i64 0]/\outs = []:=by
 have hP:=solve_good (sb:=stab) stab_in x s;have hPl:=Pers_len hP;have hxl:=hx.len;have hdv:=divide_ct x y s t (solveL stab x s) (valL x (solveL stab x s)) hx hy hs hsn ht htn hP (by omega);have hcl:=bclone_ct y (by have:=hy.n;omega);have hY:=solve_good (sb:=stab) stab_in y t;have hYl:=Pers_len hY;have hyl:=hy.len
 have hpe:∀ i,i<(cbs y).length->(prt y).getD i []=refsL ((cbs y).getD i []):=fun i hi=>by
  rw [prt_eq,gDe,List.getElem?_map,gDe,List.getElem?_eq_getElem hi];rfl
 have hag:srtP (gQ (kptB x y s t) (prt y) (solveL stab x s) (fun i=>solveL stab ((cbs y).getD i []) t) (cbs y).length)=solveL stab y t:=by
  rw [<-again_eq (sb:=stab) stab_in (x:=x) (s:=s) (kptB x y s t) fun i hi hk=>kpt_ok hi hk];rw [gQ_eq _ _ _ _ (fun i=>refsL ((cbs y).getD i [])) _ hpe]
 have hso:∀ i,i<(cbs y).length->Cr 38 [bds ((cbs y).getD i []),des t] (.tup [rss (solveL stab ((cbs y).getD i []) t),i64 (valL ((cbs y).getD i []) (solveL stab ((cbs y).getD i []) t)),i64 0]):=fun i hi=>usolve_ct _ _ (cbs_bdv hy _ (getD_mem hi)) ht htn
 have hpl:∀ i,i<(prt y).length->((prt y).getD i []).length<=24:=fun i h=>prt_len24 hy _ (getD_mem h)
 have hlen:(prt y).length=(cbs y).length:=by rw [prt_eq,List.length_map]
 have hcn:(cbs y).length<=24:=by
  have:=tops_len (uni y) (refsL y) hyl;unfold cbs;simpa using this
 have hyn:=hy.n;have hyw:=hy.w;have hPne:=hP.ne
 have hPp:∀ p ∈ solveL stab x s,p.length<=24:=fun p hp=>by
  have:=nodup_len (hP.per p hp).asc.nodup (hP.sub p hp);omega
 have hYne:=hY.ne
 have hYp:∀ p ∈ solveL stab y t,p.length<=24:=fun p hp=>by
  have:=nodup_len (hY.per p hp).asc.nodup (hY.sub p hp);omega
 have hYo:(solveL stab y t).Pairwise hdNe:=List.Pairwise.imp (fun h=>ltR_ne h) hY.ord
 have hW:∀ i,i<(cbs y).length->(solveL stab ((cbs y).getD i []) t).length<=1000:=fun i hi=>by
  have hb:=cbs_bdv hy _ (getD_mem (z:=[]) hi);have h1:=Pers_len (solve_good (sb:=stab) stab_in ((cbs y).getD i []) t);have h2:=hb.len;omega
 generalize solveL stab y t=Z at *;generalize solveL stab x s=P at *;generalize kptB x y s t=K at *;generalize valL x P=vx at *;generalize prt y=PT at *;generalize hCC:cbs y=C at *;obtain ⟨W,hWW⟩:∃ W:Nat->List (List Rf),(fun i=>solveL stab (C.getD i []) t)=W:=⟨_,rfl⟩
 have hWi:∀ i,solveL stab (C.getD i []) t=W i:=fun i=>congrFun hWW i
 rw [hWW] at hag;simp only [hWi] at hso hW;clear hWW hWi;obtain ⟨vw,hvw⟩:∃ vw:Nat->Int,(fun i=>valL (C.getD i []) (W i))=vw:=⟨_,rfl⟩
 have hvi:∀ i,valL (C.getD i []) (W i)=vw i:=fun i=>congrFun hvw i
 simp only [hvi] at hso;clear hvw hvi
 have hQp:Z.Perm (gQ K PT P W C.length):=by rw [<-hag];exact srtP_perm _
 have hQl:(gQ K PT P W C.length).length<=12:=by rw [<-hQp.length_eq];omega
 have hQi:∀ i,i<=C.length->(gQ K PT P W i).length<=12:=fun i hi=>by
  have:=gQ_le K PT P W i (C.length - i);rw [show i+(C.length - i)=C.length by omega] at this;omega
 have hsr:=sortp_ct 44 (gQ K PT P W C.length) first2_ct hQl (fun p hp=>hYne p (hQp.mem_iff.2 hp)) ((List.Perm.pairwise_iff (fun h=>hdNe_symm h) hQp).1 hYo);have hpo:=personsO_ct (gQ K PT P W C.length) (by omega) (fun p hp=>by have:=hYp p (hQp.mem_iff.2 hp);omega);rw [hag] at hsr;have hva:=value_ct y Z hyn hyw (by omega) (fun p hp=>by have:=hYp p hp;omega);generalize valL y Z=vz at *;refine .some (De Tryz.func17 [] [] ?_)
 repeat' first|refine S0 ?_;conv=>whnf|refine B1 ?_|(refine M0 hdv ?_)|(refine M0 hcl ?_)|refine Br.bnot ?_|refine K0 ?_
 refine Lw [] [] (α:=Nat × Int) (fun z=>[(3,des t),(4,.loc 0 0),(8,.loc 1 0),(11,.loc 2 0),(13,.loc 3 0),(14,i64 z.2),(38,rss PT),(39,i64 PT.length),(40,i64 z.1)]) (fun z=>[(0,.var [bds x,rss P,i64 vx]),(1,.var [.nil,.nil,i64 0]),(2,.var [rss PT,bdss C,kpts K C.length]),(3,.var [bds y,.own 4,i64 0]),(4,.arr 128 1 (gQ K PT P W z.1).length fun j=>[rfs ((gQ K PT P W z.1).getD j [])])]) 5 (fun z=>z.1<=PT.length/\0<=z.2/\z.2<=(z.1:Int)) (fun z=>PT.length - z.1) ?_ ?_
 ·refine Again.by (0,0) ⟨zle _,Int.le_refl _,Int.le_refl _⟩ ?_
  repeat' first|refine S0 ?_;conv=>whnf|refine Vo ?_|exact T0|(rfl)|refine Vm ?_ ?_
 ·intro ⟨i,n⟩ ⟨hi,hn0,hn1⟩;dsimp only at hi hn0 hn1 ⊢;by_cases hlt:i<PT.length
  ·have hst:=gQ_step K PT P W i;have hQ1:=hQi i (by omega);have hQ2:=hQi (i+1) (by omega);rw [hst,lap] at hQ2;have hpi:=hpl (i:Int).toNat hlt;by_cases hk:K i=true
   ·rw [if_pos hk] at hst hQ2
    repeat' first|refine S0 ?_;conv=>whnf|refine Vo ?_|refine B1 ?_|(refine Br.mk (fun h=>Step.out ?_) (fun h=>absurd (h.symm.trans hk) Bool.noConfusion))
    refine Lw [] [] (α:=Nat) (fun j=>[(3,des t),(4,.loc 0 0),(8,.loc 1 0),(11,.loc 2 0),(13,.loc 3 0),(14,i64 n),(16,rfs (PT.getD (i:Int).toNat [])),(38,rss PT),(39,i64 PT.length),(40,i64 i),(51,rss P),(52,i64 P.length),(53,i64 j)]) (fun j=>[(0,.var [bds x,rss P,i64 vx]),(1,.var [.nil,.nil,i64 0]),(2,.var [rss PT,bdss C,kpts K C.length]),(3,.var [bds y,.own 4,i64 0]),(4,.arr 128 1 (gQ K PT P W i ++ (P.take j).filter fun p=>decide (hdR p ∈ PT.getD i [])).length fun q=>[rfs ((gQ K PT P W i ++ (P.take j).filter fun p=>decide (hdR p ∈ PT.getD i [])).getD q [])])]) 5 (fun j=>j<=P.length) (fun j=>P.length - j) ?_ ?_
    ·refine Again.by 0 (zle _) ?_
     rw [List.take_zero,List.filter_nil,List.append_nil]
     repeat' first|refine S0 ?_;conv=>whnf|refine Vo ?_|exact T0
    ·intro j hj;have hfl:=flt_le P (fun p=>decide (hdR p ∈ PT.getD i [])) j;by_cases hjl:j<P.length
     ·have hfs:=flt_step P (fun p=>decide (hdR p ∈ PT.getD i [])) j hjl;have hp0:0<(P.getD (j:Int).toNat []).length:=List.length_pos_iff.2 (hPne _ (getD_mem (z:=[]) hjl))
      have hll:(gQ K PT P W i ++ (P.take j).filter fun p=>decide (hdR p ∈ PT.getD i [])).length<=12:=by rw [lap];omega
      repeat' first|refine S0 ?_;conv=>whnf|refine Vo ?_|refine Vb ?_|refine W6 ?_|refine B1 ?_|(refine Br.d (fun h=>?_) fun h=>?_)|refine K0 ?_|(refine M0 (g:=41) (rcontains_ct _ _ (by omega)) ?_)
      ·refine Again.by (j+1) ⟨by omega,by omega⟩ ?_
       rw [hfs.trans (if_pos (decide_eq_true (show hdR (P.getD j []) ∈ PT.getD i [] from h))),<-List.append_assoc]
       repeat' first|refine S0 ?_;conv=>whnf|refine Vo ?_|exact T0|refine Vm ?_ ?_
       all_goals exact app1 (fun x:List Rf=>[rfs x]) [] ite_rfs1 _ _
      ·refine Again.by (j+1) ⟨by omega,by omega⟩ ?_
       rw [hfs.trans (if_neg (fun e=>h (of_decide_eq_true e)))]
       repeat' first|refine S0 ?_;conv=>whnf|refine Vo ?_|exact T0
     ·obtain rfl:j=P.length:=by omega
      rw [List.take_length,<-hst]
      repeat' first|refine S0 ?_;conv=>whnf|refine W6 ?_|refine B0 ?_
      refine Again.by (i+1,n) ⟨⟨by dsimp only;omega,hn0,by dsimp only;omega⟩,by dsimp only;omega⟩ ?_
      repeat' first|refine S0 ?_;conv=>whnf|refine Vo ?_|exact T0
   ·have hs2:=hso i (by omega);rw [if_neg hk] at hst hQ2
    have hk2:K i=false:=by simpa using hk
    repeat' first|refine S0 ?_;conv=>whnf|refine Vo ?_|refine Vb ?_|refine W6 ?_|refine B1 ?_|(refine Br.mk (fun h=>absurd (h.symm.trans hk2) Bool.noConfusion) (fun h=>Step.out ?_))|(refine M0 hs2 ?_)|refine K0 ?_
    refine Again.by (i+1,n+1) ⟨⟨by dsimp only;omega,by dsimp only;omega,by dsimp only;omega⟩,by dsimp only;omega⟩ ?_
    rw [hst]
    repeat' first|refine S0 ?_;conv=>whnf|refine Vo ?_|exact T0|refine Vm ?_ ?_
    all_goals exact rss_app2 _ _ _ (fun _=>rfl) _ _ rfl rfl
  ·obtain rfl:i=PT.length:=by omega
   rw [hlen] at *
   repeat' first|(refine CallOK.ctF (g:=42) (Step.out ?_))|(refine CallOK.ioL1 (g:=43) (Step.out ?_))|refine S0 ?_;conv=>whnf|exact T0|exact noSh_int _ _|exact T1|refine B0 ?_|(refine M0 hpo ?_)|(refine M0 hsr ?_)|(refine M0 hva ?_)|(refine Lf.by n trivial ?_)|refine T2 ?_ ?_|refine K0 ?_|refine Vm ?_ ?_
end Kx
open Go Sx Go.Proofs
namespace Kx
theorem few_all:∀ i,i<6->∀ j,j<6->-1<=dcE ⟨64,[arrV ((i:Nat):Int)]⟩ ⟨64,[arrV ((j:Nat):Int)]⟩/\dcE ⟨64,[arrV ((i:Nat):Int)]⟩ ⟨64,[arrV ((j:Nat):Int)]⟩<=1000:=by decide +kernel
theorem few_bd {a b:Bs} (ha:a.few) (hb:b.few) : -1<=dcE a b/\dcE a b<=1000:=by
 rcases ha with rfl | ⟨k,hk,rfl⟩
 ·have:dcE Bs.z b = -1:=if_pos (.inl rfl);omega
 ·rcases hb with rfl | ⟨m,hm,rfl⟩
  ·have:dcE ⟨64,[arrV k]⟩ Bs.z = -1:=if_pos (.inr rfl);omega
  ·have:=few_all k.toNat (by omega) m.toNat (by omega);rw [Int.toNat_of_nonneg hk.1,Int.toNat_of_nonneg hm.1] at this;exact this
theorem one_ok (x:Int):(Bs.mk 64 [x]).ok:=⟨.inl rfl,rfl⟩
theorem bothz1_ct (b:Bs):Cr 159 [Bs.z.d,b.d,.fn 160 []] (.tup [.agg [i64 0,.nil],i64 8]):=by
 refine .det (De Tryz.func159 ord159 [] ?_)
 repeat' first|refine S0 ?_;conv=>whnf|exact T0|with_reducible refine Br.ff ?_|(refine M0 bvalid0_ct ?_)|refine Br.swap ?_|refine Br.bnot ?_|refine T2 ?_ ?_|refine K0 ?_
theorem bothz2_ct (x:Int):Cr 159 [(Bs.mk 64 [x]).d,Bs.z.d,.fn 160 []] (.tup [.agg [i64 0,.nil],i64 8]):=by
 refine .det (De Tryz.func159 ord159 [] ?_)
 repeat' first|refine S0 ?_;conv=>whnf|exact T0|with_reducible refine Br.tt ?_|with_reducible refine Br.ff ?_|(refine M0 (bvalid_ct _ (one_ok x)) ?_)|(refine M0 bvalid0_ct ?_)|refine Br.swap ?_|refine Br.bnot ?_|refine T2 ?_ ?_|refine K0 ?_
theorem andz1_ct (b:Bs):Cr 106 [Bs.z.d,b.d] (.tup [.agg [i64 0,.nil],i64 8]):=by
 refine .det (De Tryz.func106 [] [] ?_)
 repeat' first|refine S0 ?_;conv=>whnf|exact T0|(refine M0 (bothz1_ct b) ?_)|refine T2 ?_ ?_|refine K0 ?_
theorem andz2_ct (x:Int):Cr 106 [(Bs.mk 64 [x]).d,Bs.z.d] (.tup [.agg [i64 0,.nil],i64 8]):=by
 refine .det (De Tryz.func106 [] [] ?_)
 repeat' first|refine S0 ?_;conv=>whnf|exact T0|(refine M0 (bothz2_ct x) ?_)|refine T2 ?_ ?_|refine K0 ?_
theorem diceF_ct (a b:Bs) (ha:a.few) (hb:b.few):Cr 60 [a.d,b.d] (i64 (dcE a b)):=by
 rcases ha with rfl | ⟨k,hk,rfl⟩
 ·have e:dcE Bs.z b = -1:=if_pos (.inl rfl);rw [e];refine .det (De Tryz.func60 ord60 [] ?_)
  repeat' first|refine S0 ?_;conv=>whnf|exact T0|refine B0 ?_|(refine M0 (andz1_ct b) ?_)|refine Br.bnot ?_|refine T2 ?_ ?_|refine K0 ?_
 ·rcases hb with rfl | ⟨m,hm,rfl⟩
  ·have e:dcE ⟨64,[arrV k]⟩ Bs.z = -1:=if_pos (.inr rfl);rw [e];generalize arrV k=x;refine .det (De Tryz.func60 ord60 [] ?_)
   repeat' first|refine S0 ?_;conv=>whnf|exact T0|refine B0 ?_|(refine M0 (andz2_ct x) ?_)|refine Br.bnot ?_|refine T2 ?_ ?_|refine K0 ?_
  ·have e:dcE ⟨64,[arrV k]⟩ ⟨64,[arrV m]⟩=dice ⟨64,[arrV k]⟩ ⟨64,[arrV m]⟩:=if_neg (by show ¬((64:Int)=0\/(64:Int)=0);omega);rw [e];exact dice_ct _ _ (one_ok _) (one_ok _) rfl
theorem pre_app (F:Nat->Int) (n:Nat) (f:Nat->List D) (hf:f 0 = [i64 (F n)]) (m:Nat) (hm:m=n+1):m=n+1/\∀ j,j<n+1->iteL (j<n) [i64 (F j)] (f (j - n)) = [i64 (F j)]:=by
 refine ⟨hm,fun j hj=>?_⟩;rw [show j - n=0 by omega,hf]
 show [i64 (if j<n then F j else F n)]=_
 by_cases h:j<n
 ·rw [if_pos h]
 ·rw [if_neg h,show j=n by omega]
theorem comparef_ct (a b:En) (n:Nat) (h1:1<=n) (h5:n<=5) (hna:a.f.length=n) (hn:b.f.length=n) (ha:∀ x ∈ a.f,x.few) (hb:∀ x ∈ b.f,x.few) :
 Cr 24 [a.d,b.d] (.tup [.tab 1 n fun i=>[i64 (dcE (a.f.getD i Bs.z) (b.f.getD i Bs.z))],i64 0]):=by
 subst hna;refine .det (De Tryz.func24 ord24 [] ?_)
 repeat' first|refine S0 ?_;conv=>whnf|with_reducible refine Br.tt ?_|refine B1 ?_|refine Br.swap ?_|refine Br.bnot ?_|refine K0 ?_|(refine M0 (g:=59) (sfields_ct _ (by omega)) ?_)
 refine Lw ord24 [] (α:=Nat) (fun i=>[(2,.loc 0 0),(3,.loc 1 0),(6,.own 2),(24,bss a.f),(25,i64 a.f.length),(26,i64 i)]) (fun i=>[(0,.var a.l),(1,.var b.l),(2,.arr 3 1 i fun j=>[i64 (dcE (a.f.getD j Bs.z) (b.f.getD j Bs.z))])]) 3 (fun i=>i<=a.f.length) (fun i=>a.f.length - i) ?_ ?_
 ·refine Again.by 0 (zle _) ?_
  repeat' first|refine S0 ?_;conv=>whnf|refine Vo ?_|exact T0
 ·intro i hi;by_cases hlt:i<a.f.length
  ·have hd:=diceF_ct (a.f.getD (i:Int).toNat Bs.z) (b.f.getD (i:Int).toNat Bs.z) (ha _ (getD_mem hlt)) (hb _ (getD_mem (by rw [tnc];omega)))
   repeat' first|refine S0 ?_;conv=>whnf|refine Vo ?_|refine Vb ?_|refine W6 ?_|refine B1 ?_|(refine M0 hd ?_)|refine K1 ?_
   refine Again.by (i+1) ⟨by omega,by omega⟩ ?_
   repeat' first|refine S0 ?_;conv=>whnf|refine Vo ?_|exact T0|refine Vm ?_ ?_
   all_goals exact pre_app (fun j=>dcE (a.f.getD j Bs.z) (b.f.getD j Bs.z)) i _ (by rw [tnc];rfl) _ rfl
  ·obtain rfl:i=a.f.length:=by omega
   repeat' first|refine S0 ?_;conv=>whnf|exact T0|exact T1|refine B0 ?_|refine T2 ?_ ?_
   all_goals exact ⟨rfl,fun _ _=>rfl⟩
end Kx
open Go Sx Go.Proofs
namespace Kx
theorem out_bd (p:Int) (hp:0<=p) (n:Nat) (hn:n<=5):outC p n=0\/outC p n=1\/outC p n=2:=by
 have hw:0<pwr n:=by
  have:∀ k,k<6->0<pwr k:=by decide
  exact this n (by omega)
 have h1:0<=p.tdiv (pwr n):=Int.tdiv_nonneg hp (by omega);have h2:=Int.tmod_nonneg 3 h1;have h3:=Int.tmod_lt_of_pos (p.tdiv (pwr n)) (show (0:Int)<3 by decide);unfold outC;omega
theorem counts_ct (w:Wt) {fl:Nat} (h:w.ok fl) (f:Nat) (hf:f<fl):Cr 172 [w.dd,i64 f] (.vec 3 (fun i=>i64 (cwt (w.d.getD f 0) (w.a.getD f 0) i))):=by
 have hna:=h.na;have hnd:=h.nd;have hfl:=h.f;refine .det (De Tryz.func172 ord172 [] ?_)
 repeat' first|refine S0 ?_;conv=>whnf|refine Vo ?_|exact T0|refine T2 ?_ ?_|refine Vm ?_ ?_
 all_goals
  intro i hi
  match i,hi with
  | 0,_=>rfl| 1,_=>rfl| 2,_=>rfl
theorem score1_ct (d a o:Int) (ho:o=0\/o=1\/o=2):Cr 122 [.vec 3 (fun i=>i64 (cwt d a i)),i64 o] (i64 (cwt d a o)):=by
 refine .det (De Tryz.func122 [] [] ?_)
 repeat' first|refine S0 ?_;conv=>whnf|refine Vo ?_|exact T0|refine T2 ?_ ?_|refine Vm ?_ ?_
 ·rcases ho with rfl | rfl | rfl<;>decide
 ·rcases ho with rfl | rfl | rfl<;>rfl
theorem wsum_ct (w:Wt) {fl:Nat} (h:w.ok fl) (p:Int) (hp:0<=p/\p<pwr fl):Cr 121 [w.dd,i64 p,.fn 122 []] (.tup [i64 (scN w p fl),i64 0]):=by
 have hna:=h.na;have hnd:=h.nd;have hfl:=h.f;have hck:=wcheck_ct w h;have hdg:=digits_ct p fl (by omega) hp;rw [<-hna] at hdg;refine .det (De Tryz.func121 [] [] ?_)
 repeat' first|refine S0 ?_;conv=>whnf|refine B1 ?_|(refine M0 hck ?_)|(refine M0 hdg ?_)|refine Br.bnot ?_|refine K0 ?_
 refine Lw [] [] (α:=Nat) (fun i=>[(2,.fn 122 []),(3,.loc 0 0),(11,i64 (scN w p i)),(32,.tab 1 w.a.length fun i=>[i64 (outC p i)]),(33,i64 w.a.length),(34,i64 i)]) (fun i=>[(0,.var [i64 w.p,ints w.a,ints w.d])]) 1 (fun i=>i<=w.a.length) (fun i=>w.a.length - i) ?_ ?_
 ·refine Again.by 0 (zle _) ?_
  repeat' first|refine S0 ?_;conv=>whnf|refine Vo ?_|exact T0|(rfl)|(refine Cho.l (Step.out ?_))|refine Vm ?_ ?_
 ·intro i hi;by_cases hlt:i<w.a.length
  ·have hco:=counts_ct w h i (by omega);have hs1:=score1_ct (w.d.getD i 0) (w.a.getD i 0) (outC p i) (out_bd p hp.1 i (by omega));have hb:=sc_bd h p i (by omega);have hb2:=cwt_bd (o:=outC p i) (h.d (w.d.getD i 0) (getD_in (by omega))) (h.a (w.a.getD i 0) (getD_in (by omega)));have hst:scN w p (i+1)=scN w p i+cwt (w.d.getD i 0) (w.a.getD i 0) (outC p i):=rfl;generalize scN w p=F at *
   repeat' first|refine S0 ?_;conv=>whnf|refine Vo ?_|refine W6 ?_|refine B1 ?_|(refine M0 hco ?_)|(refine M0 hs1 ?_)|refine K0 ?_|refine Vm ?_ ?_
   ·exact fun _ _=>rfl
   ·refine Again.by (i+1) ⟨by omega,by omega⟩ ?_
    rw [hst]
    repeat' first|refine S0 ?_;conv=>whnf|refine Vo ?_|exact T0|(refine Cho.l (Step.out ?_))|refine Vm ?_ ?_
  ·obtain rfl:i=w.a.length:=by omega
   rw [hna]
   repeat' first|refine S0 ?_;conv=>whnf|exact T0|refine B0 ?_|refine T2 ?_ ?_
theorem score_ct (w:Wt) {fl:Nat} (h:w.ok fl) (p:Int) (hp:0<=p/\p<pwr fl):Cr 71 [w.dd,i64 p] (.tup [i64 (scN w p fl),i64 0]):=by
 have hc:=wsum_ct w h p hp;refine .det (De Tryz.func71 [] [] ?_)
 repeat' first|refine S0 ?_;conv=>whnf|exact T0|(refine M0 hc ?_)|refine T2 ?_ ?_|refine K0 ?_
end Kx
open Go Sx Go.Proofs
namespace Kx
theorem nonez_ct:Cr 170 [Bs.z.d] (.bool true):=by
 refine .det (De Tryz.func170 [] [] ?_)
 repeat' first|refine S0 ?_;conv=>whnf|exact T0|(refine Br.d (fun h=>?_) fun h=>?_)|refine T2 ?_ ?_
theorem noneo_ct (x:Int):Cr 170 [(Bs.mk 64 [x]).d] (.bool false):=by
 refine .det (De Tryz.func170 [] [] ?_)
 repeat' first|refine S0 ?_;conv=>whnf|exact T0|(refine Br.d (fun h=>?_) fun h=>?_)|refine T2 ?_ ?_
 exact absurd (show (64:Int)=0 from h) (by decide)
theorem validF1_ct (b:Bs) (hb:b.few):Cr 169 [b.d] (.bool false):=by
 rcases hb with rfl | ⟨k,hk,rfl⟩
 ·refine .det (De Tryz.func169 [] [] ?_)
  repeat' first|refine S0 ?_;conv=>whnf|exact T0|with_reducible refine Br.tt ?_|(refine M0 nonez_ct ?_)|refine Br.bnot ?_|refine T2 ?_ ?_|refine K0 ?_
 ·generalize arrV k=x;refine .det (De Tryz.func169 [] [] ?_)
  repeat' first|refine S0 ?_;conv=>whnf|exact T0|with_reducible refine Br.ff ?_|(refine M0 (noneo_ct x) ?_)|(refine M0 (bvalid_ct _ (one_ok x)) ?_)|refine Br.bnot ?_|refine T2 ?_ ?_|refine K0 ?_
theorem indexBF_ct (l:List Bs) (hn:l.length<=100) (h:∀ b ∈ l,b.few):Cr 208 [bss l,.fn 169 []] (i64 (-1)):=by
 refine .det (De Tryz.func208 [] [] ?_)
 repeat' first|refine S0 ?_;conv=>whnf
 refine Lw [] [] (α:=Nat) (fun i=>[(0,bss l),(1,.fn 169 []),(7,i64 l.length),(8,i64 i)]) (fun i=>[]) 0 (fun i=>i<=l.length) (fun i=>l.length - i) ?_ ?_
 ·refine Again.by 0 (zle _) ?_
  repeat' first|refine S0 ?_;conv=>whnf|refine Vo ?_|exact T0|(refine Cho.l (Step.out ?_))|refine Vm ?_ ?_
 ·intro i hi;by_cases hlt:i<l.length
  ·have hc:=validF1_ct (l.getD (i:Int).toNat Bs.z) (h _ (getD_mem hlt))
   repeat' first|refine S0 ?_;conv=>whnf|refine Vo ?_|refine W6 ?_|with_reducible refine Br.ff ?_|refine B1 ?_|(refine M0 hc ?_)|refine K0 ?_
   refine Again.by (i+1) ⟨by omega,by omega⟩ ?_
   repeat' first|refine S0 ?_;conv=>whnf|refine Vo ?_|exact T0|(refine Cho.l (Step.out ?_))|refine Vm ?_ ?_
  ·repeat' first|refine S0 ?_;conv=>whnf|exact T0|refine B0 ?_|refine T2 ?_ ?_
theorem containsBF_ct (l:List Bs) (hn:l.length<=100) (h:∀ b ∈ l,b.few):Cr 168 [bss l,.fn 169 []] (.bool false):=by
 have hc:=indexBF_ct l hn h;refine .det (De Tryz.func168 [] [] ?_)
 repeat' first|refine S0 ?_;conv=>whnf|exact T0|(refine M0 hc ?_)|refine T2 ?_ ?_|refine K0 ?_
theorem evalidF_ct (id v:Int) (bs:List Bs) (hi:1<=id/\id<=8) (hv:1<=v/\v<=2) (hn:1<=bs.length/\bs.length<=5) (h:∀ b ∈ bs,b.few):Cr 120 [.agg [i64 id,i64 v,bss bs]] (.bool true):=by
 have hc:=containsBF_ct bs (by omega) h;refine .det (De Tryz.func120 [] [] ?_)
 repeat' first|refine S0 ?_;conv=>whnf|exact T0|refine B1 ?_|(refine M0 hc ?_)|refine T2 ?_ ?_|refine K0 ?_
theorem shcheck_ct (fl ky:Nat) (l:List Sn) (hfl:1<=fl/\fl<=3) (hky:1<=ky/\ky<=2) (h:ShV fl ky l):Cr 70 [i64 fl,i64 ky,sns l] (i64 0):=by
 have hn:=h.n;refine .det (De Tryz.func70 ord70 [] ?_)
 repeat' first|refine S0 ?_;conv=>whnf|refine B0 ?_|refine Br.swap ?_
 refine Lw ord70 [] (α:=Nat) (fun i=>[(0,i64 fl),(1,i64 ky),(2,sns l),(28,sns l),(29,i64 l.length),(30,i64 i)]) (fun i=>[]) 0 (fun i=>i<=l.length) (fun i=>l.length - i) ?_ ?_
 ·refine Again.by 0 (zle _) ?_
  repeat' first|refine S0 ?_;conv=>whnf|refine Vo ?_|exact T0
 ·intro i hi;by_cases hlt:i<l.length
  ·have hs:=h.s (l.getD (i:Int).toNat Sn.z) (getD_mem hlt);have hb:=hs.b;have hh:=hs.h;have ht:=hs.t;have hv:=evalidF_ct (l.getD (i:Int).toNat Sn.z).id (l.getD (i:Int).toNat Sn.z).v (l.getD (i:Int).toNat Sn.z).b (by have:=hs.i;omega) hs.v (by omega) hs.f
   have hp:0<(i:Int)->(l.getD ((i:Int) - 1).toNat Sn.z).id<(l.getD (i:Int).toNat Sn.z).id:=fun h0=>by
    have e1:((i:Int) - 1).toNat=i - 1:=by omega
    rw [e1,tnc,gDe,gDe,List.getElem?_eq_getElem hlt,List.getElem?_eq_getElem (show i - 1<l.length by omega)];exact List.pairwise_iff_getElem.1 h.p (i - 1) i (by omega) hlt (by omega)
   repeat' first|refine S0 ?_;conv=>whnf|refine Vo ?_|refine W6 ?_|with_reducible refine Br.tt ?_|refine B1 ?_|refine B0 ?_|(refine M0 hv ?_)|(refine Br.d (fun h=>?_) fun h=>?_)|refine Br.swap ?_|refine Br.bnot ?_|refine K0 ?_
   all_goals first
    | (have:=hp (by omega);exfalso;omega)
    | (refine Again.by (i+1) ⟨by omega,by omega⟩ ?_)
   all_goals
    repeat' first|refine S0 ?_;conv=>whnf|refine Vo ?_|exact T0
  ·repeat' first|refine S0 ?_;conv=>whnf|exact T0|refine B0 ?_|refine T2 ?_ ?_
theorem idxI_ct (l:List Int) (hl:l.length<=1000) (h:∀ x ∈ l,0<=x/\x<=1000):Cr 119 [ints l,.fn 69 []] (i64 (-1)):=by
 have hc:∀ x:Int,0<=x/\x<=1000->Cr 69 [i64 x] (.bool false):=fun x hx=>by
  refine .det (De Tryz.func69 [] [] ?_)
  repeat' first|refine S0 ?_;conv=>whnf|exact T0|refine B0 ?_|refine Br.swap ?_|refine T2 ?_ ?_
  all_goals exact decide_eq_false (by omega)
 refine .det (De Tryz.func119 [] [] ?_)
 repeat' first|refine S0 ?_;conv=>whnf
 refine Lw [] [] (α:=Nat) (fun i=>[(0,ints l),(1,.fn 69 []),(7,i64 l.length),(8,i64 i)]) (fun i=>[]) 0 (fun i=>i<=l.length) (fun i=>l.length - i) ?_ ?_
 ·refine Again.by 0 (zle _) ?_
  repeat' first|refine S0 ?_;conv=>whnf|refine Vo ?_|exact T0|(refine Cho.l (Step.out ?_))|refine Vm ?_ ?_
 ·intro i hi;by_cases hlt:i<l.length
  ·have hx:=hc (l.getD (i:Int).toNat 0) (h _ (getD_mem hlt))
   repeat' first|refine S0 ?_;conv=>whnf|refine Vo ?_|refine W6 ?_|with_reducible refine Br.ff ?_|refine B1 ?_|(refine M0 hx ?_)|refine K0 ?_
   refine Again.by (i+1) ⟨by omega,by omega⟩ ?_
   repeat' first|refine S0 ?_;conv=>whnf|refine Vo ?_|exact T0|(refine Cho.l (Step.out ?_))|refine Vm ?_ ?_
  ·repeat' first|refine S0 ?_;conv=>whnf|exact T0|refine B0 ?_|refine T2 ?_ ?_
theorem conI_ct (l:List Int) (hl:l.length<=1000) (h:∀ x ∈ l,0<=x/\x<=1000):Cr 68 [ints l,.fn 69 []] (.bool false):=by
 have hc:=idxI_ct l hl h;refine .det (De Tryz.func68 [] [] ?_)
 repeat' first|refine S0 ?_;conv=>whnf|exact T0|(refine M0 hc ?_)|refine T2 ?_ ?_|refine K0 ?_
theorem mkcheck_ct (w:Wt) (ts:List Int) (fl ky:Nat) (L:List (List Sn)) (hw:w.ok fl) (hts:ts.length=fl) (ht:∀ t ∈ ts,0<=t/\t<=1000) (hky:1<=ky/\ky<=2) (hL:Sh3 fl ky L):Cr 32 [w.dd,ints ts,i64 ky,shs L] (i64 0):=by
 have hna:=hw.na;have hf:=hw.f;have h3:=hL.len;have hck:=wcheck_ct w hw;have hcn:=conI_ct ts (by omega) ht;refine .det (De Tryz.func32 [] [] ?_)
 repeat' first|refine S0 ?_;conv=>whnf|with_reducible refine Br.ff ?_|refine B1 ?_|refine B0 ?_|(refine M0 hck ?_)|(refine M0 hcn ?_)|refine Br.bnot ?_|refine K0 ?_
 refine Lw [] [] (α:=Nat) (fun i=>[(2,i64 ky),(4,.loc 0 0),(32,shs L),(33,i64 L.length),(34,i64 i)]) (fun i=>[(0,.var [i64 w.p,ints w.a,ints w.d])]) 1 (fun i=>i<=L.length) (fun i=>L.length - i) ?_ ?_
 ·refine Again.by 0 (zle _) ?_
  repeat' first|refine S0 ?_;conv=>whnf|refine Vo ?_|exact T0
 ·intro i hi;by_cases hlt:i<L.length
  ·have hs:=shcheck_ct fl ky (L.getD (i:Int).toNat []) hf hky (hL.l _ (getD_mem hlt));rw [<-hna] at hs
   repeat' first|refine S0 ?_;conv=>whnf|refine Vo ?_|refine W6 ?_|refine B1 ?_|(refine M0 hs ?_)|refine Br.bnot ?_|refine K0 ?_
   refine Again.by (i+1) ⟨by omega,by omega⟩ ?_
   repeat' first|refine S0 ?_;conv=>whnf|refine Vo ?_|exact T0
  ·repeat' first|refine S0 ?_;conv=>whnf|exact T0|refine B0 ?_|refine T2 ?_ ?_
theorem ag_mono (x y:Sn) (i:Nat) (h:agN x y i=true):∀ n,i<=n->agN x y n=true
 | 0,hn=>by obtain rfl:i=0:=by omega
            exact h
 | n+1,hn=>by
   by_cases e:i=n+1
   ·subst e;exact h
   ·rw [agN,ag_mono x y i h n (by omega),Bool.true_or]
theorem agree_ct (x y:Sn) (ky:Nat) (hk:ky<=10) (h1:x.h.length=ky) (h2:x.t.length=ky) (h3:y.h.length=ky) (h4:y.t.length=ky):Cr 33 [x.d,y.d] (.bool (agN x y ky)):=by
 have hst:∀ i,agN x y (i+1)=(agN x y i || (x.t.getD i false && y.t.getD i false && decide (x.h.getD i 0=y.h.getD i 0))):=fun _=>rfl
 have hmo:=ag_mono x y;have h0:agN x y 0=false:=rfl;generalize agN x y=A at *;refine .det (De Tryz.func33 ord33 [] ?_)
 repeat' first|refine S0 ?_;conv=>whnf
 refine Lw ord33 [] (α:=Nat) (fun i=>[(2,.loc 0 0),(3,.loc 1 0),(18,i64 ky),(19,i64 i)]) (fun i=>[(0,.var (Sn.f x)),(1,.var (Sn.f y))]) 2 (fun i=>i<=ky/\A i=false) (fun i=>ky - i) ?_ ?_
 ·refine Again.by 0 ⟨zle _,h0⟩ ?_
  repeat' first|refine S0 ?_;conv=>whnf|refine Vo ?_|exact T0
 ·intro i ⟨hi,hA⟩;have hs:=hst i;rw [hA,Bool.false_or] at hs
  repeat' first|refine S0 ?_;conv=>whnf|refine Vo ?_|exact T0|refine W6 ?_|(refine Br.d (fun h=>?_) fun h=>?_)|(refine Bm (fun h=>?_) fun h=>?_)|refine T2 ?_ ?_
  all_goals try simp only [tnc] at *
  ·refine (hmo (i+1) ?_ ky (by omega)).symm;rw [hs,‹x.t.getD i false=true›,‹y.t.getD i false=true›,decide_eq_true h];rfl
  ·refine Again.by (i+1) ⟨⟨by omega,hs.trans (by rw [decide_eq_false h,Bool.and_false])⟩,by omega⟩ ?_
   repeat' first|refine S0 ?_;conv=>whnf|refine Vo ?_|exact T0
  ·refine Again.by (i+1) ⟨⟨by omega,hs.trans (by rw [h,Bool.not_true,Bool.and_false,Bool.false_and])⟩,by omega⟩ ?_
   repeat' first|refine S0 ?_;conv=>whnf|refine Vo ?_|exact T0
  ·refine Again.by (i+1) ⟨⟨by omega,hs.trans (by rw [h,Bool.not_true,Bool.false_and,Bool.false_and])⟩,by omega⟩ ?_
   repeat' first|refine S0 ?_;conv=>whnf|refine Vo ?_|exact T0
  ·obtain rfl:i=ky:=by omega
   exact hA.symm
end Kx
