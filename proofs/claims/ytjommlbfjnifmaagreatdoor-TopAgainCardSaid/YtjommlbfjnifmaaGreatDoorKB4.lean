/-
  ContainsFunc; persons; what they are worth.
  No condition beyond those written in each theorem.
-/
import Derived.Test.YtjommlbfjnifmaaGreatDoorKB3
import Derived.Test.YtjommlbfjnifmaaGreatDoorKB1
set_option linter.unusedSimpArgs false
set_option linter.unusedVariables false
set_option maxRecDepth 4000
open Go Sx Go.Proofs
namespace Kx
def idxG {α:Type} (p:α->Bool):List α->Int->Int
 | [],_=>-1| x :: l,i=>bif p x then i else idxG p l (i+1)
theorem idxG_step {α:Type} (p:α->Bool) (l:List α) (z:α) (i:Nat) (h:i<l.length):idxG p (l.drop i) i=bif p (l.getD i z) then (i:Int) else idxG p (l.drop (i+1)) ((i:Int)+1):=by
 rw [drop_step l z i h,idxG]
theorem idxG_any {α:Type} (p:α->Bool):∀ (l:List α) (i:Int),0<=i->decide (0<=idxG p l i)=l.any p
 | [],_,_=>rfl
 | x :: l,i,h=>by
   rw [idxG,List.any_cons]
   cases hx:p x with
   | true=>simpa using h
   | false=>rw [cond_false,Bool.false_or];exact idxG_any p l (i+1) (by omega)
theorem idxR_ct (l:List Rf) (f:Nat) (caps:List D) (p:Rf->Bool) (hl:l.length<=100000) (hc:immL caps=true) (hp:∀ x ∈ l,Ct Tryz.prog f (x.d :: caps) fun r _=>r = .bool (p x)):Cr 152 [rfs l,.fn f caps] (i64 (idxG p l 0)):=by
 refine .det (De Tryz.func152 [] [] ?_)
 repeat' first|refine S0 ?_;conv=>whnf|(refine adL_imm hc (Step.out ?_))
 refine Lw [] [] (α:=Nat) (fun i=>[(0,rfs l),(1,.fn f caps),(7,i64 l.length),(8,i64 i)]) (fun i=>[]) 0 (fun i=>i<=l.length/\idxG p l 0=idxG p (l.drop i) i) (fun i=>l.length - i) ?_ ?_
 ·refine Again.by 0 ⟨zle _,rfl⟩ ?_
  repeat' first|refine S0 ?_;conv=>whnf|refine Vo ?_|refine Vb ?_|exact T0|(refine Cho.l (Step.out ?_))
 ·intro i hi
  repeat' first|refine S0 ?_;conv=>whnf|refine Vo ?_|exact T0|refine W6 ?_|(refine forceL_of (Step.out ?_))|(refine lesL_imm hc (Step.out ?_))|(refine Met.by (hp (l.getD (i:Int).toNat Rf.z) ?_) ?_;rotate_left;(rintro q outs rfl))|(refine Br.d (fun h=>?_) fun h=>?_)|(refine Bm (fun h=>?_) fun h=>?_)|refine T2 ?_ ?_|refine K0 ?_
  all_goals try simp only [tnc] at *
  ·rw [hi.2,idxG_step p l Rf.z i (by omega),h,cond_true]
  ·refine Again.by (i+1) ⟨⟨by omega,by rw [hi.2,idxG_step p l Rf.z i (by omega),h,cond_false];rfl⟩,by omega⟩ ?_
   repeat' first|refine S0 ?_;conv=>whnf|refine Vo ?_|refine Vb ?_|exact T0|(refine Cho.l (Step.out ?_))
  ·exact getD_mem (by omega)
  ·have e:i=l.length:=by omega
   rw [hi.2,e,List.drop_length];rfl
theorem conR_ct (l:List Rf) (f:Nat) (caps:List D) (p:Rf->Bool) (hl:l.length<=100000) (hc:immL caps=true) (hp:∀ x ∈ l,Ct Tryz.prog f (x.d :: caps) fun r _=>r = .bool (p x)):Cr 95 [rfs l,.fn f caps] (.bool (l.any p)):=by
 refine .det (De Tryz.func95 [] [] ?_)
 repeat' first|refine S0 ?_;conv=>whnf|exact T0|(refine adL_imm hc (Step.out ?_))|(refine lesL_imm hc (Step.out ?_))|(refine M0 (idxR_ct l f caps p hl hc hp) ?_)|refine T2 ?_ ?_|refine K0 ?_
 exact idxG_any p l 0 (by omega)
theorem idxP_ct (l:List (List Rf)) (f:Nat) (caps:List D) (p:List Rf->Bool) (hl:l.length<=100000) (hc:immL caps=true) (hp:∀ x ∈ l,Ct Tryz.prog f (rfs x :: caps) fun r _=>r = .bool (p x)):Cr 99 [rss l,.fn f caps] (i64 (idxG p l 0)):=by
 refine .det (De Tryz.func99 [] [] ?_)
 repeat' first|refine S0 ?_;conv=>whnf|(refine adL_imm hc (Step.out ?_))
 refine Lw [] [] (α:=Nat) (fun i=>[(0,rss l),(1,.fn f caps),(7,i64 l.length),(8,i64 i)]) (fun i=>[]) 0 (fun i=>i<=l.length/\idxG p l 0=idxG p (l.drop i) i) (fun i=>l.length - i) ?_ ?_
 ·refine Again.by 0 ⟨zle _,rfl⟩ ?_
  repeat' first|refine S0 ?_;conv=>whnf|refine Vo ?_|refine Vb ?_|exact T0|(refine Cho.l (Step.out ?_))
 ·intro i hi
  repeat' first|refine S0 ?_;conv=>whnf|refine Vo ?_|exact T0|refine W6 ?_|(refine forceL_of (Step.out ?_))|(refine lesL_imm hc (Step.out ?_))|(refine Met.by (hp (l.getD (i:Int).toNat []) ?_) ?_;rotate_left;(rintro q outs rfl))|(refine Br.d (fun h=>?_) fun h=>?_)|(refine Bm (fun h=>?_) fun h=>?_)|refine T2 ?_ ?_|refine K0 ?_
  all_goals try simp only [tnc] at *
  ·rw [hi.2,idxG_step p l [] i (by omega),h,cond_true]
  ·refine Again.by (i+1) ⟨⟨by omega,by rw [hi.2,idxG_step p l [] i (by omega),h,cond_false];rfl⟩,by omega⟩ ?_
   repeat' first|refine S0 ?_;conv=>whnf|refine Vo ?_|refine Vb ?_|exact T0|(refine Cho.l (Step.out ?_))
  ·exact getD_mem (by omega)
  ·have e:i=l.length:=by omega
   rw [hi.2,e,List.drop_length];rfl
theorem conP_ct (l:List (List Rf)) (f:Nat) (caps:List D) (p:List Rf->Bool) (hl:l.length<=100000) (hc:immL caps=true) (hp:∀ x ∈ l,Ct Tryz.prog f (rfs x :: caps) fun r _=>r = .bool (p x)):Cr 52 [rss l,.fn f caps] (.bool (l.any p)):=by
 refine .det (De Tryz.func52 [] [] ?_)
 repeat' first|refine S0 ?_;conv=>whnf|exact T0|(refine adL_imm hc (Step.out ?_))|(refine lesL_imm hc (Step.out ?_))|(refine M0 (idxP_ct l f caps p hl hc hp) ?_)|refine T2 ?_ ?_|refine K0 ?_
 exact idxG_any p l 0 (by omega)
theorem per1_ct (l:List Bd) (s:List Dz) (r x:Rf):Cr 96 [x.d,.ref [bds l,.mapb (mpB (apL s))],.ref (Rf.f r)] (.bool (barB s x r)):=by
 refine .det (De Tryz.func96 [] [] ?_)
 repeat' first|refine S0 ?_;conv=>whnf|exact T0|refine T2 ?_ ?_|refine K0 ?_|(refine M0 (g:=97) (bars_ct _ _ _ _) ?_)
theorem val1_ct (p:List Rf) (b:Bd) (hp:p.length<=1000000):Cr 53 [rfs p,.ref (Bd.f b)] (.bool (both p b)):=by
 refine .det (De Tryz.func53 [] [] ?_)
 repeat' first|refine S0 ?_;conv=>whnf|exact T0|(refine Br.d (fun h=>?_) fun h=>?_)|refine T2 ?_ ?_|refine K0 ?_|(refine M0 (g:=41) (rcontains_ct _ _ (by omega)) ?_)
 all_goals unfold both
 all_goals simp [h]
theorem valL_app (l m:List Bd) (P:List (List Rf)):valL (l ++ m) P=valL l P+valL m P:=by
 induction l with
 | nil=>simp [valL]
 | cons b l ih=>rw [List.cons_append,valL,valL,ih];omega
theorem valL_step (l:List Bd) (P:List (List Rf)) (i:Nat) (h:i<l.length):valL (l.take (i+1)) P=valL (l.take i) P+if P.any (fun p=>both p (l.getD i Bd.z))=true then (l.getD i Bd.z).w else 0:=by
 rw [take1 l Bd.z i h,valL_app];simp [valL]
theorem valL_bd (P:List (List Rf)):∀ l:List Bd,(∀ b ∈ l,1<=b.w/\b.w<=1048576)->0<=valL l P/\valL l P<=l.length*1048576
 | [],_=>by simp [valL]
 | b :: l,h=>by
   have:=valL_bd P l fun x hx=>h x (by simp [hx])
   have hb:=h b (by simp);rw [valL,List.length_cons]
   split<;>omega
theorem value_ct (l:List Bd) (P:List (List Rf)) (h:l.length<=648) (hw:∀ b ∈ l,1<=b.w/\b.w<=1048576) (hP:P.length<=100) (hp:∀ p ∈ P,p.length<=100):Cr 21 [bds l,rss P] (i64 (valL l P)):=by
 refine .det (De Tryz.func21 [] [] ?_)
 repeat' first|refine S0 ?_;conv=>whnf
 refine Lw [] [] (α:=Nat) (fun i=>[(1,rss P),(5,i64 (valL (l.take i) P)),(8,bds l),(9,i64 l.length),(10,i64 i)]) (fun i=>[]) 0 (fun i=>i<=l.length) (fun i=>l.length - i) ?_ ?_
 ·refine Again.by 0 (zle _) ?_
  repeat' first|refine S0 ?_;conv=>whnf|refine Vo ?_|exact T0|(rfl)|refine Vm ?_ ?_
 ·intro i hi
  try dsimp only at hi ⊢
  have hb:=valL_bd P (l.take i) fun b hb=>hw b (List.mem_of_mem_take hb)
  have hbl:(l.take i).length<=648:=by rw [List.length_take];omega
  have hbw:i<l.length->1<=(l.getD i Bd.z).w/\(l.getD i Bd.z).w<=1048576:=fun hi=>hw _ (getD_mem hi)
  have hst:=valL_step l P i;by_cases hlt:i<l.length
  ·have hc:=conP_ct P 53 [.ref (Bd.f (l.getD (i:Int).toNat Bd.z))] (fun p=>both p (l.getD i Bd.z)) (by omega) rfl fun x hx=>(val1_ct x _ (by have:=hp x hx;omega)).mono fun _ _ h=>h.1
   have hst:=hst hlt;have hbw:=hbw hlt
   repeat' first|refine S0 ?_;conv=>whnf|refine Vo ?_|exact noSh_bool _|refine W6 ?_|refine B1 ?_|(refine M0 hc ?_)|(refine Wr.i64 ?_ ?_;focus (simp only [tnc] at *<;>omega;done))|(refine Bm (fun h=>?_) fun h=>?_)|refine K0 ?_|refine Vm ?_ ?_
   ·rw [if_pos h] at hst
    refine Again.by (i+1) ⟨by omega,by omega⟩ ?_
    rw [hst]
    repeat' first|refine S0 ?_;conv=>whnf|refine Vo ?_|exact T0|(rfl)|refine Vm ?_ ?_
   ·rw [if_neg (by rw [h];simp),Int.add_zero] at hst
    refine Again.by (i+1) ⟨by omega,by omega⟩ ?_
    rw [hst]
    repeat' first|refine S0 ?_;conv=>whnf|refine Vo ?_|exact T0
  ·obtain rfl:i=l.length:=by omega
   rw [List.take_length] at *
   repeat' first|refine S0 ?_;conv=>whnf|exact T0|refine B0 ?_|refine T2 ?_ ?_
theorem ascp_ct (p:List Rf) (hp:p.length<=1000) (h1:1<=p.length) (ha:Asc p):Cr 50 [rfs p] (.bool true):=by
 have hs:∀ i,0<i->i<p.length->cmpR (p.getD (i - 1) Rf.z) (p.getD i Rf.z)<0:=fun i h0 hi=>by
  rw [gDe,gDe,List.getElem?_eq_getElem hi,List.getElem?_eq_getElem (show i - 1<p.length by omega)];exact List.pairwise_iff_getElem.1 ha (i - 1) i (by omega) hi (by omega)
 refine .det (De Tryz.func50 ord50 [] ?_)
 repeat' first|refine S0 ?_;conv=>whnf
 refine Lw ord50 [] (α:=Nat) (fun i=>[(0,rfs p),(3,i64 i)]) (fun i=>[]) 0 (fun i=>1<=i/\i<=p.length) (fun i=>p.length - i) ?_ ?_
 ·refine Again.by 1 ⟨Nat.le_refl _,h1⟩ ?_
  repeat' first|refine S0 ?_;conv=>whnf|refine Vo ?_|exact T0
 ·intro i hi;have hs:=hs i
  repeat' first|refine S0 ?_;conv=>whnf|refine Vo ?_|exact T0|refine W6 ?_|(refine Br.d (fun h=>?_) fun h=>?_)|refine T2 ?_ ?_|refine K1 ?_|(refine M0 (g:=45) (rcompare_ct _ _) ?_)
  ·rename_i h2
   have e:((i:Int) - 1).toNat=i - 1:=by omega
   rw [e,tnc] at h;have:=hs (by omega) (by omega)
   exfalso;omega
  ·refine Again.by (i+1) ⟨by omega,by omega⟩ ?_
   repeat' first|refine S0 ?_;conv=>whnf|refine Vo ?_|exact T0
theorem person_ct (l:List Bd) (s:List Dz) (p:List Rf) (h:l.length<=648) (hp:Per (barB s) l p) (hpl:p.length<=24):Cr 51 [rul l s,rfs p] (.bool true):=by
 have h2:=hp.two;have hjn:=hp.jn;have hj:=joined_ct l s p h (by omega) hp.asc.nodup hpl;rw [hjn] at hj
 have hc:∀ i,i<p.length->Cr 95 [.tab 2 (i - 0) fun j=>Rf.f (p.getD (0+j) Rf.z),.fn 96 [.ref [bds l,.mapb (mpB (apL s))],.ref (Rf.f (p.getD i Rf.z))]] (.bool false):=fun i hi=>by
  have hl:i - 0=(p.take i).length:=by rw [List.length_take];omega
  have hany:(p.take i).any (fun x=>barB s x (p.getD i Rf.z))=false:=by
   rw [List.any_eq_false];intro x hx;obtain ⟨j,hj⟩:=List.mem_iff_getElem?.1 hx
   have hji:j<i:=by
    have:=(List.getElem?_eq_some_iff.1 hj).1;rw [List.length_take] at this;omega
   rw [List.getElem?_take,if_pos hji,List.getElem?_eq_getElem (show j<p.length by omega)] at hj;cases hj;have:=List.pairwise_iff_getElem.1 hp.free j i (by omega) hi hji;rw [gDe,List.getElem?_eq_getElem hi];simpa using this
  have:=conR_ct (p.take i) 96 [.ref [bds l,.mapb (mpB (apL s))],.ref (Rf.f (p.getD i Rf.z))] (fun x=>barB s x (p.getD i Rf.z)) (by omega) rfl fun x _=>(per1_ct l s _ x).mono fun _ _ h=>h.1
  rw [hany] at this
  exact Ct.read this rfl ⟨Im.tab hl fun j hj=>by
   rw [gDe (l:=p.take i),List.getElem?_take,if_pos (show j<i by omega),<-gDe,Nat.zero_add];exact .refl _,.refl _,trivial⟩
 refine .det (De Tryz.func51 [] [] ?_)
 repeat' first|refine S0 ?_;conv=>whnf|refine B0 ?_
 refine Lw [] [] (α:=Nat) (fun i=>[(1,rfs p),(2,.loc 0 0),(10,rfs p),(11,i64 p.length),(12,i64 i)]) (fun i=>[(0,.var [bds l,.mapb (mpB (apL s))])]) 1 (fun i=>i<=p.length) (fun i=>p.length - i) ?_ ?_
 ·refine Again.by 0 (zle _) ?_
  repeat' first|refine S0 ?_;conv=>whnf|refine Vo ?_|exact T0
 ·intro i hi;by_cases hlt:i<p.length
  ·have hc:=hc (i:Int).toNat (by omega)
   repeat' first|refine S0 ?_;conv=>whnf|refine Vo ?_|exact noSh_bool _|refine W6 ?_|with_reducible refine Br.ff ?_|refine B1 ?_|(refine M0 hc ?_)|refine K0 ?_|refine Vm ?_ ?_
   refine Again.by (i+1) ⟨by omega,by omega⟩ ?_
   repeat' first|refine S0 ?_;conv=>whnf|refine Vo ?_|exact T0
  ·repeat' first|refine S0 ?_;conv=>whnf|exact T0|refine B0 ?_|(refine M0 hj ?_)|refine T2 ?_ ?_|refine K0 ?_
theorem uvalid_ct (l:List Bd) (s:List Dz) (P:List (List Rf)) (h:BdV l) (hs:decided s=0) (hsn:s.length<=4096) (hP:Pers (barB s) l (refsL l) P) (hPl:P.length<=24):Cr 20 [bds l,des s,rss P] (i64 0):=by
 have hn:=h.n;have hck:=ucheck_ct l s h hs hsn
 have hpl:∀ p ∈ P,p.length<=24:=fun p hp=>Nat.le_trans (nodup_len (hP.per p hp).asc.nodup (hP.sub p hp)) h.len
 have hin:∀ i,i<P.length->P.getD i [] ∈ P:=fun i hi=>getD_mem hi
 have hord:∀ i,0<i->i<P.length->cmpR ((P.getD (i - 1) []).getD 0 Rf.z) ((P.getD i []).getD 0 Rf.z)<0:=fun i h0 hi=>by
  rw [gDe (l:=P),gDe (l:=P),List.getElem?_eq_getElem hi,List.getElem?_eq_getElem (show i - 1<P.length by omega)];exact List.pairwise_iff_getElem.1 hP.ord (i - 1) i (by omega) hi (by omega)
 have hdis:∀ i j,j<i->i<P.length->∀ x ∈ P.getD i [],x ∉ P.getD j []:=fun i j hj hi=>by
  rw [gDe (l:=P),gDe (l:=P),List.getElem?_eq_getElem hi,List.getElem?_eq_getElem (show j<P.length by omega)]
  exact fun x hx hx2=>List.pairwise_iff_getElem.1 hP.dis j i (by omega) hi hj x hx2 hx
 refine .det (De Tryz.func20 ord20 [] ?_)
 repeat' first|refine S0 ?_;conv=>whnf|refine B1 ?_|(refine M0 hck ?_)|refine Br.bnot ?_|refine K0 ?_
 refine Lw ord20 [] (α:=Nat × List (List Int × Int)) (fun z=>[(2,rss P),(7,.loc 0 0),(9,.mref 1),(24,rss P),(25,i64 P.length),(26,i64 z.1)]) (fun z=>[(0,.var [bds l,.mapb (mpB (apL s))]),(1,.mp (mpB z.2))]) 2 (fun z=>(z.1<=P.length/\∀ x ∈ z.2,x.1.length=2)/\∀ r,(∀ j,j<z.1->r ∉ P.getD j [])->mget z.2 (rk r)=none) (fun z=>P.length - z.1) ?_ ?_
 ·refine Again.by (0,[]) ⟨⟨zle _,by simp⟩,fun r _=>rfl⟩ ?_
  repeat' first|refine S0 ?_;conv=>whnf|refine Vo ?_|exact T0|(rfl)|refine Vm ?_ ?_
 ·intro ⟨i,m⟩ ⟨⟨hi,hw⟩,hmm⟩;dsimp only at hi hw hmm ⊢;by_cases hlt:i<P.length
  ·have hpi:=hP.per _ (hin i hlt);have hp2:=hpi.two;have hpli:=hpl _ (hin i hlt)
   have hp3:0<i->2<=(P.getD (i - 1) []).length:=fun h0=>(hP.per _ (hin (i - 1) (by omega))).two
   have hoi:=hord i;have hac:=ascp_ct (P.getD (i:Int).toNat []) (show (P.getD i []).length<=1000 by omega) (show 1<=(P.getD i []).length by omega) hpi.asc;have hpc:=person_ct l s (P.getD (i:Int).toNat []) hn hpi hpli
   have e1:((i:Int) - 1).toNat=i - 1:=by omega
   repeat' first|refine S0 ?_;conv=>whnf|refine Vo ?_|exact T0|refine W6 ?_|with_reducible refine Br.tt ?_|refine B1 ?_|(refine M0 hac ?_)|(refine M0 hpc ?_)|(refine Vc.om ?_ ?_;focus ((simp only [tnc,e1];omega);done))|(refine Br.d (fun h=>?_) fun h=>?_)|refine Br.swap ?_|refine Br.bnot ?_|refine T2 ?_ ?_|refine K1 ?_|(refine M0 (g:=45) (rcompare_ct _ _) ?_)
   ·exfalso;rename_i h0;rw [e1] at h;have:=hoi (by omega) hlt;exact absurd h (by show ¬ (0<=cmpR ((P.getD (i - 1) []).getD 0 Rf.z) ((P.getD i []).getD 0 Rf.z));omega)
   all_goals
    refine Lw ord20 [] (α:=Nat × List (List Int × Int)) (fun w=>[(2,rss P),(7,.loc 0 0),(9,.mref 1),(24,rss P),(25,i64 P.length),(26,i64 i),(58,rfs (P.getD i [])),(59,i64 (P.getD i []).length),(60,i64 w.1)]) (fun w=>[(0,.var [bds l,.mapb (mpB (apL s))]),(1,.mp (mpB w.2))]) 2 (fun w=>(w.1<=(P.getD i []).length/\∀ x ∈ w.2,x.1.length=2)/\∀ r,(∀ j,j<i->r ∉ P.getD j [])->(∀ q,q<w.1->r≠(P.getD i []).getD q Rf.z)->mget w.2 (rk r)=none) (fun w=>(P.getD i []).length - w.1) ?_ ?_
    ·refine Again.by (0,m) ⟨⟨zle _,hw⟩,fun r h1 _=>hmm r h1⟩ ?_
     repeat' first|refine S0 ?_;conv=>whnf|refine Vo ?_|exact T0|(rfl)|(exact ⟨rfl,fun _ _=>rfl⟩)|refine Vm ?_ ?_
    ·intro ⟨q,m⟩ ⟨⟨hq,hw⟩,hmq⟩;dsimp only at hq hw hmq ⊢;by_cases hlq:q<(P.getD i []).length
     ·have hxm:(P.getD i []).getD q Rf.z ∈ P.getD i []:=getD_mem hlq
      have hno:=hmq ((P.getD i []).getD q Rf.z) (fun j hj=>hdis i j hj hlt _ hxm) fun q' hq' e=>by
       have:=getD_inj hpi.asc.nodup hlq (by omega) e;omega
      have hg0:(mget m [((P.getD i []).getD (q:Int).toNat Rf.z).g,((P.getD i []).getD (q:Int).toNat Rf.z).i]).getD 0=0:=congrArg (fun o=>Option.getD o 0) hno
      repeat' first|refine S0 ?_;conv=>whnf|refine Vo ?_|exact T0|refine W6 ?_|refine B1 ?_|(exact ⟨⟨rfl,rfl⟩,hw⟩)|(refine Br.d (fun h=>?_) fun h=>?_)|refine T2 ?_ ?_|refine Vm ?_ ?_
      ·exact absurd hg0 h
      ·refine Again.by (q+1,mput m (rk ((P.getD i []).getD q Rf.z)) 1) ⟨⟨⟨by dsimp only;omega,mput_wf hw rfl⟩,fun r h1 h2=>?_⟩,by dsimp only;omega⟩ ?_
       ·rw [mget_put,if_neg]
        ·exact hmq r h1 fun q' hq'=>h2 q' (by dsimp only;omega)
        ·rw [rk_inj];exact fun e=>h2 q (by dsimp only;omega) e.symm
       repeat' first|refine S0 ?_;conv=>whnf|refine Vo ?_|exact T0|(rfl)|refine Vm ?_ ?_
     ·repeat' first|refine S0 ?_;conv=>whnf|refine W6 ?_|refine B0 ?_
      refine Again.by (i+1,m) ⟨⟨⟨by dsimp only;omega,hw⟩,fun r h1=>hmq r (fun j hj=>h1 j (by dsimp only;omega)) fun q' hq' e=>h1 i (by dsimp only;omega) (by rw [e];exact getD_mem (by omega))⟩,by dsimp only;omega⟩ ?_
      repeat' first|refine S0 ?_;conv=>whnf|refine Vo ?_|exact T0
  ·repeat' first|refine S0 ?_;conv=>whnf|exact T0|refine B0 ?_|refine T2 ?_ ?_
end Kx
open Go Sx Go.Proofs
namespace Kx
def srch (B:List Bd) (s:List Dz) (R:List Rf) (S:List (List Rf)) (st:Xs):List D :=
 [bds B,.mapb (mpB (apL s)),rfs R,.ffam 128 1 S.length fun j=>[rfsO (S.getD j [])],.bool st.f,rss st.best,i64 st.v]
def kp (S:List (List Rf)) (i:Nat):List (List Rf):=(S.take i).filter fun p=>decide (2<=p.length)
theorem kp_step (S:List (List Rf)) (i:Nat) (h:i<S.length):kp S (i+1)=if 2<=(S.getD i []).length then kp S i ++ [S.getD i []] else kp S i:=by
 unfold kp;rw [take1 S [] i h,List.filter_append];by_cases e:2<=(S.getD i []).length
 ·rw [if_pos e,List.filter_cons_of_pos (by simpa using e)];rfl
 ·rw [if_neg e,List.filter_cons_of_neg (by simpa using e)];simp
theorem ite_rfs (c:Prop) [Decidable c] (x y:List Rf):D.ite c (rfs x) (rfs y)=rfs (if c then x else y):=by
 show D.tab 2 (if c then x.length else y.length) (fun i=>[i64 (if c then (x.getD i Rf.z).g else (y.getD i Rf.z).g),i64 (if c then (x.getD i Rf.z).i else (y.getD i Rf.z).i)])=_
 split<;>rfl
theorem fam_same (S:List (List Rf)) (x j:Nat):LeF (if j=x then [.ftab 102 2 (S.getD x []).length fun q=>Rf.f ((S.getD x []).getD q Rf.z)] else [rfsO (S.getD j [])]) [rfsO (S.getD j [])]:=by
 by_cases e:j=x
 ·subst e;rw [if_pos rfl];exact LeF.refl _
 ·rw [if_neg e];exact LeF.refl _
theorem rcloneO_ct (l:List Rf) (h0:l.length<=1000000):Cr 139 [rfs l] (rfsO l):=by
 refine .det (De Tryz.func139 [] [] ?_)
 repeat' first|refine S0 ?_;conv=>whnf|refine Vb ?_|(refine NilB.mk fun b hb=>Step.out ?_)|exact T0|(refine Bm (fun h=>?_) fun h=>?_)|refine T2 ?_ ?_
 all_goals first
  | trivial
  | exact hb h
  | with_reducible rfl
  | with_reducible exact same_rfl
  | omega
  | (exact ⟨by omega,fun i hi=>rfl⟩)
theorem rowR_app1 (L:List (List Rf)) (x:List Rf) (f:Nat->List D) (hf:f 0 = [rfsO x]) (n m:Nat) (hn:n=L.length) (hm:m=L.length+1):m=(L ++ [x]).length/\∀ i,i<(L ++ [x]).length->LeF (if i<n then [rfsO (L.getD i [])] else f (i - n)) [rfsO ((L ++ [x]).getD i [])]:=by
 subst hn hm;refine ⟨by simp,fun i hi=>?_⟩;rw [lap,List.length_singleton] at hi;by_cases h:i<L.length
 ·rw [if_pos h,getD_app1 _ _ _ _ h];exact LeF.refl _
 ·have:i=L.length:=by omega
  subst this;rw [if_neg h,Nat.sub_self,hf,getD_app2];exact LeF.refl _
structure SOk (R:List Rf) (S:List (List Rf)):Prop where
 n:S.length<=8
 nd:∀ p ∈ S,p.Nodup
 l:∀ p ∈ S,p.length<=8
theorem finish_ct (B:List Bd) (s:List Dz) (R:List Rf) (S:List (List Rf)) (st:Xs) (hB:BdV B) (hS:SOk R S) (hb:st.best.length<=24) (hR:R.length<=24):Ct Tryz.prog 176 [.fbox (srch B s R S st)] fun q outs=>q = .tup []/\outs = [.fbox (srch B s R S (finX B S st))]:=by
 have hn:=hB.n;have hSn:=hS.n;refine .det (De Tryz.func176 [] [] ?_)
 repeat' first|refine S0 ?_;conv=>whnf
 refine Lw [] [] (α:=Nat) (fun i=>[(0,.loc 0 0),(2,.own 2),(9,.own 1),(10,i64 S.length),(11,i64 i)]) (fun i=>[(0,.var [bds B,.mapb (mpB (apL s)),rfs R,.own 1,.bool st.f,rss st.best,i64 st.v]),(1,.fam 128 1 S.length fun j=>[rfsO (S.getD j [])]),(2,.fam 128 1 (kp S i).length fun j=>[rfsO ((kp S i).getD j [])])]) 3 (fun i=>i<=S.length/\∀ p ∈ S.take i,(decide (p.length<2) || jnd B p)=true) (fun i=>S.length - i) ?_ ?_
 ·refine Again.by 0 ⟨zle _,by simp⟩ ?_
  repeat' first|refine S0 ?_;conv=>whnf|refine Vo ?_|exact T0|(rfl)|(exact ⟨rfl,fun _ _=>LeF.refl _⟩)|refine Vm ?_ ?_
 ·intro i ⟨hi,ha⟩
  try dsimp only at hi ⊢
  by_cases hlt:i<S.length
  ·have hm:S.getD i [] ∈ S:=getD_mem hlt;have hnd:(S.getD (i:Int).toNat []).Nodup:=hS.nd _ hm;have hl8:(S.getD (i:Int).toNat []).length<=8:=hS.l _ hm;have hst:=kp_step S i hlt;have htk:=take1 S [] i hlt;have hkl:(kp S i).length<=8:=Nat.le_trans (List.length_filter_le _ _) (by rw [List.length_take];omega);by_cases h2:(S.getD i []).length<2
   ·rw [if_neg (by omega)] at hst;have h2' : (S.getD (i:Int).toNat []).length<2:=h2
    repeat' first|refine S0 ?_;conv=>whnf|refine Vo ?_|refine W6 ?_|refine B1 ?_|(refine Row.by _ (LeF.refl _) ?_)
    refine Again.by (i+1) ⟨⟨by omega,fun p hp=>?_⟩,by omega⟩ ?_
    ·rw [htk,List.mem_append,List.mem_singleton] at hp
     rcases hp with hp | rfl
     ·exact ha p hp
     ·rw [decide_eq_true h2];rfl
    rw [hst]
    repeat' first|refine S0 ?_;conv=>whnf|refine Vo ?_|exact T0|(exact ⟨rfl,fun j _=>fam_same S _ j⟩)|(exact ⟨rfl,fun _ _=>LeF.refl _⟩)|refine Vm ?_ ?_
   ·rw [if_pos (by omega)] at hst;have hj:=joined_ct B s (S.getD (i:Int).toNat []) hn (show 1<=(S.getD i []).length by omega) hnd (by omega);have hjd:jnd B (S.getD (i:Int).toNat [])=jnd B (S.getD i []):=rfl;generalize jnd B (S.getD (i:Int).toNat [])=jv at hj hjd;have h2' : ¬ (S.getD (i:Int).toNat []).length<2:=h2;have hcl:=rcloneO_ct (S.getD (i:Int).toNat []) (by omega)
    repeat' first|refine S0 ?_;conv=>whnf|refine Vo ?_|refine Vb ?_|exact T0|exact noSh_bool _|exact T1|refine W6 ?_|refine B1 ?_|refine B0 ?_|(refine M0 hj ?_)|(refine M0 hcl ?_)|(exact fun _ _=>⟨trivial,trivial,trivial⟩)|refine Br.bnot ?_|(refine Bm (fun h=>?_) fun h=>?_)|refine T2 ?_ ?_|(refine Row.by _ (LeF.refl _) ?_)|refine K0 ?_|refine Vm ?_ ?_
    ·refine Again.by (i+1) ⟨⟨by omega,fun p hp=>?_⟩,by omega⟩ ?_
     ·rw [htk,List.mem_append,List.mem_singleton] at hp
      rcases hp with hp | rfl
      ·exact ha p hp
      ·rw [<-hjd,h,Bool.or_true]
     rw [hst]
     repeat' first|refine S0 ?_;conv=>whnf|refine Vo ?_|exact T0|(exact ⟨rfl,fun j _=>fam_same S _ j⟩)|refine Vm ?_ ?_
     exact rowR_app1 (kp S i) (S.getD i []) (fun _=>[rfsO (S.getD i [])]) rfl _ _ rfl rfl
    all_goals
     have hall:¬ S.all (fun p=>decide (p.length<2) || jnd B p)=true:=fun e=>by
      have:=List.all_eq_true.1 e _ hm;rw [<-hjd,h,Bool.or_false,decide_eq_true_eq] at this;exact h2 this
     have hfin:finX B S st=st:=by unfold finX;rw [if_neg hall]
     first
      | exact ⟨rfl,fun j _=>fam_same S _ j⟩
      | (rw [hfin];done)
      | (rw [hfin];exact ⟨rfl,fun _ _=>rfl⟩)
  ·obtain rfl:i=S.length:=by omega
   have hw:=hB.w;have hk1:(kp S S.length).length<=8:=Nat.le_trans (List.length_filter_le _ _) (by rw [List.length_take];omega)
   have hk2:∀ p ∈ kp S S.length,p.length<=100:=fun p hp=>by
    have:=hS.l p (List.mem_of_mem_take (List.mem_filter.1 hp).1);omega
   have hall:S.all (fun p=>decide (p.length<2) || jnd B p)=true:=by
    rw [List.take_length] at ha;exact List.all_eq_true.2 ha
   have hkp:S.filter (fun p=>decide (2<=p.length))=kp S S.length:=by unfold kp;rw [List.take_length]
   have hfin:finX B S st=if st.f=false\/st.v<valL B (kp S S.length) then ⟨true,kp S S.length,valL B (kp S S.length)⟩ else st:=by
    unfold finX;rw [if_pos hall,hkp]
   repeat' first|refine S0 ?_;conv=>whnf|exact T0|exact noSh_int _ _|exact T1|refine B0 ?_|(refine Br.d (fun h=>?_) fun h=>?_)|refine Br.swap ?_|refine Br.bnot ?_|(refine Bm (fun h=>?_) fun h=>?_)|refine T2 ?_ ?_|refine K0 ?_|(refine M0 (g:=21) (value_ct _ _ (by omega) (by assumption) (by omega) (by assumption)) ?_)|refine Vm ?_ ?_
   all_goals first
    | exact ⟨rfl,fun _ _=>LeF.refl _⟩
    | (rw [hfin,if_neg (by clear hfin;simp_all)];done)
    | (rw [hfin,if_neg (by clear hfin;simp_all)];exact ⟨rfl,fun _ _=>rfl⟩)
    | (rw [hfin,if_pos (by clear hfin;simp_all)];done)
    | (rw [hfin,if_pos (by clear hfin;simp_all)];exact ⟨rfl,fun _ _=>rfl⟩)
end Kx
open Go Sx Go.Proofs
namespace Kx
def ordPlace:Ords:=[(8,.ph [4,9,5,6,7,8,10,12] (.way 0 (.ph [1,2] (.way 3 (.alt 11 (.st 13 (.st 14 (.ph [15] (.st 16 (.fin))))) 13 (.st 11 (.st 14 (.ph [15] (.st 16 (.fin)))))) (.way 11 (.alt 3 (.st 13 (.st 14 (.ph [15] (.st 16 (.fin))))) 13 (.alt 3 (.st 14 (.ph [15] (.st 16 (.fin)))) 14 (.ph [3] (.ph [15] (.st 16 (.fin)))))) (.way 13 (.alt 3 (.st 11 (.st 14 (.ph [15] (.st 16 (.fin))))) 11 (.alt 3 (.st 14 (.ph [15] (.st 16 (.fin)))) 14 (.ph [3] (.ph [15] (.st 16 (.fin)))))) (.non))))) (.way 11 (.alt 0 (.ph [1,2] (.alt 3 (.st 13 (.st 14 (.ph [15] (.st 16 (.fin))))) 13 (.alt 3 (.st 14 (.ph [15] (.st 16 (.fin)))) 14 (.ph [3] (.ph [15] (.st 16 (.fin))))))) 13 (.alt 0 (.ph [1,2] (.alt 3 (.st 14 (.ph [15] (.st 16 (.fin)))) 14 (.ph [3] (.ph [15] (.st 16 (.fin)))))) 14 (.ph [0] (.ph [1] (.ph [2] (.ph [3] (.ph [15] (.st 16 (.fin))))))))) (.way 13 (.alt 0 (.ph [1,2] (.alt 3 (.st 11 (.st 14 (.ph [15] (.st 16 (.fin))))) 11 (.alt 3 (.st 14 (.ph [15] (.st 16 (.fin)))) 14 (.ph [3] (.ph [15] (.st 16 (.fin))))))) 11 (.alt 0 (.ph [1,2] (.alt 3 (.st 14 (.ph [15] (.st 16 (.fin)))) 14 (.ph [3] (.ph [15] (.st 16 (.fin)))))) 14 (.ph [0] (.ph [1] (.ph [2] (.ph [3] (.ph [15] (.st 16 (.fin))))))))) (.non))))),(10,.ph [4,9,16,5,6,7,8,10,12,13,14,15,17] (.way 0 (.ph [1,2] (.way 3 (.alt 11 (.st 18 (.ph [19] (.ph [20] (.st 21 (.ph [22] (.st 23 (.fin))))))) 18 (.ph [19,20] (.st 11 (.st 21 (.ph [22] (.st 23 (.fin))))))) (.way 11 (.alt 3 (.st 18 (.ph [19] (.ph [20] (.st 21 (.ph [22] (.st 23 (.fin))))))) 18 (.ph [19,20] (.alt 3 (.st 21 (.ph [22] (.st 23 (.fin)))) 21 (.ph [3] (.ph [22] (.st 23 (.fin))))))) (.way 18 (.ph [19,20] (.alt 3 (.st 11 (.st 21 (.ph [22] (.st 23 (.fin))))) 11 (.alt 3 (.st 21 (.ph [22] (.st 23 (.fin)))) 21 (.ph [3] (.ph [22] (.st 23 (.fin))))))) (.non))))) (.way 11 (.alt 0 (.ph [1,2] (.alt 3 (.st 18 (.ph [19] (.ph [20] (.st 21 (.ph [22] (.st 23 (.fin))))))) 18 (.ph [19,20] (.alt 3 (.st 21 (.ph [22] (.st 23 (.fin)))) 21 (.ph [3] (.ph [22] (.st 23 (.fin)))))))) 18 (.ph [19,20] (.alt 0 (.ph [1,2] (.alt 3 (.st 21 (.ph [22] (.st 23 (.fin)))) 21 (.ph [3] (.ph [22] (.st 23 (.fin)))))) 21 (.ph [0] (.ph [1] (.ph [2] (.ph [3] (.ph [22] (.st 23 (.fin)))))))))) (.way 18 (.ph [19,20] (.alt 0 (.ph [1,2] (.alt 3 (.st 11 (.st 21 (.ph [22] (.st 23 (.fin))))) 11 (.alt 3 (.st 21 (.ph [22] (.st 23 (.fin)))) 21 (.ph [3] (.ph [22] (.st 23 (.fin))))))) 11 (.alt 0 (.ph [1,2] (.alt 3 (.st 21 (.ph [22] (.st 23 (.fin)))) 21 (.ph [3] (.ph [22] (.st 23 (.fin)))))) 21 (.ph [0] (.ph [1] (.ph [2] (.ph [3] (.ph [22] (.st 23 (.fin)))))))))) (.non))))),(12,.ph [1,2,3,4,5] (.alt 0 (.st 6 (.st 7 (.st 8 (.ph [9] (.ph [10] (.st 11 (.fin))))))) 6 (.alt 0 (.st 7 (.st 8 (.ph [9] (.ph [10] (.st 11 (.fin)))))) 7 (.alt 0 (.st 8 (.ph [9] (.ph [10] (.st 11 (.fin))))) 8 (.ph [0] (.ph [9] (.ph [10] (.st 11 (.fin))))))))),(14,.ph [1,2,3,4,5,6,7,8,9,10] (.alt 0 (.st 11 (.ph [12] (.ph [13] (.st 14 (.fin))))) 11 (.ph [0] (.ph [12] (.ph [13] (.st 14 (.fin)))))))]
theorem place1_ct (B:List Bd) (s:List Dz) (d2 d3 d4 d5 d6:D) (r x:Rf):Cr 177 [x.d,.ref [.ref [bds B,.mapb (mpB (apL s)),d2,d3,d4,d5,d6]],.ref (Rf.f r)] (.bool (barB s x r)):=by
 refine .det (De Tryz.func177 ord177 [] ?_)
 repeat' first|refine S0 ?_;conv=>whnf|exact T0|refine T2 ?_ ?_|refine K1 ?_|(refine M0 (g:=97) (bars_ct _ _ _ _) ?_)
def stK (bars:Rf->Rf->Bool) (B:List Bd) (rs:List Rf) (r:Rf) (S:List (List Rf)) (st:Xs) (k:Nat):Xs :=
 (List.range k).foldl (fun st k=>if (S.getD k []).any (fun b=>bars b r)=true then st else plc bars B rs (S.set k (S.getD k [] ++ [r])) st) st
theorem stK_step (bars:Rf->Rf->Bool) (B:List Bd) (rs:List Rf) (r:Rf) (S:List (List Rf)) (st:Xs) (k:Nat):stK bars B rs r S st (k+1)=if (S.getD k []).any (fun b=>bars b r)=true then stK bars B rs r S st k else plc bars B rs (S.set k (S.getD k [] ++ [r])) (stK bars B rs r S st k):=by
 unfold stK;rw [List.range_succ,List.foldl_append];rfl
theorem getD_setL {α:Type} (S:List α) (k j:Nat) (x z:α) (hk:k<S.length):(S.set k x).getD j z=if j=k then x else S.getD j z:=by
 simp only [gDe,List.getElem?_set];by_cases e:k=j
 ·subst e;simp [hk]
 ·rw [if_neg e,if_neg (Ne.symm e)]
theorem fam_put {S:List (List Rf)} {k x n:Nat} {m:List Rf} {f:Nat->List D} (hk:k<S.length) (hx:x=k) (h:n=m.length/\∀ q,q<m.length->f q=Rf.f (m.getD q Rf.z)) (j:Nat):LeF (if j=x then [.ftab 102 2 n f] else [rfsO (S.getD j [])]) [rfsO ((S.set k m).getD j [])]:=by
 subst hx;rw [getD_setL _ _ _ _ _ hk];by_cases e:j=x
 ·rw [if_pos e,if_pos e];exact .ftab h.1 fun q hq=>h.2 q (by rw [<-h.1];exact hq)
 ·rw [if_neg e,if_neg e];exact LeF.refl _
theorem fam_app {L:List (List Rf)} {r:Rf} {g:Nat->List D} {n m:Nat} {f:Nat->List D} (hg:g 0 = [.ftab 102 2 1 f]) (hf:f 0=Rf.f r) (hn:n=L.length) (hm:m=L.length+1):m=(L ++ [[r]]).length/\∀ i,i<(L ++ [[r]]).length->LeF (if i<n then [rfsO (L.getD i [])] else g (i - n)) [rfsO ((L ++ [[r]]).getD i [])]:=by
 subst hn hm;refine ⟨by simp,fun i hi=>?_⟩;rw [lap,List.length_singleton] at hi;by_cases h:i<L.length
 ·rw [if_pos h,getD_app1 _ _ _ _ h];exact LeF.refl _
 ·have:i=L.length:=by omega
  subst this;rw [if_neg h,Nat.sub_self,hg,getD_app2]
  exact .ftab rfl fun q hq=>by obtain rfl:q=0:=by omega
                               exact hf
theorem fam_pop {S:List (List Rf)} {k x n:Nat} {r:Rf} {f:Nat->List D} (hk:k<S.length) (hx:x=k) (h:n=(S.getD k []).length/\∀ q,q<(S.getD k []).length->f q=Rf.f ((S.getD k []).getD q Rf.z)) (j:Nat):LeF (if j=x then [.ftab 102 2 n f] else [rfsO ((S.set k (S.getD k [] ++ [r])).getD j [])]) [rfsO (S.getD j [])]:=by
 subst hx;by_cases e:j=x
 ·subst e;rw [if_pos rfl];exact .ftab h.1 fun q hq=>h.2 q (by rw [<-h.1];exact hq)
 ·rw [if_neg e,getD_setL _ _ _ _ _ hk,if_neg e];exact LeF.refl _
set_option maxHeartbeats 8000000 in
theorem place_ct (B:List Bd) (s:List Dz) (R:List Rf) (hB:BdV B) (hR:R.length<=8) (hRa:Asc R):∀ (rs:List Rf) (i:Nat) (S:List (List Rf)) (st:Xs),R.drop i=rs->i<=R.length->SInv (barB s) R rs S->S.length<=i->Pers (barB s) B R st.best ->
 Ct Tryz.prog 126 [.fbox (srch B s R S st),i64 i] fun q outs=>q = .tup []/\outs = [.fbox (srch B s R S (plc (barB s) B rs S st))]
 | [],i,S,st,hd,hi,hS,hSi,hst=>by
   have hiR:i=R.length:=by have:=List.drop_eq_nil_iff.1 hd;omega
   have hok:SOk R S:=⟨by omega,fun p hp=>(hS.asc p hp).nodup,fun p hp=>Nat.le_trans (nodup_len (hS.asc p hp).nodup (hS.sub p hp)) hR⟩;have hbl:=Pers_len hst;have hf:=finish_ct B s R S st hB hok (by omega) (by omega);rw [plc];refine .det (De Tryz.func126 ordPlace [8,12] ?_)
   repeat' first|(refine CallOK.io1 (g:=176) (Step.out ?_))|refine S0 ?_;conv=>whnf|exact T0|exact T1|refine B1 ?_|(refine M0 hf ?_)|(exact ⟨rfl,fun _ _=>LeF.refl _⟩)|refine T2 ?_ ?_
 | r :: rs,i,S,st,hd,hi,hS,hSi,hst=>by
   have ih:=place_ct B s R hB hR hRa rs (i+1)
   have hil:i<R.length:=by
    have:=congrArg List.length hd;rw [List.length_drop,List.length_cons] at this;omega
   have hdr:=drop_step R Rf.z i hil;rw [hd,List.cons.injEq] at hdr;obtain ⟨rfl,hrs⟩:=hdr;have hrR:R.getD i Rf.z ∈ R:=getD_mem hil
   have hlt:∀ x ∈ rs,ltR (R.getD i Rf.z) x:=by
    have:Asc (R.getD i Rf.z :: rs):=by rw [<-hd];exact List.Pairwise.sublist (List.drop_sublist _ _) hRa
    exact (List.pairwise_cons.1 this).1
   have hrsR:∀ x ∈ rs,x ∈ R:=fun x hx=>List.mem_of_mem_drop (i:=i+1) (by rw [<-hrs];exact hx)
   have hrsA:Asc rs:=by rw [hrs];exact List.Pairwise.sublist (List.drop_sublist _ _) hRa
   have hgood:∀ k,k<=S.length->Pers (barB s) B R (stK (barB s) B rs (R.getD i Rf.z) S st k).best:=fun k=>by
    induction k with
    | zero=>exact fun _=>hst
    | succ k ihk =>
      intro hk;rw [stK_step];split
      ·exact ihk (by omega)
      ·rename_i hb;exact plc_good rs _ _ hrsA hrsR (hS.put hrR hlt (by omega) (by simpa using hb)) (ihk (by omega))
   have hrow:∀ p ∈ S,p.length<=8:=fun p hp=>Nat.le_trans (nodup_len (hS.asc p hp).nodup (hS.sub p hp)) hR
   rw [plc]
   show Ct _ _ _ fun q outs=>q = .tup []/\outs = [.fbox (srch B s R S (plc (barB s) B rs (S ++ [[R.getD i Rf.z]]) (stK (barB s) B rs (R.getD i Rf.z) S st S.length)))]
   refine .det (De Tryz.func126 ordPlace [8,12] ?_)
   repeat' first|refine S0 ?_;conv=>whnf|refine Vo ?_|refine B0 ?_
   refine Lw ordPlace [8,12] (α:=Nat) (fun k=>[(0,.loc 0 0),(1,i64 i),(2,.loc 2 0),(4,.loc 3 0),(26,i64 S.length),(27,i64 k)]) (fun k=>[(2,.var [.loc 0 0]),(3,.var (Rf.f (R.getD i Rf.z))),(0,.var [bds B,.mapb (mpB (apL s)),rfs R,.own 1,.bool (stK (barB s) B rs (R.getD i Rf.z) S st k).f,rss (stK (barB s) B rs (R.getD i Rf.z) S st k).best,i64 (stK (barB s) B rs (R.getD i Rf.z) S st k).v]),(1,.fam 128 1 S.length fun j=>[rfsO (S.getD j [])])]) 4 (fun k=>k<=S.length) (fun k=>S.length - k) ?_ ?_
   ·refine Again.by 0 (zle _) ?_
    repeat' first|refine S0 ?_;conv=>whnf|refine Vo ?_|exact T0|(rfl)|(exact ⟨rfl,fun _ _=>rfl⟩)|(exact ⟨rfl,fun _ _=>LeF.refl _⟩)|refine Vm ?_ ?_
   ·intro k hk;by_cases hks:k<S.length
    ·have hst:=stK_step (barB s) B rs (R.getD i Rf.z) S st k;have hmS:S.getD k [] ∈ S:=getD_mem hks;have hl8:(S.getD (k:Int).toNat []).length<=8:=hrow _ hmS;have hjd:(S.getD (k:Int).toNat []).any (fun b=>barB s b (R.getD i Rf.z))=(S.getD k []).any (fun b=>barB s b (R.getD i Rf.z)):=rfl
     have hc:∀ d2 d3 d4 d5 d6,immL [d2,d3,d4,d5,d6]=true->Cr 95 [rfs (S.getD (k:Int).toNat []),.fn 177 [.ref [.ref [bds B,.mapb (mpB (apL s)),d2,d3,d4,d5,d6]],.ref (Rf.f (R.getD i Rf.z))]] (.bool ((S.getD (k:Int).toNat []).any (fun b=>barB s b (R.getD i Rf.z)))):=fun d2 d3 d4 d5 d6 h =>
      conR_ct _ _ _ (fun b=>barB s b (R.getD i Rf.z)) (by omega) (by rfl) fun x _=>(place1_ct B s d2 d3 d4 d5 d6 _ x).mono fun _ _ h=>h.1
     generalize (S.getD (k:Int).toNat []).any (fun b=>barB s b (R.getD i Rf.z))=jv at hc hjd
     repeat' first|refine S0 ?_;conv=>whnf|refine Vo ?_|exact noSh_bool _|refine W6 ?_|refine B1 ?_|(refine M0 (hc _ _ _ _ _ rfl) ?_)|(refine Bm (fun h=>?_) fun h=>?_)|(refine Row.by _ (LeF.refl _) ?_)|refine K0 ?_|refine Vm ?_ ?_
     ·rw [if_pos (by rw [<-hjd];exact h)] at hst
      refine Again.by (k+1) ⟨by omega,by omega⟩ ?_
      rw [hst]
      repeat' first|refine S0 ?_;conv=>whnf|refine Vo ?_|exact T0|(exact ⟨rfl,fun j _=>fam_same S _ j⟩)|refine Vm ?_ ?_
     ·refine Cw ordPlace [12] (α:=Unit) (fun z=>[(0,.loc 0 0),(1,i64 i),(2,.loc 2 0),(4,.loc 3 0),(5,i64 k),(26,i64 S.length),(27,i64 k)]) (fun z=>[(2,.var [.loc 0 0]),(3,.var (Rf.f (R.getD i Rf.z))),(0,.var [bds B,.mapb (mpB (apL s)),rfs R,.own 1,.bool (stK (barB s) B rs (R.getD i Rf.z) S st k).f,rss (stK (barB s) B rs (R.getD i Rf.z) S st k).best,i64 (stK (barB s) B rs (R.getD i Rf.z) S st k).v]),(1,.fam 128 1 (S.set k (S.getD k [] ++ [R.getD i Rf.z])).length fun j=>[rfsO ((S.set k (S.getD k [] ++ [R.getD i Rf.z])).getD j [])])]) 4 (fun z=>True) ?_ ?_
      ·repeat' first|refine S0 ?_;conv=>whnf|refine Vo ?_|refine Vb ?_|exact T0|refine T2 ?_ ?_
       all_goals refine Again.by () trivial ?_
       repeat' first|refine S0 ?_;conv=>whnf|refine Vo ?_|exact T0|refine Vm ?_ ?_
       all_goals
        refine ⟨List.length_set.symm,fun j _=>fam_put hks (tnc k) ?_ j⟩;exact rf_app (S.getD k []) [R.getD i Rf.z] _ (Nat.zero_lt_succ _) (fun j hj=>by match j,hj with | 0,_=>rfl) _ _ rfl rfl
      ·intro _ _;have hput:SInv (barB s) R rs (S.set k (S.getD k [] ++ [R.getD i Rf.z])):=hS.put hrR hlt hks (by rw [<-hjd];exact h);have hl1:(S.set k (S.getD k [] ++ [R.getD i Rf.z])).length=S.length:=List.length_set;have hc2:=ih (S.set k (S.getD k [] ++ [R.getD i Rf.z])) (stK (barB s) B rs (R.getD i Rf.z) S st k) hrs.symm (by omega) hput (by omega) (hgood k hk);rw [if_neg (by rw [<-hjd,h];simp)] at hst;rw [<-hst] at hc2
       have hgk:(S.set k (S.getD k [] ++ [R.getD i Rf.z])).getD (k:Int).toNat []=S.getD k [] ++ [R.getD i Rf.z]:=by rw [tnc,getD_setL _ _ _ _ _ hks,if_pos rfl]
       have hl8' : (S.getD k []).length<=8:=hl8
       have hg1:((S.set k (S.getD k [] ++ [R.getD i Rf.z])).getD (k:Int).toNat []).length=(S.getD k []).length+1:=by rw [hgk];simp
       repeat' first|(refine CallOK.io1 (g:=126) (Step.out ?_))|refine S0 ?_;conv=>whnf|refine Vo ?_|exact T0|refine W6 ?_|(refine M0 hc2 ?_)|refine T2 ?_ ?_|(refine Row.by _ (LeF.refl _) ?_)
       all_goals refine Again.by (k+1) ⟨by omega,by omega⟩ ?_
       repeat' first|refine S0 ?_;conv=>whnf|refine Vo ?_|exact T0|refine Vm ?_ ?_
       all_goals
        refine ⟨hl1,fun j _=>fam_pop hks (tnc k) ⟨?_,fun q hq=>?_⟩ j⟩
        ·rw [hg1];omega
        ·rw [hgk,getD_app1 _ _ _ _ hq]
    ·obtain rfl:k=S.length:=by omega
     repeat' first|refine S0 ?_;conv=>whnf|refine B0 ?_
     refine Cw ordPlace [] (α:=Unit) (fun z=>[(0,.loc 0 0),(1,i64 i),(2,.loc 2 0),(4,.loc 3 0)]) (fun z=>[(2,.var [.loc 0 0]),(3,.var (Rf.f (R.getD i Rf.z))),(0,.var [bds B,.mapb (mpB (apL s)),rfs R,.own 1,.bool (stK (barB s) B rs (R.getD i Rf.z) S st S.length).f,rss (stK (barB s) B rs (R.getD i Rf.z) S st S.length).best,i64 (stK (barB s) B rs (R.getD i Rf.z) S st S.length).v]),(1,.fam 128 1 (S ++ [[R.getD i Rf.z]]).length fun j=>[rfsO ((S ++ [[R.getD i Rf.z]]).getD j [])])]) 4 (fun z=>True) ?_ ?_
     ·repeat' first|refine S0 ?_;conv=>whnf|refine Vb ?_|refine T2 ?_ ?_
      all_goals refine Again.by () trivial ?_
      repeat' first|refine S0 ?_;conv=>whnf|refine Vo ?_|exact T0|refine Vm ?_ ?_
      all_goals exact fam_app (r:=R.getD i Rf.z) (g:=fun _=>[.ftab 102 2 1 fun q=>selC [Rf.f (R.getD i Rf.z)] q]) rfl rfl rfl rfl
     ·intro _ _;have hput:SInv (barB s) R rs (S ++ [[R.getD i Rf.z]]):=hS.push hrR hlt
      have hl1:(S ++ [[R.getD i Rf.z]]).length=S.length+1:=by simp
      have hc2:=ih (S ++ [[R.getD i Rf.z]]) (stK (barB s) B rs (R.getD i Rf.z) S st S.length) hrs.symm (by omega) hput (by omega) (hgood _ (Nat.le_refl _))
      repeat' first|(refine CallOK.io1 (g:=126) (Step.out ?_))|refine S0 ?_;conv=>whnf|refine Vo ?_|exact T0|exact T1|refine W6 ?_|(refine M0 hc2 ?_)|refine T2 ?_ ?_
      all_goals
       refine ⟨by rw [hl1];omega,fun j hj=>?_⟩;dsimp only;rw [getD_app1 _ _ _ _ hj];exact LeF.refl _
end Kx
open Go Sx Go.Proofs
namespace Kx
theorem exact_ct (l:List Bd) (s:List Dz) (B:List Bd) (hB:BdV B) (hR:(refsL B).length<=8):Cr 76 [rul l s,bds B] (rss (exactL (barB s) B)):=by
 have hn:=hB.n;have hc:=place_ct B s (refsL B) hB hR (refsL_asc B) (refsL B) 0 [] ⟨false,[],0⟩ rfl (zle _) ⟨by simp,by simp,by simp,by simp,by simp,by simp,by simp⟩ (zle _) ⟨by simp,by simp,by simp,by simp⟩;have hrf:=refs_ct B hn;unfold exactL;generalize refsL B=R at *;refine .det (De Tryz.func76 ord76 [1] ?_)
 repeat' first|refine S0 ?_;conv=>whnf
 refine Cw ord76 [] (α:=Unit) (fun z=>[(5,.loc 0 0)]) (fun z=>[(0,.var [bds B,.mapb (mpB (apL s)),rfs R,.own 1,.bool false,rss [],i64 0]),(1,.fam 128 1 0 fun j=>[rfsO (([]:List (List Rf)).getD j [])])]) 2 (fun z=>True) ?_ ?_
 ·repeat' first|refine S0 ?_;conv=>whnf|(refine M0 hrf ?_)|refine K1 ?_
  all_goals refine Again.by () trivial ?_
  repeat' first|refine S0 ?_;conv=>whnf|refine Vo ?_|exact T0|refine Vm ?_ ?_
 ·intro _ _
  repeat' first|(refine CallOK.io1 (g:=126) (Step.out ?_))|refine S0 ?_;conv=>whnf|exact T0|exact T1|(refine M0 hc ?_)|refine T2 ?_ ?_
end Kx
