/-
  The forest of bonds; the refs of each component.
  No condition beyond those written in each theorem.
-/
import Derived.Test.YtjommlbfjnifmaaGreatDoorKB2
import Derived.Test.YtjommlbfjnifmaaGreatDoorKB1
import Derived.Test.YtjommlbfjnifmaaGreatDoorKA1
import Derived.Test.YtjommlbfjnifmaaGreatDoorFD
set_option linter.unusedSimpArgs false
set_option linter.unusedVariables false
set_option maxRecDepth 4000
open Go Sx Go.Proofs
namespace Kx
theorem take1 {α:Type} (L:List α) (z:α) (j:Nat) (h:j<L.length):L.take (j+1)=L.take j ++ [L.getD j z]:=by
 rw [List.take_add_one,gDe,List.getElem?_eq_getElem h];rfl
theorem fr_new {R:List Rf} (hn:R.Nodup) (i:Nat) (h:i<R.length):dput (frM (R.take i) id) (rk (R.getD i Rf.z)) (R.getD i Rf.z).d=frM (R.take (i+1)) id:=by
 have ho:R.getD i Rf.z ∉ R.take i:=fun hm=>by
  obtain ⟨j,hj⟩:=List.mem_iff_getElem?.1 hm
  have hji:j<i:=by
   have:=(List.getElem?_eq_some_iff.1 hj).1;rw [List.length_take] at this;omega
  rw [List.getElem?_take,if_pos hji] at hj
  have h2:R[i]? = some (R.getD i Rf.z):=by rw [gDe,List.getElem?_eq_getElem h];rfl
  have:=(List.getElem?_inj (by omega) hn).1 (hj.trans h2.symm);omega
 rw [frM,dput_out ho,frM,take1 R Rf.z i h,mapD,mapD,List.map_append];rfl
theorem uni_step (l:List Bd) (i:Nat) (h:i<l.length):uni (l.take (i+1))=uniF (uni (l.take i)) (l.getD i Bd.z):=by
 rw [take1 l Bd.z i h,uni,List.foldl_append];rfl
theorem uni_id (l:List Bd) (r:Rf):uni l (uni l r)=uni l r:=(uni_inv l).idem r
theorem grown_ct (l:List Bd) (h:BdV l):Ct Tryz.prog 134 [bds l] fun q outs=>∃ f:Rf->Rf,(∃ k,Fst (refsL l) (uni l) f k)/\q=frL (frM (refsL l) f)/\outs = []:=by
 have hn:=h.n;have hR:=(refsL_asc l).nodup;have hRl:=h.len
 have hin:∀ i,i<l.length->(l.getD i Bd.z).a ∈ refsL l/\(l.getD i Bd.z).b ∈ refsL l:=fun i hi=>by
  have hm:l.getD i Bd.z ∈ l:=by rw [gDe,List.getElem?_eq_getElem hi];exact List.getElem_mem hi
  exact ⟨refsL_a hm,refsL_b hm⟩
 have hc:=refs_ct l hn;generalize refsL l=R at *;refine .some (De Tryz.func134 ordGrown [] ?_)
 repeat' first|refine S0 ?_;conv=>whnf|(refine M0 hc ?_)|refine K0 ?_
 refine Lw ordGrown [] (α:=Nat) (fun i=>[(0,bds l),(3,.mref 0),(10,.own 1),(11,i64 R.length),(12,i64 i)]) (fun i=>[(0,.mpd true 2 (frM (R.take i) id)),(1,.arr 102 2 R.length fun j=>Rf.f (R.getD j Rf.z))]) 2 (fun i=>i<=R.length) (fun i=>R.length - i) ?_ ?_
 ·refine Again.by 0 (zle _) ?_
  repeat' first|refine S0 ?_;conv=>whnf|refine Vo ?_|exact T0|(exact MpdLe.of_eq rfl)|refine Vm ?_ ?_
 ·intro i hi
  repeat' first|refine S0 ?_;conv=>whnf|refine Vo ?_|refine W6 ?_|(refine Br.d (fun h=>?_) fun h=>?_)
  ·refine Again.by (i+1) ⟨by omega,by omega⟩ ?_
   repeat' first|refine S0 ?_;conv=>whnf|refine Vo ?_|exact T0|(exact MpdLe.of_eq (fr_new hR i (by omega)))|refine Vm ?_ ?_
  ·obtain rfl:i=R.length:=by omega
   refine Lw ordGrown [] (α:=Nat × (Rf->Rf)) (fun z=>[(3,.mref 0),(20,bds l),(21,i64 l.length),(22,i64 z.1)]) (fun z=>[(0,.mpd true 2 (frM R z.2))]) 2 (fun z=>z.1<=l.length/\∃ k,Fst R (uni (l.take z.1)) z.2 k) (fun z=>l.length - z.1) ?_ ?_
   ·refine Again.by (0,id) ⟨zle _,_,Fst.start R⟩ ?_
    repeat' first|refine S0 ?_;conv=>whnf|refine Vo ?_|exact T0|(exact MpdLe.of_eq (by rw [List.take_length]))|refine Vm ?_ ?_
   ·intro ⟨i,f⟩ ⟨hi,k,hk⟩;dsimp only at hi hk ⊢;by_cases hlt:i<l.length
    ·have ha:=hin (i:Int).toNat (by omega);have h1:=ha.1;have h2:=ha.2
     repeat' first|refine S0 ?_;conv=>whnf|refine Vo ?_|refine W6 ?_|refine B1 ?_|refine T2 ?_ ?_|(refine CallOK.ioM1 (g:=135) (Step.out ?_))|(refine Met.by (g:=135) (root_ct _ _ (by first | rfl | exact mkM_self _) (by assumption) (by omega) (by assumption) (by assumption)) ?_;rintro q outs ⟨f1,⟨⟨k1,hk1⟩,hx1,hf1,hm1⟩,rfl,rfl⟩)
     all_goals
      rename_i f2 k2 hk2 hx2 hf2 hm2;rw [tnc] at *;obtain ⟨k3,hk3⟩:=hk1.join (uni_id _) hm1 (hx1 _ hf2)
      refine Again.by (i+1,updR f1 (uni (l.take i) (l.getD i Bd.z).a) (uni (l.take i) (l.getD i Bd.z).b)) ⟨⟨by dsimp only;omega,k3,by rw [uni_step l i hlt];exact hk3⟩,by dsimp only;omega⟩ ?_
     repeat' first|refine S0 ?_;conv=>whnf|refine Vo ?_|exact T0|(exact MpdLe.of_eq ((congrArg (fun m=>dput m (rk (uni (l.take i) (l.getD i Bd.z).a)) (uni (l.take i) (l.getD i Bd.z).b).d) (mkM_self (frM R f1))).trans (fput hR hm2)))|refine Vm ?_ ?_
    ·obtain rfl:i=l.length:=by omega
     repeat' first|refine S0 ?_;conv=>whnf|exact T0|refine B0 ?_|(refine Lf.by f ⟨k,by rw [List.take_length] at hk;exact hk⟩ ?_)|(exact ⟨rfl,fun _ _=>⟨rfl,ImpD.refl _⟩⟩)|refine T2 ?_ ?_
def prN (U:Rf->Rf) (R:List Rf) (T:List Rf) (j:Nat):List Rf:=R.filter fun r=>decide (U r=T.getD j Rf.z)
def rss (L:List (List Rf)):D:=.tab 1 L.length fun i=>[rfs (L.getD i [])]
theorem prt_get (l:List Bd) (j:Nat) (h:j<(tops (uni l) (refsL l)).length):(prt l).getD j []=prN (uni l) (refsL l) (tops (uni l) (refsL l)) j:=by
 unfold prt prN;rw [gDe,List.getElem?_map,gDe,List.getElem?_eq_getElem h];rfl
theorem prN_step (U:Rf->Rf) (R T:List Rf) (i j:Nat) (h:i<R.length):prN U (R.take (i+1)) T j=if U (R.getD i Rf.z)=T.getD j Rf.z then prN U (R.take i) T j ++ [R.getD i Rf.z] else prN U (R.take i) T j:=by
 unfold prN;rw [take1 R Rf.z i h,List.filter_append];by_cases e:U (R.getD i Rf.z)=T.getD j Rf.z
 ·rw [if_pos e,List.filter_cons_of_pos (by simpa using e)];rfl
 ·rw [if_neg e,List.filter_cons_of_neg (by simpa using e)];simp
theorem getD_app1 {α:Type} (l:List α) (x z:α) (j:Nat) (h:j<l.length):(l ++ [x]).getD j z=l.getD j z:=by
 rw [gDe,List.getElem?_append_left h,gDe]
theorem getD_app2 {α:Type} (l:List α) (x z:α):(l ++ [x]).getD l.length z=x:=by
 rw [gDe,List.getElem?_append_right (Nat.le_refl _),Nat.sub_self];rfl
theorem getD_inj {l:List Rf} (hn:l.Nodup) {i j:Nat} (hi:i<l.length) (hj:j<l.length) (e:l.getD i Rf.z=l.getD j Rf.z):i=j:=by
 rw [gDe,gDe,List.getElem?_eq_getElem hi,List.getElem?_eq_getElem hj] at e;refine (List.getElem?_inj hi hn).1 ?_;rw [List.getElem?_eq_getElem hi,List.getElem?_eq_getElem hj];exact congrArg some e
theorem prN_out {U:Rf->Rf} {R T:List Rf} {t:Rf} (hT:∀ r ∈ R,U r ∈ T) (ht:t ∉ T):prN U R (T ++ [t]) T.length = []:=by
 unfold prN;rw [getD_app2,List.filter_eq_nil_iff];intro r hr e;rw [decide_eq_true_eq] at e;exact ht (e ▸ hT r hr)
theorem rowR_new (L:Nat->List D) (g:Nat->List D) (k n:Nat) (hk:k=n) (hg:g 0 = [.nil]):LeF (if k<n then L k else g (k - n)) [rfsO []]:=by
 subst hk;rw [if_neg (Nat.lt_irrefl _),Nat.sub_self,hg];exact .nil_ftab _ _ _ rfl
theorem rowR_app (m:List Rf) (x:Rf) (n:Nat) (f:Nat->List D) (h:n=(m ++ [x]).length/\∀ q,q<(m ++ [x]).length->f q=Rf.f ((m ++ [x]).getD q Rf.z)):LeF [.ftab 102 2 n f] [rfsO (m ++ [x])] :=
 .ftab h.1 fun q hq=>h.2 q (by rw [<-h.1];exact hq)
theorem tops_len (U:Rf->Rf) (R:List Rf) (h:R.length<=24):(tops U R).length<=24:=by
 have:=nodup_len (l:=tops U R) (m:=R.map U) (tops_nodup U R) fun x hx=>by
  obtain ⟨r,hr,e⟩:=mem_tops.1 hx;exact List.mem_map.2 ⟨r,hr,e⟩
 rw [List.length_map] at this;omega
theorem fam_in {U:Rf->Rf} {R T:List Rf} {i j x n:Nat} {f:Nat->List D} (hi:i<R.length) (hn:T.Nodup) (hj:j<T.length) (hTj:T[j]? = some (U (R.getD i Rf.z))) (hx:x=j) (h:n=(prN U (R.take i) T x ++ [R.getD i Rf.z]).length/\∀ q,q<(prN U (R.take i) T x ++ [R.getD i Rf.z]).length->f q=Rf.f ((prN U (R.take i) T x ++ [R.getD i Rf.z]).getD q Rf.z)) (q:Nat) (hq:q<T.length) :
 LeF (if q=x then [.ftab 102 2 n f] else [rfsO (prN U (R.take i) T q)]) [rfsO (prN U (R.take (i+1)) T q)]:=by
 subst hx
 have hTg:T.getD x Rf.z=U (R.getD i Rf.z):=by rw [gDe,hTj];rfl
 rw [prN_step U R T i q hi];by_cases e:q=x
 ·subst e;rw [if_pos rfl,if_pos hTg.symm];exact rowR_app _ _ _ _ h
 ·rw [if_neg e,if_neg fun e2=>e (getD_inj hn hq hj (e2.symm.trans hTg.symm))];exact LeF.refl _
theorem fam_new {U:Rf->Rf} {R T:List Rf} {i x n:Nat} {f:Nat->List D} {g:Nat->List D} (hi:i<R.length) (hTm:∀ r ∈ R.take i,U r ∈ T) (ht:U (R.getD i Rf.z) ∉ T) (hx:x=T.length) (h:n=([] ++ [R.getD i Rf.z]:List Rf).length/\∀ q,q<([] ++ [R.getD i Rf.z]:List Rf).length->f q=Rf.f (([] ++ [R.getD i Rf.z]:List Rf).getD q Rf.z)) (hg:∀ q,q<T.length->g q = [rfsO (prN U (R.take i) T q)]) (q:Nat) (hq:q<(T ++ [U (R.getD i Rf.z)]).length) :
 LeF (if q=x then [.ftab 102 2 n f] else g q) [rfsO (prN U (R.take (i+1)) (T ++ [U (R.getD i Rf.z)]) q)]:=by
 subst hx;rw [lap,List.length_singleton] at hq;rw [prN_step U R _ i q hi];by_cases e:q=T.length
 ·subst e;rw [if_pos rfl,if_pos (getD_app2 _ _ _).symm,prN_out hTm ht];exact rowR_app _ _ _ _ h
 ·have hq2:q<T.length:=by omega
  have he:(T ++ [U (R.getD i Rf.z)]).getD q Rf.z=T.getD q Rf.z:=getD_app1 _ _ _ _ hq2
  have hm:T.getD q Rf.z ∈ T:=by rw [gDe,List.getElem?_eq_getElem hq2];exact List.getElem_mem hq2
  rw [if_neg e,if_neg fun e2=>ht (by rw [e2,he];exact hm),hg q hq2];unfold prN;rw [he];exact LeF.refl _
def ordOf:Ords:=[(16,.ph [0,1,2,3,4,6] (.alt 5 (.st 7 (.st 8 (.ph [9] (.st 10 (.fin))))) 7 (.st 5 (.st 8 (.ph [9] (.st 10 (.fin)))))))]
theorem cof_ct (l:List Bd) (h:BdV l):Cr 79 [bds l] (.tup [rss (prt l),i64 0]):=by
 have hn:=h.n;have hR:=(refsL_asc l).nodup;have hRl:=h.len;have hck:=ccheck_ct l h;have hg:=grown_ct l h;have hc:=refs_ct l hn;have hget:=prt_get l
 have hlen:(prt l).length=(tops (uni l) (refsL l)).length:=by unfold prt;simp
 have hid:=uni_id l;generalize refsL l=R at *;generalize uni l=U at *;refine .det (De Tryz.func79 ordOf [] ?_)
 repeat' first|refine S0 ?_;conv=>whnf|refine B1 ?_|(refine M0 hck ?_)|(refine Met.by hg ?_;rintro q outs ⟨f,⟨k,hk⟩,rfl,rfl⟩)|(refine Met.by hc ?_;rintro q outs ⟨rfl,rfl⟩)|refine Br.bnot ?_|refine K0 ?_
 refine Lw ordOf [] (α:=Nat × (Rf->Rf)) (fun z=>[(5,.mref 0),(6,.mref 1),(7,.own 3),(22,.own 2),(23,i64 R.length),(24,i64 z.1)]) (fun z=>[(0,.mpd true 2 (frM R z.2)),(1,.mp ⟨true,false,atN 0 (tops U (R.take z.1))⟩),(2,.arr 102 2 R.length fun j=>Rf.f (R.getD j Rf.z)),(3,.fam 128 1 (tops U (R.take z.1)).length fun j=>[rfsO (prN U (R.take z.1) (tops U (R.take z.1)) j)])]) 4 (fun z=>z.1<=R.length/\∃ k,Fst R U z.2 k) (fun z=>R.length - z.1) ?_ ?_
 ·refine Again.by (0,f) ⟨zle _,k,hk⟩ ?_
  repeat' first|refine S0 ?_;conv=>whnf|refine Vo ?_|exact T0|(rfl)|(exact MpdLe.of_eq (mkM_self _))|refine Vm ?_ ?_
 ·intro ⟨i,f⟩ ⟨hi,k,hk⟩;dsimp only at hi hk ⊢;by_cases hlt:i<R.length
  ·have hr:R.getD (i:Int).toNat Rf.z ∈ R:=by rw [tnc,gDe,List.getElem?_eq_getElem hlt];exact List.getElem_mem hlt
   have hTn:=tops_nodup U (R.take i)
   have hTm:∀ r ∈ R.take i,U r ∈ tops U (R.take i):=fun r hr=>mem_tops.2 ⟨r,hr,rfl⟩
   have hTl:(tops U (R.take i)).length<=24:=tops_len U _ (by rw [List.length_take];omega)
   have hpl:∀ j,(prN U (R.take i) (tops U (R.take i)) j).length<=24:=fun j=>Nat.le_trans (List.length_filter_le _ _) (by rw [List.length_take];omega)
   have hst:tops U (R.take (i+1))=topF U (tops U (R.take i)) (R.getD i Rf.z):=by rw [take1 R Rf.z i hlt,tops_snoc]
   have hps:=fun T j=>prN_step U R T i j hlt
   unfold topF at hst;generalize tops U (R.take i)=T at *;by_cases ht:U (R.getD (i:Int).toNat Rf.z) ∈ T
   ·obtain ⟨j,hj,hTj⟩:=at_some ht;have hsome:(mget (atN 0 T) [(U (R.getD (i:Int).toNat Rf.z)).g,(U (R.getD (i:Int).toNat Rf.z)).i]).isSome=true:=congrArg Option.isSome hj;have hgd:(mget (atN 0 T) [(U (R.getD (i:Int).toNat Rf.z)).g,(U (R.getD (i:Int).toNat Rf.z)).i]).getD 0=(j:Int):=congrArg (fun o=>Option.getD o 0) hj;have hjl:j<T.length:=(List.getElem?_eq_some_iff.1 hTj).1;have hT1:tops U (R.take (i+1))=T:=hst.trans (if_pos (by rw [tnc] at ht;exact ht))
    have hx:((mget (atN 0 T) [(U (R.getD (i:Int).toNat Rf.z)).g,(U (R.getD (i:Int).toNat Rf.z)).i]).getD 0).toNat=j:=by rw [hgd];rfl
    repeat' first|refine S0 ?_;conv=>whnf|refine Vo ?_|refine Vb ?_|refine W6 ?_|refine B1 ?_|(refine Br.mk (fun h=>Step.out ?_) (fun h=>absurd (h.symm.trans hsome) Bool.noConfusion))|(exact ⟨⟨rfl,rfl⟩,atN_wf _ _⟩)|(exact (Nat.le_trans (Nat.mul_le_mul_right 16 (Nat.succ_le_succ (hpl _))) (by decide)))|refine Br.bnot ?_|refine T2 ?_ ?_|(refine Row.by _ (LeF.refl _) ?_)|(refine CallOK.ioM1 (g:=135) (Step.out ?_))|(refine Met.by (g:=135) (root_ct _ _ (by first | rfl | exact mkM_self _) (by assumption) (by omega) (by assumption) (by assumption)) ?_;rintro q outs ⟨f1,⟨⟨k1,hk1⟩,hx1,hf1,hm1⟩,rfl,rfl⟩)|refine Vm ?_ ?_
    all_goals refine Again.by (i+1,f1) ⟨⟨by dsimp only;omega,k1,hk1⟩,by dsimp only;omega⟩ ?_
    repeat' first|refine S0 ?_;conv=>whnf|refine Vo ?_|exact T0|(exact MpdLe.of_eq (mkM_self _))|(dsimp only;rw [hT1];done)|refine Vm ?_ ?_
    all_goals
     dsimp only;rw [hT1];refine ⟨rfl,fam_in hlt hTn hjl hTj hx ?_⟩;exact rf_app _ [R.getD i Rf.z] _ (Nat.zero_lt_succ _) (fun j hj=>by match j,hj with | 0,_=>rfl) _ _ rfl rfl
   ·have hno:=at_none ht;have hsome:(mget (atN 0 T) [(U (R.getD (i:Int).toNat Rf.z)).g,(U (R.getD (i:Int).toNat Rf.z)).i]).isSome=false:=congrArg Option.isSome hno;have hT1:tops U (R.take (i+1))=T ++ [U (R.getD i Rf.z)]:=hst.trans (if_neg (by rw [tnc] at ht;exact ht));have hput:=at_put ht
    repeat' first|refine S0 ?_;conv=>whnf|refine Vo ?_|refine Vb ?_|exact T0|refine W6 ?_|refine B1 ?_|(refine Br.mk (fun h=>absurd (h.symm.trans hsome) Bool.noConfusion) (fun h=>Step.out ?_))|(exact ⟨⟨rfl,rfl⟩,atN_wf _ _⟩)|(refine Row.by [rfsO []] (rowR_new (fun j=>[rfsO (prN U (R.take i) T j)]) (fun i=>selC [[.nil]] i) (T.length:Int).toNat T.length (tnc _) rfl) ?_)|refine Br.bnot ?_|refine T2 ?_ ?_|(refine CallOK.ioM1 (g:=135) (Step.out ?_))|(refine Met.by (g:=135) (root_ct _ _ (by first | rfl | exact mkM_self _) (by assumption) (by omega) (by assumption) (by assumption)) ?_;rintro q outs ⟨f1,⟨⟨k1,hk1⟩,hx1,hf1,hm1⟩,rfl,rfl⟩)|refine Vm ?_ ?_
    all_goals refine Again.by (i+1,f1) ⟨⟨by dsimp only;omega,k1,hk1⟩,by dsimp only;omega⟩ ?_
    repeat' first|refine S0 ?_;conv=>whnf|refine Vo ?_|exact T0|(exact MpdLe.of_eq (mkM_self _))|(dsimp only;rw [hT1];exact congrArg (fun l=>MpL.mk true false l) hput)|refine Vm ?_ ?_
    all_goals
     dsimp only;rw [hT1];refine ⟨by simp,fam_new hlt hTm (by rw [tnc] at ht;exact ht) (tnc _) ?_ fun q hq=>if_pos hq⟩;exact rf_app [] [R.getD i Rf.z] _ (Nat.zero_lt_succ _) (fun j hj=>by match j,hj with | 0,_=>rfl) _ _ rfl rfl
  ·obtain rfl:i=R.length:=by omega
   rw [List.take_length] at *
   repeat' first|refine S0 ?_;conv=>whnf|exact T0|refine B0 ?_|refine T2 ?_ ?_
   exact ⟨hlen.symm,fun i hi=>by dsimp only;rw [hget i (by omega)];rfl⟩
end Kx
open Go Sx Go.Proofs
namespace Kx
def bdss (L:List (List Bd)):D:=.tab 1 L.length fun i=>[bds (L.getD i [])]
def brN (U:Rf->Rf) (l:List Bd) (T:List Rf) (j:Nat):List Bd:=l.filter fun b=>decide (U b.a=T.getD j Rf.z)
theorem cbs_get (l:List Bd) (j:Nat) (h:j<(tops (uni l) (refsL l)).length):(cbs l).getD j []=brN (uni l) l (tops (uni l) (refsL l)) j:=by
 unfold cbs brN;rw [gDe,List.getElem?_map,gDe,List.getElem?_eq_getElem h];rfl
def ordSplit:Ords:=[(19,.ph [0,1,2,3,4,6] (.alt 5 (.st 7 (.st 8 (.ph [9] (.st 10 (.fin))))) 7 (.st 5 (.st 8 (.ph [9] (.st 10 (.fin)))))))]
theorem brN_step (U:Rf->Rf) (l:List Bd) (T:List Rf) (i j:Nat) (h:i<l.length):brN U (l.take (i+1)) T j=if U (l.getD i Bd.z).a=T.getD j Rf.z then brN U (l.take i) T j ++ [l.getD i Bd.z] else brN U (l.take i) T j:=by
 unfold brN;rw [take1 l Bd.z i h,List.filter_append];by_cases e:U (l.getD i Bd.z).a=T.getD j Rf.z
 ·rw [if_pos e,List.filter_cons_of_pos (by simpa using e)];rfl
 ·rw [if_neg e,List.filter_cons_of_neg (by simpa using e)];simp
theorem bd_app (a b:List Bd) (f:Nat->List D) (hb:0<b.length) (hf:∀ i,i<b.length->f i=Bd.f (b.getD i Bd.z)) (n m:Nat) (hn:n=a.length) (hm:m=a.length+b.length):m=(a ++ b).length/\∀ i,i<(a ++ b).length->iteL (i<n) (Bd.f (a.getD i Bd.z)) (f (i - n))=Bd.f ((a ++ b).getD i Bd.z):=by
 subst hn hm;refine ⟨by simp,fun i hi=>?_⟩;rw [hf _ (by rw [lap] at hi;omega),ite_bd]
 congr 1
 split
 ·rename_i h;rw [gDe,gDe,List.getElem?_append_left h]
 ·rename_i h;rw [gDe,gDe,List.getElem?_append_right (by omega)]
theorem famb_in {U:Rf->Rf} {l:List Bd} {T:List Rf} {i j x n:Nat} {f:Nat->List D} (hi:i<l.length) (hn:T.Nodup) (hj:j<T.length) (hTg:T.getD j Rf.z=U (l.getD i Bd.z).a) (hx:x=j) (h:n=(brN U (l.take i) T x ++ [l.getD i Bd.z]).length/\∀ q,q<(brN U (l.take i) T x ++ [l.getD i Bd.z]).length->f q=Bd.f ((brN U (l.take i) T x ++ [l.getD i Bd.z]).getD q Bd.z)) (q:Nat) (hq:q<T.length) :
 LeF (if q=x then [.ftab 119 5 n f] else [bdsO (brN U (l.take i) T q)]) [bdsO (brN U (l.take (i+1)) T q)]:=by
 subst hx;rw [brN_step U l T i q hi];by_cases e:q=x
 ·subst e;rw [if_pos rfl,if_pos hTg.symm]
  exact .ftab h.1 fun q hq=>h.2 q (by rw [<-h.1];exact hq)
 ·rw [if_neg e,if_neg fun e2=>e (getD_inj hn hq hj (e2.symm.trans hTg.symm))];exact LeF.refl _
theorem split_ct (l:List Bd) (h:BdV l):Cr 80 [bds l] (.tup [bdss (cbs l),i64 0]):=by
 have hn:=h.n;have hR:=(refsL_asc l).nodup;have hRl:=h.len;have hof:=cof_ct l h;have hget:=prt_get l;have hget2:=cbs_get l
 have hlen:(prt l).length=(tops (uni l) (refsL l)).length:=by unfold prt;simp
 have hlen2:(cbs l).length=(tops (uni l) (refsL l)).length:=by unfold cbs;simp
 have hin:∀ i,i<l.length->(l.getD i Bd.z).a ∈ refsL l:=fun i hi=>by
  have hm:l.getD i Bd.z ∈ l:=by rw [gDe,List.getElem?_eq_getElem hi];exact List.getElem_mem hi
  exact refsL_a hm
 have hTl:=tops_len (uni l) (refsL l) hRl;have hTn:=tops_nodup (uni l) (refsL l)
 have hTm:∀ r ∈ refsL l,uni l r ∈ tops (uni l) (refsL l):=fun r hr=>mem_tops.2 ⟨r,hr,rfl⟩
 generalize refsL l=R at *;generalize uni l=U at *;generalize tops U R=T at *;generalize prt l=P at *;generalize cbs l=C at *;refine .det (De Tryz.func80 ordSplit [] ?_)
 repeat' first|refine S0 ?_;conv=>whnf|refine B1 ?_|(refine M0 hof ?_)|refine Br.bnot ?_|refine K0 ?_
 refine Lw ordSplit [] (α:=Nat × List (List Int × Int)) (fun z=>[(0,bds l),(4,rss P),(6,.mref 0),(24,rss P),(25,i64 P.length),(26,i64 z.1)]) (fun z=>[(0,.mp ⟨true,false,z.2⟩)]) 1 (fun z=>z.1<=P.length/\(∀ x ∈ z.2,x.1.length=2)/\∀ r ∈ R,∀ j,j<z.1->U r=T.getD j Rf.z->mget z.2 (rk r)=some (j:Int)) (fun z=>P.length - z.1) ?_ ?_
 ·refine Again.by (0,[]) ⟨zle _,by simp,fun r _ j hj=>absurd hj (Nat.not_lt_zero j)⟩ ?_
  repeat' first|refine S0 ?_;conv=>whnf|refine Vo ?_|exact T0|(rfl)|refine Vm ?_ ?_
 ·intro ⟨i,m⟩ ⟨hi,hw,hk⟩;dsimp only at hi hw hk ⊢;by_cases hlt:i<P.length
  ·have hpg:=hget i (by omega)
   have hpl:(P.getD i []).length<=24:=by rw [hpg];exact Nat.le_trans (List.length_filter_le _ _) hRl
   have hPi:∀ q,q<(P.getD i []).length->U ((P.getD i []).getD q Rf.z)=T.getD i Rf.z/\(P.getD i []).getD q Rf.z ∈ R:=fun q hq=>by
    have hm:(P.getD i []).getD q Rf.z ∈ prN U R T i:=by
     rw [gDe (l:=P.getD i []),List.getElem?_eq_getElem hq,<-hpg];exact List.getElem_mem hq
    have:=List.mem_filter.1 hm;exact ⟨of_decide_eq_true this.2,this.1⟩
   repeat' first|refine S0 ?_;conv=>whnf|refine Vo ?_|refine B1 ?_
   refine Lw ordSplit [] (α:=Nat × List (List Int × Int)) (fun w=>[(0,bds l),(4,rss P),(6,.mref 0),(7,i64 i),(24,rss P),(25,i64 P.length),(26,i64 i),(31,rfs (P.getD i [])),(32,i64 (P.getD i []).length),(33,i64 w.1)]) (fun w=>[(0,.mp ⟨true,false,w.2⟩)]) 1 (fun w=>w.1<=(P.getD i []).length/\(∀ x ∈ w.2,x.1.length=2)/\(∀ r ∈ R,∀ j,j<i->U r=T.getD j Rf.z->mget w.2 (rk r)=some (j:Int))/\∀ q,q<w.1->mget w.2 (rk ((P.getD i []).getD q Rf.z))=some (i:Int)) (fun w=>(P.getD i []).length - w.1) ?_ ?_
   ·refine Again.by (0,m) ⟨zle _,hw,hk,fun q hq=>absurd hq (Nat.not_lt_zero q)⟩ ?_
    repeat' first|refine S0 ?_;conv=>whnf|refine Vo ?_|exact T0|(rfl)|(exact ⟨rfl,fun _ _=>rfl⟩)|refine Vm ?_ ?_
   ·intro ⟨q,m⟩ ⟨hq,hw,hk,hmq⟩;dsimp only at hq hw hk hmq ⊢
    repeat' first|refine S0 ?_;conv=>whnf|refine Vo ?_|refine W6 ?_|(exact ⟨⟨rfl,rfl⟩,hw⟩)|(refine Br.d (fun h=>?_) fun h=>?_)|refine Vm ?_ ?_
    ·refine Again.by (q+1,mput m (rk ((P.getD i []).getD q Rf.z)) i) ⟨⟨by dsimp only;omega,mput_wf hw rfl,fun r' hr' j hj e=>?_,fun q' hq'=>?_⟩,by dsimp only;omega⟩ ?_
     ·rw [mget_put,if_neg]
      ·exact hk r' hr' j hj e
      ·intro e2;rw [rk_inj] at e2;have h1:=(hPi q (by omega)).1;rw [e2,e] at h1;have:=getD_inj hTn (by omega) (by omega) h1;omega
     ·rw [mget_put];split
      ·rfl
      ·rename_i hne;refine hmq q' ?_;by_cases e:q' = q
       ·subst e;exact absurd rfl hne
       ·dsimp only at hq';omega
     repeat' first|refine S0 ?_;conv=>whnf|refine Vo ?_|exact T0|(rfl)|refine Vm ?_ ?_
    ·refine Again.by (i+1,m) ⟨⟨by dsimp only;omega,hw,fun r hr j hj e=>?_⟩,by dsimp only;omega⟩ ?_
     ·dsimp only at hj ⊢;by_cases e2:j=i
      ·subst e2
       have hrp:r ∈ P.getD j []:=by rw [hpg];exact List.mem_filter.2 ⟨hr,decide_eq_true e⟩
       obtain ⟨x,hx⟩:=List.mem_iff_getElem?.1 hrp;have hxl:=(List.getElem?_eq_some_iff.1 hx).1;have:=hmq x (by omega);rw [gDe (l:=P.getD j []),hx] at this;exact this
      ·exact hk r hr j (by omega) e
     repeat' first|refine S0 ?_;conv=>whnf|refine Vo ?_|exact T0
  ·obtain rfl:i=P.length:=by omega
   repeat' first|refine S0 ?_;conv=>whnf|refine Vb ?_|refine B0 ?_
   refine Lw ordSplit [] (α:=Nat) (fun k=>[(6,.mref 0),(11,.own 1),(45,bds l),(46,i64 l.length),(47,i64 k)]) (fun k=>[(0,.mp ⟨true,false,m⟩),(1,.fam 45 1 T.length fun j=>[bdsO (brN U (l.take k) T j)])]) 2 (fun k=>k<=l.length) (fun k=>l.length - k) ?_ ?_
   ·refine Again.by 0 (zle _) ?_
    repeat' first|refine S0 ?_;conv=>whnf|refine Vo ?_|exact T0|(exact ⟨hlen,fun i hi=>LeF.nil_ftab _ _ _ rfl⟩)|refine Vm ?_ ?_
   ·intro k hkk;by_cases hlk:k<l.length
    ·have ha:=hin k hlk
     obtain ⟨j,hjl,hTj⟩:∃ j,j<T.length/\T.getD j Rf.z=U (l.getD k Bd.z).a:=by
      obtain ⟨j,hj⟩:=List.mem_iff_getElem?.1 (hTm _ ha);exact ⟨j,(List.getElem?_eq_some_iff.1 hj).1,by rw [gDe,hj];rfl⟩
     have hgk:=hk _ ha j (by omega) hTj.symm;have hgd:(mget m [(l.getD (k:Int).toNat Bd.z).a.g,(l.getD (k:Int).toNat Bd.z).a.i]).getD 0=(j:Int):=congrArg (fun o=>Option.getD o 0) hgk
     have hx:((mget m [(l.getD (k:Int).toNat Bd.z).a.g,(l.getD (k:Int).toNat Bd.z).a.i]).getD 0).toNat=j:=by rw [hgd];rfl
     have hpl:∀ j,(brN U (l.take k) T j).length<=648:=fun j=>Nat.le_trans (List.length_filter_le _ _) (by rw [List.length_take];omega)
     repeat' first|refine S0 ?_;conv=>whnf|refine Vo ?_|refine Vb ?_|refine W6 ?_|refine B1 ?_|(exact ⟨⟨rfl,rfl⟩,hw⟩)|(exact (Nat.le_trans (Nat.mul_le_mul_right 40 (Nat.succ_le_succ (hpl _))) (by decide)))|refine T2 ?_ ?_|(refine Row.by _ (LeF.refl _) ?_)|refine Vm ?_ ?_
     all_goals refine Again.by (k+1) ⟨by omega,by omega⟩ ?_
     repeat' first|refine S0 ?_;conv=>whnf|refine Vo ?_|exact T0|refine Vm ?_ ?_
     all_goals
      refine ⟨rfl,famb_in hlk hTn hjl hTj hx ?_⟩;exact bd_app _ [l.getD k Bd.z] _ (Nat.zero_lt_succ _) (fun j hj=>by match j,hj with | 0,_=>rfl) _ _ rfl rfl
    ·obtain rfl:k=l.length:=by omega
     rw [List.take_length] at *
     repeat' first|refine S0 ?_;conv=>whnf|exact T0|refine B0 ?_|refine T2 ?_ ?_
     exact ⟨by omega,fun i hi=>by dsimp only;rw [hget2 i (by omega)];rfl⟩
end Kx
open Go Sx Go.Proofs
namespace Kx
def rul (l:List Bd) (s:List Dz):D:=.agg [bds l,.mapb (mpB (apL s))]
theorem apL_step (s:List Dz) (i:Nat) (h:i<s.length):apL (s.take (i+1))=apF (apL (s.take i)) (s.getD i Dz.z):=by
 rw [take1 s Dz.z i h,apL,List.foldl_append];rfl
theorem ucheck_ct (l:List Bd) (s:List Dz) (h:BdV l) (hs:decided s=0) (hsn:s.length<=4096):Cr 49 [bds l,des s] (.tup [rul l s,i64 0]):=by
 have hn:=h.n;have hck:=ccheck_ct l h;refine .det (De Tryz.func49 [] [] ?_)
 repeat' first|refine S0 ?_;conv=>whnf|refine B1 ?_|(refine M0 hck ?_)|refine Br.bnot ?_|refine K0 ?_|(refine M0 (g:=47) (decided_ct _) ?_)
 refine Lw [] [] (α:=Nat) (fun i=>[(4,.loc 0 0),(5,i64 0),(8,.loc 2 0),(26,des s),(27,i64 s.length),(28,i64 i)]) (fun i=>[(0,.var [.nil,.any]),(2,.var [bds l,.mref 1]),(1,.mp (mpB (apL (s.take i))))]) 3 (fun i=>i<=s.length) (fun i=>s.length - i) ?_ ?_
 ·refine Again.by 0 (zle _) ?_
  repeat' first|refine S0 ?_;conv=>whnf|refine Vo ?_|exact T0|(rfl)|refine Vm ?_ ?_
 ·intro i hi
  try dsimp only at hi ⊢
  have hw:=ap_wf (s.take i)
  repeat' first|refine S0 ?_;conv=>whnf|refine Vo ?_|exact T0|exact T1|refine W6 ?_|(exact ⟨⟨rfl,rfl⟩,hw⟩)|(refine Br.d (fun h=>?_) fun h=>?_)|refine Br.bnot ?_|(refine Bm (fun h=>?_) fun h=>?_)|refine T2 ?_ ?_|refine Vm ?_ ?_
  ·refine Again.by (i+1) ⟨by omega,by omega⟩ ?_
   rw [apL_step s i (by omega),apF,if_pos (show (s.getD i Dz.z).s=true from h)]
   repeat' first|refine S0 ?_;conv=>whnf|refine Vo ?_|exact T0
  ·refine Again.by (i+1) ⟨by omega,by omega⟩ ?_
   rw [apL_step s i (by omega),apF,if_neg (by rw [show (s.getD i Dz.z).s=false from h];simp)]
   repeat' first|refine S0 ?_;conv=>whnf|refine Vo ?_|exact T0|(rfl)|refine Vm ?_ ?_
  ·obtain rfl:i=s.length:=by omega
   rw [List.take_length]
theorem bars_ct (l:List Bd) (s:List Dz) (a b:Rf):Cr 97 [rul l s,a.d,b.d] (.bool (barB s a b)):=by
 refine .det (De Tryz.func97 [] [] ?_)
 repeat' first|refine S0 ?_;conv=>whnf|exact T0|(exact ⟨⟨rfl,rfl⟩,ap_wf s⟩)|(refine Br.d (fun h=>?_) fun h=>?_)|refine Br.swap ?_|refine T2 ?_ ?_|refine Vm ?_ ?_
 ·unfold barB;simp [h]
 ·rename_i h2;have:=(ap_iff s a b).1 h;unfold barB;rw [this];simp
 ·rename_i h2
  have h3:aprt s a b=false:=Bool.eq_false_iff.2 fun e=>h ((ap_iff s a b).2 e)
  unfold barB;rw [h3,decide_eq_false h2];exact ap_eq s b a
def jq (l:List Bd) (p r:List Rf) (i:Nat):List Rf × Bool:=((l.take i).filter (both p)).foldl jstep (r,false)
theorem jq_step (l:List Bd) (p r:List Rf) (i:Nat) (h:i<l.length):jq l p r (i+1)=if both p (l.getD i Bd.z)=true then jstep (jq l p r i) (l.getD i Bd.z) else jq l p r i:=by
 unfold jq;rw [take1 l Bd.z i h,List.filter_append,List.foldl_append];split
 ·rename_i e;rw [List.filter_cons_of_pos e];rfl
 ·rename_i e;rw [List.filter_cons_of_neg e];rfl
theorem jq_inv (l:List Bd) {p r:List Rf} (hs:∀ x ∈ r,x ∈ p) (hn:r.Nodup) (i:Nat):JInv p r (jq l p r i) :=
 JInv.fold _ (r,false) (fun b hb=>(List.mem_filter.1 hb).2) ⟨hs,hn,fun _ h=>h,nofun,fun _=>rfl⟩
theorem jq_end (l:List Bd) (p r:List Rf):jq l p r l.length=jround (l.filter (both p)) r:=by unfold jq jround;rw [List.take_length]
theorem joined_ct (l:List Bd) (s:List Dz) (p:List Rf) (h:l.length<=648) (hp:1<=p.length) (hpn:p.Nodup) (hpl:p.length<=24):Cr 98 [rul l s,rfs p] (.bool (jnd l p)):=by
 unfold jnd;have hN:∃ L N r0,L=l.filter (both p)/\N=p.length+1/\r0=p.take 1:=⟨_,_,_,rfl,rfl,rfl⟩;obtain ⟨L,N,r0,eL,eN,e0⟩:=hN
 have h00:r0.length=1:=by rw [e0,List.length_take];omega
 have h01:∀ x ∈ r0,x ∈ p:=fun x hx=>List.mem_of_mem_take (e0 ▸ hx)
 have h02:r0.Nodup:=by rw [e0];exact List.Nodup.sublist (List.take_sublist _ _) hpn
 have h03:r0.getD 0 Rf.z=p.getD 0 Rf.z:=by rw [e0,gDe,gDe,List.getElem?_take,if_pos (by decide)]
 rw [<-eL,<-eN,<-e0];refine .det (De Tryz.func98 ord98 [] ?_)
 repeat' first|refine S0 ?_;conv=>whnf|refine Vo ?_
 refine Lw ord98 [] (α:=List Rf × Bool) (fun z=>[(1,rfs p),(2,.loc 0 0),(4,.bool false),(5,.own 1),(6,.bool z.2)]) (fun z=>[(0,.var [bds l,.mapb (mpB (apL s))]),(1,.sar 102 2 z.1.length fun j=>Rf.f (z.1.getD j Rf.z))]) 2 (fun z=>(1<=z.1.length/\(∀ x ∈ z.1,x ∈ p)/\z.1.Nodup)/\(z.2=true->∃ n,jfix N L r0=jfix n L z.1/\p.length<z.1.length+n)/\(z.2=false->jfix N L r0=z.1)) (fun z=>(if z.2=true then p.length+1 - z.1.length else 0)) ?_ ?_
 ·refine Again.by (r0,true) ⟨⟨by dsimp only;omega,h01,h02⟩,fun _=>⟨N,rfl,by dsimp only;omega⟩,nofun⟩ ?_
  repeat' first|refine S0 ?_;conv=>whnf|refine Vo ?_|exact T0|refine Vm ?_ ?_
  exact ⟨h00.symm,fun i hi=>by dsimp only at hi ⊢;obtain rfl:i=0:=by omega
                               rw [h03]⟩
 ·intro ⟨r,b⟩ ⟨⟨h1,h2,h3⟩,h4,h5⟩;dsimp only at h1 h2 h3 h4 h5 ⊢;have hrl:r.length<=p.length:=nodup_len h3 h2
  repeat' first|refine S0 ?_;conv=>whnf|exact T0|(refine Bm (fun h=>?_) fun h=>?_)|refine T2 ?_ ?_
  ·obtain ⟨n,h6,h7⟩:=h4 h;refine Lw ord98 [] (α:=Nat) (fun i=>[(1,rfs p),(2,.loc 0 0),(4,.bool false),(5,.own 1),(6,.bool (jq l p r i).2),(15,bds l),(16,i64 l.length),(17,i64 i)]) (fun i=>[(0,.var [bds l,.mapb (mpB (apL s))]),(1,.sar 102 2 (jq l p r i).1.length fun j=>Rf.f ((jq l p r i).1.getD j Rf.z))]) 2 (fun i=>i<=l.length) (fun i=>l.length - i) ?_ ?_
   ·refine Again.by 0 (zle _) ?_
    repeat' first|refine S0 ?_;conv=>whnf|refine Vo ?_|exact T0|(rfl)|(exact ⟨rfl,fun _ _=>rfl⟩)|refine Vm ?_ ?_
   ·intro i hi;have hI:=jq_inv l h2 h3 i;have hql:=nodup_len hI.nd hI.sub;have hq1:r.length<=(jq l p r i).1.length:=nodup_len h3 hI.keep;have hst:=jq_step l p r i;by_cases hlt:i<l.length
    ·have hst:=hst hlt;simp only [both,jstep,bat,decide_eq_true_eq] at hst
     repeat' first|refine S0 ?_;conv=>whnf|refine Vo ?_|refine Vb ?_|exact noSh_bool _|refine W6 ?_|refine B1 ?_|refine B0 ?_|(refine Br.d (fun h=>?_) fun h=>?_)|refine Br.swap ?_|refine Br.bnot ?_|refine K0 ?_|refine K1 ?_|(refine M0 (g:=41) (rcontains_ct _ _ (by omega)) ?_)|refine Vm ?_ ?_
     all_goals
      simp only [tnc] at *
     ·have e:jq l p r (i+1)=jq l p r i:=by rw [hst];simp_all
      refine Again.by (i+1) ⟨by omega,by omega⟩ ?_
      rw [e]
      repeat' first|refine S0 ?_;conv=>whnf|refine Vo ?_|exact T0
     ·have e:jq l p r (i+1)=((jq l p r i).1 ++ [(l.getD i Bd.z).b],true):=by rw [hst];simp_all
      refine Again.by (i+1) ⟨by omega,by omega⟩ ?_
      rw [e]
      repeat' first|refine S0 ?_;conv=>whnf|refine Vo ?_|exact T0|refine Vm ?_ ?_
      exact rf_app _ [(l.getD i Bd.z).b] _ (Nat.zero_lt_succ _) (fun j hj=>by match j,hj with | 0,_=>rfl) _ _ rfl rfl
     ·have e:jq l p r (i+1)=((jq l p r i).1 ++ [(l.getD i Bd.z).a],true):=by rw [hst];simp_all
      refine Again.by (i+1) ⟨by omega,by omega⟩ ?_
      rw [e]
      repeat' first|refine S0 ?_;conv=>whnf|refine Vo ?_|exact T0|refine Vm ?_ ?_
      exact rf_app _ [(l.getD i Bd.z).a] _ (Nat.zero_lt_succ _) (fun j hj=>by match j,hj with | 0,_=>rfl) _ _ rfl rfl
     all_goals
      have e:jq l p r (i+1)=jq l p r i:=by rw [hst];simp_all
      refine Again.by (i+1) ⟨by omega,by omega⟩ ?_
      rw [e]
      repeat' first|refine S0 ?_;conv=>whnf|refine Vo ?_|exact T0
    ·obtain rfl:i=l.length:=by omega
     rw [jq_end,<-eL] at *
     repeat' first|refine S0 ?_;conv=>whnf|refine B0 ?_
     have hmore:=hI.more;have hsame:=hI.same;obtain ⟨n,rfl⟩:∃ n',n=n' + 1:=⟨n - 1,by omega⟩;rw [jfix] at h6
     refine Again.by (jround L r) ⟨⟨⟨by omega,hI.sub,hI.nd⟩,fun e=>⟨n,?_,?_⟩,fun e=>?_⟩,?_⟩ ?_
     ·rw [h6,if_pos e]
     ·have:=hmore e;omega
     ·rw [h6,if_neg (by rw [e];simp)]
     ·rw [if_pos h];split
      ·rename_i e;have:=hmore e;omega
      ·omega
     repeat' first|refine S0 ?_;conv=>whnf|refine Vo ?_|exact T0
  ·rw [h5 h];exact decide_eq_decide.2 (by omega)
end Kx
open Go Sx Go.Proofs
namespace Kx
def Im (d d' : D):Prop:=∀ (M:Mi) (v:Value),Rd M true d v->Rd M true d' v
def ImL (l l' : List D):Prop:=∀ (M:Mi) (vs:List Value),RdL M true l vs->RdL M true l' vs
theorem Im.refl (d:D):Im d d:=fun _ _ h=>h
theorem ImL.refl (l:List D):ImL l l:=fun _ _ h=>h
theorem Im.tab {sz n n' : Nat} {f f' : Nat->List D} (hn:n=n') (h:∀ i,i<n->ImL (f i) (f' i)):Im (.tab sz n f) (.tab sz n' f'):=fun M v H=>by
 subst hn;simp only [Rd] at H ⊢;obtain ⟨a,cap,rfl,hc,H⟩:=H;refine ⟨a,cap,rfl,hc,fun i hi=>?_⟩;obtain ⟨b,off,ha,hS,vs,hl,hc,hr⟩:=H i hi;exact ⟨b,off,ha,hS,vs,hl,hc,h i hi M vs hr⟩
def ImT:List D->List D->Prop
 | [],[]=>True| d :: l,d' :: l'=>Im d d'/\ImT l l'| _,_=>False
theorem ImT.rd {M:Mi}:∀ {l l' : List D} {vs:List Value},ImT l l'->RdT M true l vs->RdT M true l' vs
 | [],[],_,_,h=>h
 | d :: l,d' :: l',v :: vs,hi,h=>by
   simp only [RdT,ImT] at *;exact ⟨hi.1 M v h.1,ImT.rd hi.2 h.2⟩
 | _ :: _,_ :: _,[],_,h=>by simp [RdT] at h
 | [],_ :: _,_,hi,_=>by simp [ImT] at hi
 | _ :: _,[],_,hi,_=>by simp [ImT] at hi
mutual
def plD:D->Bool
 | .ftab ..=>false| .fbox _=>false| .fmap _=>false| .fmapd ..=>false| .foar ..=>false| .ffam ..=>false| .agg l=>plL l| .tup l=>plL l| .fn _ l=>plL l| _=>true
def plL:List D->Bool
 | []=>true| d :: l=>plD d && plL l
end
mutual
theorem Od.pl {M:Mi}:∀ (d:D) (v:Value) (F:List Nat),plD d=true->Od M d v F->Rd M true d v/\F = []
 | .ftab ..,_,_,h,_=>by simp [plD] at h
 | .fbox _,_,_,h,_=>by simp [plD] at h
 | .fmap _,_,_,h,_=>by simp [plD] at h
 | .fmapd ..,_,_,h,_=>by simp [plD] at h
 | .foar ..,_,_,h,_=>by simp [plD] at h
 | .ffam ..,_,_,h,_=>by simp [plD] at h
 | .agg l,v,F,h,ho=>by
   simp only [plD] at h;simp only [Od] at ho;obtain ⟨cs,rfl,ho⟩:=ho;have:=OdL.pl l cs.toList F h ho;exact ⟨by simp only [Rd];exact ⟨cs,rfl,this.1⟩,this.2⟩
 | .tup l,v,F,h,ho=>by
   simp only [plD] at h;simp only [Od] at ho;obtain ⟨cs,rfl,ho⟩:=ho;have:=OdT.pl l cs.toList F h ho;exact ⟨by simp only [Rd];exact ⟨cs,rfl,this.1⟩,this.2⟩
 | .fn f l,v,F,h,ho=>by
   simp only [plD] at h;simp only [Od] at ho;obtain ⟨cs,rfl,ho⟩:=ho;have:=OdL.pl l cs.toList F h ho;exact ⟨by simp only [Rd];exact ⟨cs,rfl,this.1⟩,this.2⟩
 | .any,v,F,_,h | .val _,v,F,_,h | .int ..,v,F,_,h | .lit _,v,F,_,h | .bool _,v,F,_,h | .str _,v,F,_,h | .nil,v,F,_,h | .tab ..,v,F,_,h | .vec ..,v,F,_,h | .ref _,v,F,_,h | .null,v,F,_,h | .nilfn,v,F,_,h | .own _,v,F,_,h | .loc ..,v,F,_,h | .pel ..,v,F,_,h | .rsl ..,v,F,_,h | .mref _,v,F,_,h | .mapb _,v,F,_,h=>by
   simpa only [Od] using h
theorem OdL.pl {M:Mi}:∀ (l:List D) (vs:List Value) (F:List Nat),plL l=true->OdL M l vs F->RdL M true l vs/\F = []
 | [],[],F,_,h=>by simp only [OdL] at h;exact ⟨by simp [RdL],h⟩
 | d :: l,v :: vs,F,h,ho=>by
   simp only [plL,bat] at h;simp only [OdL] at ho;obtain ⟨h0,F1,F2,rfl,h1,h2⟩:=ho;have a:=Od.pl d v F1 h.1 h1;have b:=OdL.pl l vs F2 h.2 h2;exact ⟨by simp only [RdL];exact ⟨h0,a.1,b.1⟩,by rw [a.2,b.2];rfl⟩
 | [],_ :: _,_,_,h=>by simp [OdL] at h
 | _ :: _,[],_,_,h=>by simp [OdL] at h
theorem OdT.pl {M:Mi}:∀ (l:List D) (vs:List Value) (F:List Nat),plL l=true->OdT M l vs F->RdT M true l vs/\F = []
 | [],[],F,_,h=>by simp only [OdT] at h;exact ⟨by simp [RdT],h⟩
 | d :: l,v :: vs,F,h,ho=>by
   simp only [plL,bat] at h;simp only [OdT] at ho;obtain ⟨F1,F2,rfl,h1,h2⟩:=ho;have a:=Od.pl d v F1 h.1 h1;have b:=OdT.pl l vs F2 h.2 h2;exact ⟨by simp only [RdT];exact ⟨a.1,b.1⟩,by rw [a.2,b.2];rfl⟩
 | [],_ :: _,_,_,h=>by simp [OdT] at h
 | _ :: _,[],_,_,h=>by simp [OdT] at h
end
theorem Ct.read {P:Program} {g:FuncId} {args args' : List D} {R:D->List D->Prop} (H:Ct P g args' R) (hp:plL args=true) (h:ImT args args'):Ct P g args R:=by
 refine ⟨H.fn,fun w S0 vs F hS hod hnd hFS=>?_⟩;obtain ⟨hr,rfl⟩:=OdT.pl args vs.toList F hp hod;have hr':=h.rd hr;refine (H.ok w S0 vs [] hS (OdT.of_rd _ _ hr') List.nodup_nil ⟨nofun,hFS.2⟩).mono ?_
 rintro e w' ⟨v,r,outs,S',F',rfl,hR,hB,hO⟩
 rw [ioV_rd _ _ hr'] at hO;exact ⟨v,r,outs,S',F',rfl,hR,hB,by rw [ioV_rd _ _ hr];exact hO⟩
end Kx
