/-
  Persons: joined by bonds; the best partition of few refs.
  No condition beyond those written in each theorem.
-/
import Derived.Test.YtjommlbfjnifmaaGreatDoorKA9
import Derived.Test.YtjommlbfjnifmaaGreatDoorFD
set_option linter.unusedSimpArgs false
set_option linter.unusedVariables false
set_option maxRecDepth 4000
namespace Kx
open Sx (nbq gDe bat lap zle bft ddl tnc)
def hdR (p:List Rf):Rf:=p.getD 0 Rf.z
def both (p:List Rf) (b:Bd):Bool:=decide (b.a ∈ p) && decide (b.b ∈ p)
def valL:List Bd->List (List Rf)->Int
 | [],_=>0| b :: l,P=>(if P.any (fun p=>both p b)=true then b.w else 0)+valL l P
def jstep (q:List Rf × Bool) (b:Bd):List Rf × Bool :=
 if b.a ∈ q.1/\b.b ∉ q.1 then (q.1 ++ [b.b],true) else if b.b ∈ q.1/\b.a ∉ q.1 then (q.1 ++ [b.a],true) else q
def jround (l:List Bd) (r:List Rf):List Rf × Bool:=l.foldl jstep (r,false)
def jfix:Nat->List Bd->List Rf->List Rf
 | 0,_,r=>r
 | n+1,l,r=>if (jround l r).2=true then jfix n l (jround l r).1 else (jround l r).1
def jnd (l:List Bd) (p:List Rf):Bool:=decide ((jfix (p.length+1) (l.filter (both p)) (p.take 1)).length=p.length)
structure JInv (p r:List Rf) (q:List Rf × Bool):Prop where
 sub:∀ x ∈ q.1,x ∈ p
 nd:q.1.Nodup
 keep:∀ x ∈ r,x ∈ q.1
 more:q.2=true->r.length<q.1.length
 same:q.2=false->q.1=r
theorem nodup_snoc {l:List Rf} {a:Rf} (h:l.Nodup) (ha:a ∉ l):(l ++ [a]).Nodup:=by
 rw [List.nodup_append];exact ⟨h,by simp,fun x hx y hy e=>by rw [List.mem_singleton.1 hy] at e;subst e;exact ha hx⟩
theorem JInv.grow {p r:List Rf} {q:List Rf × Bool} (h:JInv p r q) {a:Rf} (ha:a ∈ p) (hn:a ∉ q.1):JInv p r (q.1 ++ [a],true):=by
 refine ⟨fun x hx=>?_,nodup_snoc h.nd hn,fun x hx=>List.mem_append_left _ (h.keep x hx),fun _=>?_,nofun⟩
 ·rcases List.mem_append.1 hx with hx | hx
  ·exact h.sub x hx
  ·rw [List.mem_singleton.1 hx];exact ha
 ·rw [lap,List.length_singleton]
  cases e:q.2 with
  | true=>have:=h.more e;omega
  | false=>rw [h.same e];omega
theorem JInv.step {p r:List Rf} {q:List Rf × Bool} (h:JInv p r q) {b:Bd} (hb:both p b=true):JInv p r (jstep q b):=by
 simp only [both,bat,decide_eq_true_eq] at hb;unfold jstep;split
 ·rename_i e;exact h.grow hb.2 e.2
 ·split
  ·rename_i e;exact h.grow hb.1 e.2
  ·exact h
theorem JInv.fold {p r:List Rf}:∀ (l:List Bd) (q:List Rf × Bool),(∀ b ∈ l,both p b=true)->JInv p r q->JInv p r (l.foldl jstep q)
 | [],_,_,h=>h| b :: l,_,hl,h=>JInv.fold l _ (fun x hx=>hl x (by simp [hx])) (h.step (hl b (by simp)))
theorem jround_inv {l:List Bd} {p r:List Rf} (hl:∀ b ∈ l,both p b=true) (hs:∀ x ∈ r,x ∈ p) (hn:r.Nodup):JInv p r (jround l r) :=
 JInv.fold l (r,false) hl ⟨hs,hn,fun _ h=>h,nofun,fun _=>rfl⟩
theorem jstep_fix {r:List Rf} {b:Bd} (h:jstep (r,false) b=(r,false)):b.a ∈ r ↔ b.b ∈ r:=by
 unfold jstep at h;split at h
 ·simp at h
 ·rename_i h1;split at h
  ·simp at h
  ·rename_i h2;simp only [not_and,Classical.not_not] at h1 h2;exact ⟨h1,h2⟩
theorem jfold_true:∀ (l:List Bd) (q:List Rf × Bool),q.2=true->(l.foldl jstep q).2=true
 | [],_,h=>h
 | b :: l,q,h=>jfold_true l _ (by
   unfold jstep;split
   ·rfl
   ·split
    ·rfl
    ·exact h)
theorem jfold_fix:∀ (l:List Bd) (r:List Rf),(l.foldl jstep (r,false)).2=false->∀ b ∈ l,(b.a ∈ r ↔ b.b ∈ r)
 | [],_,_,_,hb=>nomatch hb
 | b :: l,r,h,x,hx=>by
   rw [List.foldl_cons] at h
   cases e:(jstep (r,false) b).2 with
   | true=>rw [jfold_true l _ e] at h;cases h
   | false =>
     have e2:jstep (r,false) b=(r,false):=by
      unfold jstep at e ⊢;split
      ·rename_i h1;rw [if_pos h1] at e;cases e
      ·rename_i h1;rw [if_neg h1] at e;split
       ·rename_i h2;rw [if_pos h2] at e;cases e
       ·rfl
     rw [e2] at h
     rcases List.mem_cons.1 hx with rfl | hx
     ·exact jstep_fix e2
     ·exact jfold_fix l r h x hx
theorem nodup_len:∀ {l m:List Rf},l.Nodup->(∀ x ∈ l,x ∈ m)->l.length<=m.length
 | [],_,_,_=>zle _
 | a :: l,m,hn,hs=>by
   obtain ⟨h1,h2⟩:=List.nodup_cons.1 hn;have ha:=hs a (by simp)
   have:=nodup_len (l:=l) (m:=m.erase a) h2 fun x hx=>(List.mem_erase_of_ne (fun e=>by subst e;exact h1 hx)).2 (hs x (by simp [hx]))
   rw [List.length_erase_of_mem ha] at this;have h3:0<m.length:=List.length_pos_of_mem ha;simp only [List.length_cons];omega
theorem jfix_inv {l:List Bd} {p:List Rf} (hl:∀ b ∈ l,both p b=true):∀ (n:Nat) (r:List Rf),(∀ x ∈ r,x ∈ p)->r.Nodup->p.length<r.length+n ->
 (∀ x ∈ jfix n l r,x ∈ p)/\(jfix n l r).Nodup/\(∀ x ∈ r,x ∈ jfix n l r)/\∀ b ∈ l,(b.a ∈ jfix n l r ↔ b.b ∈ jfix n l r)
 | 0,r,hs,hn,h=>by have:=nodup_len hn hs;omega
 | n+1,r,hs,hn,h=>by
   have H:=jround_inv hl hs hn;unfold jfix;split
   ·rename_i e;have h1:=H.more e;obtain ⟨a1,a2,a3,a4⟩:=jfix_inv hl n _ H.sub H.nd (by omega);exact ⟨a1,a2,fun x hx=>a3 x (H.keep x hx),a4⟩
   ·rename_i e
    have e:(jround l r).2=false:=by simpa using e
    rw [H.same e];exact ⟨hs,hn,fun _ h=>h,jfold_fix l r e⟩
theorem jnd_of_con {l:List Bd} {p:List Rf} (hne:p≠[]) (hn:p.Nodup) (h:∀ x ∈ p,Con (l.filter (both p)) (hdR p) x):jnd l p=true:=by
 obtain ⟨a,p',rfl⟩:=List.exists_cons_of_ne_nil hne
 have hl:∀ b ∈ l.filter (both (a :: p')),both (a :: p') b=true:=fun b hb=>(List.mem_filter.1 hb).2
 obtain ⟨h1,h2,h3,h4⟩:=jfix_inv hl ((a :: p').length+1) ((a :: p').take 1) (by simp) (by simp) (by simp;omega);rw [jnd,decide_eq_true_eq];refine Nat.le_antisymm (nodup_len h2 h1) (nodup_len hn fun x hx=>?_);have ha:a ∈ jfix ((a :: p').length+1) (l.filter (both (a :: p'))) ((a :: p').take 1):=h3 a (by simp);have hc:=h x hx
 have hS:Shut (l.filter (both (a :: p'))) fun r=>decide (r ∈ jfix ((a :: p').length+1) (l.filter (both (a :: p'))) ((a :: p').take 1)):=fun b hb=>by
  have:=h4 b hb;simp only [decide_eq_decide];exact this
 have:=hc.shut hS;have e:hdR (a :: p')=a:=rfl;rw [e] at this;rw [decide_eq_true ha] at this;exact of_decide_eq_true this.symm
theorem both_in {l B:List Bd} (h:IsC l B) {p:List Rf} (hp:∀ x ∈ p,x ∈ refsL B):l.filter (both p)=B.filter (both p):=by
 obtain ⟨S,hS,hB⟩:=h.ex
 conv=>rhs;rw [hB]
 rw [List.filter_filter]
 refine List.filter_congr fun b hb=>?_
 cases e:both p b with
 | false=>rfl
 | true =>
   have e':=e;simp only [both,bat,decide_eq_true_eq] at e';have h1:=hp _ e'.1;rw [hB] at h1;have:=((mem_refs_filter hS).1 h1).2;simp [this]
theorem jnd_in {l B:List Bd} (h:IsC l B) {p:List Rf} (hp:∀ x ∈ p,x ∈ refsL B):jnd l p=jnd B p:=by
 unfold jnd;rw [both_in h hp]
structure Per (bars:Rf->Rf->Bool) (l:List Bd) (p:List Rf):Prop where
 asc:Asc p
 two:2<=p.length
 free:p.Pairwise fun a b=>bars a b=false
 jn:jnd l p=true
def hdLt (p q:List Rf):Prop:=ltR (hdR p) (hdR q)
def apt (p q:List Rf):Prop:=∀ x,x ∈ p->x ∉ q
structure Pers (bars:Rf->Rf->Bool) (l:List Bd) (R:List Rf) (P:List (List Rf)):Prop where
 per:∀ p ∈ P,Per bars l p
 sub:∀ p ∈ P,∀ x ∈ p,x ∈ R
 ord:P.Pairwise hdLt
 dis:P.Pairwise apt
theorem hd_mem {p:List Rf} (h:p≠[]):hdR p ∈ p:=by
 cases p with
 | nil=>exact absurd rfl h| cons a l=>simp [hdR]
theorem Per.ne {bars:Rf->Rf->Bool} {l:List Bd} {p:List Rf} (h:Per bars l p):p≠[]:=fun e=>by have:=h.two;rw [e] at this;simp at this
structure Xs where
 f:Bool
 best:List (List Rf)
 v:Int
def finX (B:List Bd) (S:List (List Rf)) (st:Xs):Xs :=
 if S.all (fun p=>decide (p.length<2) || jnd B p)=true then
  if st.f=false\/st.v<valL B (S.filter fun p=>decide (2<=p.length)) then ⟨true,S.filter fun p=>decide (2<=p.length),valL B (S.filter fun p=>decide (2<=p.length))⟩ else st
 else st
def plc (bars:Rf->Rf->Bool) (B:List Bd):List Rf->List (List Rf)->Xs->Xs
 | [],S,st=>finX B S st| r :: rs,S,st=>plc bars B rs (S ++ [[r]]) ((List.range S.length).foldl (fun st k=>if (S.getD k []).any (fun b=>bars b r)=true then st else plc bars B rs (S.set k (S.getD k [] ++ [r])) st) st)
def exactL (bars:Rf->Rf->Bool) (B:List Bd):List (List Rf):=(plc bars B (refsL B) [] ⟨false,[],0⟩).best
structure SInv (bars:Rf->Rf->Bool) (R rs:List Rf) (S:List (List Rf)):Prop where
 ne:∀ p ∈ S,p≠[]
 asc:∀ p ∈ S,Asc p
 sub:∀ p ∈ S,∀ x ∈ p,x ∈ R
 free:∀ p ∈ S,p.Pairwise fun a b=>bars a b=false
 lt:∀ p ∈ S,∀ x ∈ p,∀ r ∈ rs,ltR x r
 ord:S.Pairwise hdLt
 dis:S.Pairwise apt
theorem hdR_app {p:List Rf} {r:Rf} (h:p≠[]):hdR (p ++ [r])=hdR p:=by
 cases p with
 | nil=>exact absurd rfl h| cons a l=>rfl
theorem SInv.push {bars:Rf->Rf->Bool} {R rs:List Rf} {r:Rf} {S:List (List Rf)} (h:SInv bars R (r :: rs) S) (hr:r ∈ R) (ha:∀ x ∈ rs,ltR r x):SInv bars R rs (S ++ [[r]]):=by
 have cs:∀ {Q:List Rf->Prop},(∀ p ∈ S,Q p)->Q [r]->∀ p ∈ S ++ [[r]],Q p:=fun h1 h2 p hp=>by
  rcases List.mem_append.1 hp with hp | hp
  ·exact h1 p hp
  ·rw [List.mem_singleton.1 hp];exact h2
 refine ⟨cs h.ne (by simp),cs h.asc (by simp [Asc]),cs h.sub (by simpa using hr),cs h.free (by simp),cs (fun p hp x hx y hy=>h.lt p hp x hx y (by simp [hy])) (by simpa using ha),?_,?_⟩
 ·refine List.pairwise_append.2 ⟨h.ord,by simp,fun p hp q hq=>?_⟩;rw [List.mem_singleton.1 hq];exact h.lt p hp _ (hd_mem (h.ne p hp)) r (by simp)
 ·refine List.pairwise_append.2 ⟨h.dis,by simp,fun p hp q hq x hx=>?_⟩;rw [List.mem_singleton.1 hq,List.mem_singleton];exact ltR_ne (h.lt p hp x hx r (by simp))
theorem SInv.put {bars:Rf->Rf->Bool} {R rs:List Rf} {r:Rf} {S:List (List Rf)} (h:SInv bars R (r :: rs) S) (hr:r ∈ R) (ha:∀ x ∈ rs,ltR r x) {k:Nat} (hk:k<S.length) (hb:(S.getD k []).any (fun b=>bars b r)=false) :
 SInv bars R rs (S.set k (S.getD k [] ++ [r])):=by
 have hg:S.getD k []=S[k]:=by simp [gDe,hk]
 have hS:S=S.take k ++ S.getD k [] :: S.drop (k+1):=by
  rw [hg,List.getElem_cons_drop,List.take_append_drop]
 have hset:S.set k (S.getD k [] ++ [r])=S.take k ++ (S.getD k [] ++ [r]) :: S.drop (k+1):=by
  rw [List.set_eq_take_append_cons_drop,if_pos hk]
 generalize hp:S.getD k []=p at *;generalize S.take k=A at *;generalize S.drop (k+1)=C at *;rw [hset];subst hS;clear hset hg hk hp
 have hmem:p ∈ A ++ p :: C:=by simp
 have hpr:∀ x ∈ p,ltR x r:=fun x hx=>h.lt p hmem x hx r (by simp)
 have cs:∀ {Q:List Rf->Prop},(∀ p' ∈ A ++ p :: C,Q p')->Q (p ++ [r])->∀ p' ∈ A ++ (p ++ [r]) :: C,Q p':=fun h1 h2 p' hp'=>by
  rcases List.mem_append.1 hp' with hp' | hp'
  ·exact h1 p' (by simp [hp'])
  ·rcases List.mem_cons.1 hp' with rfl | hp'
   ·exact h2
   ·exact h1 p' (by simp [hp'])
 have ho:=h.ord;have hd:=h.dis;rw [List.pairwise_append,List.pairwise_cons] at ho hd;have hh:hdR (p ++ [r])=hdR p:=hdR_app (h.ne p hmem);refine ⟨cs h.ne (by simp),cs h.asc ?_,cs h.sub (fun x hx=>?_),cs h.free ?_,cs (fun q hq x hx y hy=>h.lt q hq x hx y (by simp [hy])) (fun x hx y hy=>?_),?_,?_⟩
 ·exact List.pairwise_append.2 ⟨h.asc p hmem,by simp,fun x hx y hy=>by rw [List.mem_singleton.1 hy];exact hpr x hx⟩
 ·rcases List.mem_append.1 hx with hx | hx
  ·exact h.sub p hmem x hx
  ·rw [List.mem_singleton.1 hx];exact hr
 ·refine List.pairwise_append.2 ⟨h.free p hmem,by simp,fun x hx y hy=>?_⟩;rw [List.mem_singleton.1 hy];rw [List.any_eq_false] at hb;simpa using hb x hx
 ·rcases List.mem_append.1 hx with hx | hx
  ·exact (hpr x hx).trans (ha y hy)
  ·rw [List.mem_singleton.1 hx];exact ha y hy
 ·rw [List.pairwise_append,List.pairwise_cons];refine ⟨ho.1,⟨fun q hq=>?_,ho.2.1.2⟩,fun q hq q' hq'=>?_⟩
  ·show ltR _ _
   rw [hh];exact ho.2.1.1 q hq
  ·rcases List.mem_cons.1 hq' with rfl | hq'
   ·show ltR _ _
    rw [hh];exact ho.2.2 q hq p (by simp)
   ·exact ho.2.2 q hq q' (by simp [hq'])
 ·have hne:∀ q,q ∈ A ++ p :: C->r ∉ q:=fun q hq hx=>ltR_irrefl r (h.lt q hq r hx r (by simp))
  rw [List.pairwise_append,List.pairwise_cons];refine ⟨hd.1,⟨fun q hq x hx=>?_,hd.2.1.2⟩,fun q hq q' hq'=>?_⟩
  ·rcases List.mem_append.1 hx with hx | hx
   ·exact hd.2.1.1 q hq x hx
   ·rw [List.mem_singleton.1 hx];exact hne q (by simp [hq])
  ·rcases List.mem_cons.1 hq' with rfl | hq'
   ·intro x hx hx2
    rcases List.mem_append.1 hx2 with hx2 | hx2
    ·exact hd.2.2 q hq p (by simp) x hx hx2
    ·rw [List.mem_singleton.1 hx2] at hx;exact hne q (by simp [hq]) hx
   ·exact hd.2.2 q hq q' (by simp [hq'])
theorem foldl_congr2 {α β:Type} {f g:β->α->β}:∀ (l:List α) (s:β),(∀ s,∀ x ∈ l,f s x=g s x)->l.foldl f s=l.foldl g s
 | [],_,_=>rfl
 | a :: l,s,h=>by
   rw [List.foldl_cons,List.foldl_cons,h s a (by simp)]
   exact foldl_congr2 l _ fun s x hx=>h s x (by simp [hx])
theorem fin_good {bars:Rf->Rf->Bool} {B:List Bd} {R:List Rf} {S:List (List Rf)} {st:Xs} (h:SInv bars R [] S) (hst:Pers bars B R st.best):Pers bars B R (finX B S st).best:=by
 unfold finX;split
 case isFalse=>exact hst
 rename_i hall;split
 case isFalse=>exact hst
 simp only [List.all_eq_true,Bool.or_eq_true,decide_eq_true_eq] at hall;refine ⟨fun p hp=>?_,fun p hp=>?_,h.ord.filter _,h.dis.filter _⟩
 ·obtain ⟨h1,h2⟩:=List.mem_filter.1 hp;simp only [decide_eq_true_eq] at h2;refine ⟨h.asc p h1,h2,h.free p h1,?_⟩
  rcases hall p h1 with e | e
  ·omega
  ·exact e
 ·exact h.sub p (List.mem_filter.1 hp).1
theorem getD_mem {α:Type} {l:List α} {z:α} {k:Nat} (h:k<l.length):l.getD k z ∈ l:=by
 rw [gDe,List.getElem?_eq_getElem h];exact List.getElem_mem h
theorem plc_good {bars:Rf->Rf->Bool} {B:List Bd} {R:List Rf}:∀ (rs:List Rf) (S:List (List Rf)) (st:Xs),Asc rs->(∀ r ∈ rs,r ∈ R)->SInv bars R rs S->Pers bars B R st.best->Pers bars B R (plc bars B rs S st).best
 | [],S,st,_,_,h,hst=>fin_good h hst
 | r :: rs,S,st,ha,hR,h,hst=>by
   obtain ⟨h1,h2⟩:=List.pairwise_cons.1 ha
   have hR' : ∀ x ∈ rs,x ∈ R:=fun x hx=>hR x (by simp [hx])
   rw [plc];refine plc_good rs _ _ h2 hR' (h.push (hR r (by simp)) h1) ?_;refine foldl_keep (fun st:Xs=>Pers bars B R st.best) _ _ _ (fun st k hk hst=>?_) hst;split
   ·exact hst
   ·rename_i hb;exact plc_good rs _ _ h2 hR' (h.put (hR r (by simp)) h1 (List.mem_range.1 hk) (by simpa using hb)) hst
theorem plc_same {bars bars' : Rf->Rf->Bool} {B:List Bd} {R:List Rf} (hbb:∀ a ∈ R,∀ b ∈ R,bars a b=bars' a b):∀ (rs:List Rf) (S:List (List Rf)) (st:Xs),(∀ r ∈ rs,r ∈ R)->(∀ p ∈ S,∀ x ∈ p,x ∈ R)->plc bars B rs S st=plc bars' B rs S st
 | [],S,st,_,_=>rfl
 | r :: rs,S,st,hR,h=>by
   have hR' : ∀ x ∈ rs,x ∈ R:=fun x hx=>hR x (by simp [hx])
   have hr:=hR r (by simp);rw [plc,plc]
   have e:(List.range S.length).foldl (fun st k=>if (S.getD k []).any (fun b=>bars b r)=true then st else plc bars B rs (S.set k (S.getD k [] ++ [r])) st) st
    = (List.range S.length).foldl (fun st k=>if (S.getD k []).any (fun b=>bars' b r)=true then st else plc bars' B rs (S.set k (S.getD k [] ++ [r])) st) st:=by
    refine foldl_congr2 _ _ fun st k hk=>?_
    have hk:=List.mem_range.1 hk;have hs:=h _ (getD_mem (z:=[]) hk)
    have e1:(S.getD k []).any (fun b=>bars b r)=(S.getD k []).any (fun b=>bars' b r):=by
     rw [Bool.eq_iff_iff,List.any_eq_true,List.any_eq_true];constructor
     ·rintro ⟨x,hx,e⟩;exact ⟨x,hx,by rw [<-hbb x (hs x hx) r hr];exact e⟩
     ·rintro ⟨x,hx,e⟩;exact ⟨x,hx,by rw [hbb x (hs x hx) r hr];exact e⟩
    rw [e1];split
    ·rfl
    ·refine plc_same hbb rs _ _ hR' fun p hp x hx=>?_
     rcases List.mem_or_eq_of_mem_set hp with hp | rfl
     ·exact h p hp x hx
     ·rcases List.mem_append.1 hx with hx | hx
      ·exact hs x hx
      ·rw [List.mem_singleton.1 hx];exact hr
   rw [e]
   refine plc_same hbb rs _ _ hR' fun p hp x hx=>?_
   rcases List.mem_append.1 hp with hp | hp
   ·exact h p hp x hx
   ·rw [List.mem_singleton.1 hp] at hx;rw [List.mem_singleton.1 hx];exact hr
theorem exact_good (bars:Rf->Rf->Bool) (B:List Bd):Pers bars B (refsL B) (exactL bars B) :=
 plc_good _ _ _ (refsL_asc B) (fun _ h=>h) ⟨by simp,by simp,by simp,by simp,by simp,by simp,by simp⟩ ⟨by simp,by simp,by simp,by simp⟩
theorem exact_same {bars bars' : Rf->Rf->Bool} {B:List Bd} (hbb:∀ a ∈ refsL B,∀ b ∈ refsL B,bars a b=bars' a b):exactL bars B=exactL bars' B:=by
 unfold exactL;rw [plc_same hbb _ _ _ (fun _ h=>h) (by simp)]
end Kx
namespace Kx
open Sx (nbq gDe bat lap zle bft ddl tnc)
def gstep (bars:Rf->Rf->Bool) (S:Rf->List Rf) (b:Bd):Rf->List Rf :=
 if b.b ∈ S b.a\/(S b.a).any (fun r=>(S b.b).any fun o=>bars r o)=true then S else fun r=>if r ∈ S b.a ++ S b.b then S b.a ++ S b.b else S r
def grdS (bars:Rf->Rf->Bool) (l:List Bd):Rf->List Rf:=l.foldl (gstep bars) fun r=>[r]
def pick (S:Rf->List Rf) (r:Rf):Option (List Rf):=if 1<(setR (S r)).length/\hdR (setR (S r))=r then some (setR (S r)) else none
def greedyL (sb:List Bd->List Bd) (bars:Rf->Rf->Bool) (B:List Bd):List (List Rf):=(refsL B).filterMap (pick (grdS bars (sb B)))
structure GInv (bars:Rf->Rf->Bool) (B:List Bd) (S:Rf->List Rf):Prop where
 self:∀ r ∈ refsL B,r ∈ S r
 sub:∀ r ∈ refsL B,∀ x ∈ S r,x ∈ refsL B
 nd:∀ r ∈ refsL B,(S r).Nodup
 eq:∀ r ∈ refsL B,∀ x ∈ S r,S x=S r
 free:∀ r ∈ refsL B,∀ x ∈ S r,∀ y ∈ S r,x≠y->bars x y=false
 con:∀ r ∈ refsL B,∀ x ∈ S r,∀ y ∈ S r,Con (B.filter (both (S r))) x y
theorem filter_mono {B:List Bd} {p q:List Rf} (h:∀ x ∈ p,x ∈ q):∀ b ∈ B.filter (both p),b ∈ B.filter (both q):=fun b hb=>by
 obtain ⟨h1,h2⟩:=List.mem_filter.1 hb;refine List.mem_filter.2 ⟨h1,?_⟩;simp only [both,bat,decide_eq_true_eq] at h2 ⊢;exact ⟨h _ h2.1,h _ h2.2⟩
theorem GInv.step {bars:Rf->Rf->Bool} {B:List Bd} {S:Rf->List Rf} (hsym:∀ x y,bars x y=bars y x) (h:GInv bars B S) {b:Bd} (hb:b ∈ B):GInv bars B (gstep bars S b):=by
 unfold gstep;split
 ·exact h
 rename_i hc;simp only [not_or,Bool.not_eq_true] at hc;obtain ⟨c1,c2⟩:=hc;have ha:=refsL_a hb;have hbb:=refsL_b hb;have pa:=h.self _ ha;have qb:=h.self _ hbb
 have cross:∀ x ∈ S b.a,∀ y ∈ S b.b,bars x y=false:=fun x hx y hy=>by
  rw [List.any_eq_false] at c2;have:=c2 x hx;rw [Bool.not_eq_true,List.any_eq_false] at this;simpa using this y hy
 have apart:∀ x ∈ S b.a,x ∉ S b.b:=fun x hx hy=>by
  have e1:=h.eq _ ha x hx;have e2:=h.eq _ hbb x hy;exact c1 (by rw [<-e1,e2];exact qb)
 have hdis:∀ r ∈ refsL B,r ∉ S b.a ++ S b.b->∀ x ∈ S r,x ∉ S b.a ++ S b.b:=fun r hr hn x hx hx2=>by
  have e:=h.eq r hr x hx
  rcases List.mem_append.1 hx2 with hx2 | hx2
  ·have:=h.eq _ ha x hx2;exact hn (List.mem_append_left _ (by rw [<-this,e];exact h.self r hr))
  ·have:=h.eq _ hbb x hx2;exact hn (List.mem_append_right _ (by rw [<-this,e];exact h.self r hr))
 have hsub:∀ x ∈ S b.a ++ S b.b,x ∈ refsL B:=fun x hx=>by
  rcases List.mem_append.1 hx with hx | hx
  ·exact h.sub _ ha x hx
  ·exact h.sub _ hbb x hx
 have hcon:∀ x ∈ S b.a ++ S b.b,Con (B.filter (both (S b.a ++ S b.b))) b.a x:=fun x hx=>by
  have hbf:b ∈ B.filter (both (S b.a ++ S b.b)):=List.mem_filter.2 ⟨hb,by simp [both,pa,qb]⟩
  rcases List.mem_append.1 hx with hx | hx
  ·exact (h.con _ ha _ pa x hx).mono (filter_mono fun y hy=>List.mem_append_left _ hy)
  ·exact ((Con.refl b.a).fwd hbf).trans ((h.con _ hbb _ qb x hx).mono (filter_mono fun y hy=>List.mem_append_right _ hy))
 generalize hq:S b.a ++ S b.b=q at *
 have hqn:q.Nodup:=by
  rw [<-hq,List.nodup_append];exact ⟨h.nd _ ha,h.nd _ hbb,fun x hx y hy e=>by subst e;exact apart x hx hy⟩
 have hqf:∀ x ∈ q,∀ y ∈ q,x≠y->bars x y=false:=fun x hx y hy hne=>by
  rw [<-hq] at hx hy
  rcases List.mem_append.1 hx with hx | hx<;>rcases List.mem_append.1 hy with hy | hy
  ·exact h.free _ ha x hx y hy hne
  ·exact cross x hx y hy
  ·rw [hsym];exact cross y hy x hx
  ·exact h.free _ hbb x hx y hy hne
 refine ⟨fun r hr=>?_,fun r hr x hx=>?_,fun r hr=>?_,fun r hr x hx=>?_,fun r hr x hx y hy=>?_,fun r hr x hx y hy=>?_⟩
 ·split
  ·assumption
  ·exact h.self r hr
 ·split at hx
  ·exact hsub x hx
  ·exact h.sub r hr x hx
 ·split
  ·exact hqn
  ·exact h.nd r hr
 ·by_cases e:r ∈ q
  ·rw [if_pos e] at hx ⊢;rw [if_pos hx]
  ·rw [if_neg e] at hx ⊢;rw [if_neg (hdis r hr e x hx),h.eq r hr x hx]
 ·split at hx
  ·rename_i e;rw [if_pos e] at hy;exact hqf x hx y hy
  ·rename_i e;rw [if_neg e] at hy;exact h.free r hr x hx y hy
 ·by_cases e:r ∈ q
  ·rw [if_pos e] at hx hy ⊢;exact (hcon x hx).symm.trans (hcon y hy)
  ·rw [if_neg e] at hx hy ⊢;exact h.con r hr x hx y hy
theorem GInv.fold {bars:Rf->Rf->Bool} {B:List Bd} (hsym:∀ x y,bars x y=bars y x):∀ (l:List Bd) (S:Rf->List Rf),(∀ b ∈ l,b ∈ B)->GInv bars B S->GInv bars B (l.foldl (gstep bars) S)
 | [],_,_,h=>h| b :: l,S,hl,h=>GInv.fold hsym l _ (fun x hx=>hl x (by simp [hx])) (h.step hsym (hl b (by simp)))
theorem GInv.start (bars:Rf->Rf->Bool) (B:List Bd):GInv bars B fun r=>[r] :=
 ⟨by simp,fun r hr x hx=>by rw [List.mem_singleton.1 hx];exact hr,by simp,fun r _ x hx=>by rw [List.mem_singleton.1 hx],
  fun r _ x hx y hy hne=>absurd ((List.mem_singleton.1 hx).trans (List.mem_singleton.1 hy).symm) hne,
  fun r _ x hx y hy=>by rw [List.mem_singleton.1 hx,List.mem_singleton.1 hy];exact .refl _⟩
theorem grdS_inv {bars:Rf->Rf->Bool} {B l:List Bd} (hsym:∀ x y,bars x y=bars y x) (hl:∀ b ∈ l,b ∈ B):GInv bars B (grdS bars l):=GInv.fold hsym l _ hl (.start bars B)
theorem gfold_same {bars bars' : Rf->Rf->Bool} {B:List Bd} (hsym:∀ x y,bars x y=bars y x) (hbb:∀ a ∈ refsL B,∀ b ∈ refsL B,bars a b=bars' a b):∀ (l:List Bd) (S:Rf->List Rf),(∀ b ∈ l,b ∈ B)->GInv bars B S->l.foldl (gstep bars) S=l.foldl (gstep bars') S
 | [],_,_,_=>rfl
 | b :: l,S,hl,h=>by
   have hb:=hl b (by simp)
   have e:gstep bars S b=gstep bars' S b:=by
    unfold gstep
    have e1:(S b.a).any (fun r=>(S b.b).any fun o=>bars r o)=(S b.a).any (fun r=>(S b.b).any fun o=>bars' r o):=by
     have:∀ x ∈ S b.a,∀ y ∈ S b.b,bars x y=bars' x y:=fun x hx y hy=>hbb x (h.sub _ (refsL_a hb) x hx) y (h.sub _ (refsL_b hb) y hy)
     rw [Bool.eq_iff_iff];simp only [List.any_eq_true];constructor
     ·rintro ⟨x,hx,y,hy,e⟩;exact ⟨x,hx,y,hy,by rw [<-this x hx y hy];exact e⟩
     ·rintro ⟨x,hx,y,hy,e⟩;exact ⟨x,hx,y,hy,by rw [this x hx y hy];exact e⟩
    rw [e1]
   rw [List.foldl_cons,List.foldl_cons,<-e];exact gfold_same hsym hbb l _ (fun x hx=>hl x (by simp [hx])) (h.step hsym hb)
theorem greedy_same {sb:List Bd->List Bd} (hsb:∀ B,∀ b ∈ sb B,b ∈ B) {bars bars' : Rf->Rf->Bool} {B:List Bd} (hsym:∀ x y,bars x y=bars y x) (hbb:∀ a ∈ refsL B,∀ b ∈ refsL B,bars a b=bars' a b):greedyL sb bars B=greedyL sb bars' B:=by
 unfold greedyL grdS;rw [gfold_same hsym hbb _ _ (hsb B) (.start bars B)]
theorem pick_some {S:Rf->List Rf} {r:Rf} {p:List Rf} (h:pick S r=some p):p=setR (S r)/\1<p.length/\hdR p=r:=by
 unfold pick at h;split at h
 ·rename_i e;cases h;exact ⟨rfl,e⟩
 ·cases h
theorem greedy_good {sb:List Bd->List Bd} (hsb:∀ B,∀ b ∈ sb B,b ∈ B) {bars:Rf->Rf->Bool} {B:List Bd} (hsym:∀ x y,bars x y=bars y x):Pers bars B (refsL B) (greedyL sb bars B):=by
 have H:GInv bars B (grdS bars (sb B)):=grdS_inv hsym (hsb B);unfold greedyL;generalize grdS bars (sb B)=S at *;refine ⟨fun p hp=>?_,fun p hp x hx=>?_,?_,?_⟩
 ·obtain ⟨r,hr,e⟩:=List.mem_filterMap.1 hp;obtain ⟨e1,e2,e3⟩:=pick_some e
  have hasc:Asc p:=by rw [e1];exact setR_asc _
  have hm:∀ x,x ∈ p ↔ x ∈ S r:=fun x=>by rw [e1,mem_setR]
  have hne:p≠[]:=fun e=>by rw [e] at e2;simp at e2
  refine ⟨hasc,e2,?_,jnd_of_con hne hasc.nodup fun x hx=>?_⟩
  ·refine List.Pairwise.imp_of_mem (fun {a b} ha hb hab=>?_) hasc;exact H.free r hr a ((hm a).1 ha) b ((hm b).1 hb) (ltR_ne hab)
  ·have:=H.con r hr (hdR p) ((hm _).1 (hd_mem hne)) x ((hm x).1 hx);exact this.mono (filter_mono fun y hy=>(hm y).2 hy)
 ·obtain ⟨r,hr,e⟩:=List.mem_filterMap.1 hp;obtain ⟨e1,e2,e3⟩:=pick_some e;rw [e1,mem_setR] at hx;exact H.sub r hr x hx
 ·rw [List.pairwise_filterMap];refine List.Pairwise.imp (fun {a b} hab=>?_) (refsL_asc B);intro p hp q hq
  show ltR (hdR p) (hdR q)
  rw [(pick_some hp).2.2,(pick_some hq).2.2];exact hab
 ·rw [List.pairwise_filterMap];refine List.Pairwise.imp_of_mem (fun {a b} ha hb hab=>?_) (refsL_asc B);intro p hp q hq x hx hx2;obtain ⟨e1,e2,e3⟩:=pick_some hp;obtain ⟨f1,f2,f3⟩:=pick_some hq;rw [e1,mem_setR] at hx;rw [f1,mem_setR] at hx2;have h1:=H.eq a ha x hx;have h2:=H.eq b hb x hx2
  have:p=q:=by rw [e1,f1,<-h1,h2]
  rw [this,f3] at e3;exact ltR_ne hab e3.symm
def insP (x:List Rf):List (List Rf)->List (List Rf)
 | []=>[x]
 | y :: l=>if ltR (hdR x) (hdR y) then x :: y :: l else y :: insP x l
def srtP (l:List (List Rf)):List (List Rf):=l.foldr insP []
theorem insP_perm (x:List Rf):∀ l,(insP x l).Perm (x :: l)
 | []=>.refl _
 | y :: l=>by
   unfold insP;split
   ·exact .refl _
   ·exact ((insP_perm x l).cons y).trans (.swap x y l)
theorem srtP_perm:∀ l,(srtP l).Perm l
 | []=>.refl _| x :: l=>(insP_perm x (srtP l)).trans ((srtP_perm l).cons x)
def hdNe (p q:List Rf):Prop:=hdR p≠hdR q
theorem insP_ord {x:List Rf}:∀ {l},l.Pairwise hdLt->(∀ y ∈ l,hdNe x y)->(insP x l).Pairwise hdLt
 | [],_,_=>by simp [insP]
 | y :: l,h,hx=>by
   obtain ⟨h1,h2⟩:=List.pairwise_cons.1 h;unfold insP;split
   ·rename_i e;refine List.pairwise_cons.2 ⟨fun z hz=>?_,h⟩
    rcases List.mem_cons.1 hz with rfl | hz
    ·exact e
    ·exact ltR.trans e (h1 z hz)
   ·rename_i e;refine List.pairwise_cons.2 ⟨fun z hz=>?_,insP_ord h2 fun z hz=>hx z (by simp [hz])⟩
    rcases List.mem_cons.1 ((insP_perm x l).mem_iff.1 hz) with rfl | hz
    ·rcases ltR_tri (hdR z) (hdR y) with h | h | h
     ·exact absurd h e
     ·exact absurd h (hx y (by simp))
     ·exact h
    ·exact h1 z hz
theorem hdNe_symm {p q:List Rf} (h:hdNe p q):hdNe q p:=fun e=>h e.symm
theorem srtP_ord:∀ {l},l.Pairwise hdNe->(srtP l).Pairwise hdLt
 | [],_=>by simp [srtP]
 | x :: l,h=>by
   obtain ⟨h1,h2⟩:=List.pairwise_cons.1 h
   exact insP_ord (srtP_ord h2) fun y hy=>h1 y ((srtP_perm l).mem_iff.1 hy)
theorem ord_perm:∀ {l m:List (List Rf)},l.Pairwise hdLt->m.Pairwise hdLt->l.Perm m->l=m
 | [],m,_,_,h=>by rw [List.nil_perm.1 h]
 | a :: l,[],_,_,h=>by have:=h.length_eq;simp at this
 | a :: l,b :: m,hl,hm,h=>by
   obtain ⟨h1,h2⟩:=List.pairwise_cons.1 hl;obtain ⟨h3,h4⟩:=List.pairwise_cons.1 hm
   have hab:a=b:=by
    rcases List.mem_cons.1 (h.mem_iff.1 (by simp:a ∈ a :: l)) with e | e
    ·exact e
    rcases List.mem_cons.1 (h.mem_iff.2 (by simp:b ∈ b :: m)) with e' | e'
    ·exact e'.symm
    exact absurd (ltR.trans (h1 b e') (h3 a e)) (ltR_irrefl _)
   subst hab;rw [ord_perm h2 h4 ((List.perm_cons a).1 h)]
theorem srtP_eq {l m:List (List Rf)} (hl:l.Pairwise hdNe) (h:l.Perm m):srtP l=srtP m :=
 ord_perm (srtP_ord hl) (srtP_ord (h.pairwise hl fun h=>hdNe_symm h)) ((srtP_perm l).trans (h.trans (srtP_perm m).symm))
theorem srtP_self {l m:List (List Rf)} (hl:l.Pairwise hdNe) (hm:m.Pairwise hdLt) (h:m.Perm l):m=srtP l :=
 ord_perm hm (srtP_ord hl) (h.trans (srtP_perm l).symm)
def aprt (s:List Dz) (a b:Rf):Bool:=s.any fun d=>!d.s && decide (d.a=a) && decide (d.b=b)
def barB (s:List Dz) (a b:Rf):Bool:=decide (a.g=b.g) || (aprt s a b || aprt s b a)
theorem barB_symm (s:List Dz) (a b:Rf):barB s a b=barB s b a:=by
 unfold barB;rw [Bool.or_comm (aprt s a b)]
 congr 1
 exact decide_eq_decide.2 ⟨Eq.symm,Eq.symm⟩
def wayL (sb:List Bd->List Bd) (bars:Rf->Rf->Bool) (B:List Bd):List (List Rf):=if (refsL B).length<=8 then exactL bars B else greedyL sb bars B
def flatL (sb:List Bd->List Bd) (l:List Bd) (s:List Dz):List (List Rf):=(cbs l).flatMap (wayL sb (barB s))
def solveL (sb:List Bd->List Bd) (l:List Bd) (s:List Dz):List (List Rf):=srtP (flatL sb l s)
section
variable {sb:List Bd->List Bd} (hsb:∀ B,∀ b ∈ sb B,b ∈ B)
include hsb
theorem way_good (s:List Dz) (B:List Bd):Pers (barB s) B (refsL B) (wayL sb (barB s) B):=by
 unfold wayL;split
 ·exact exact_good _ B
 ·exact greedy_good hsb (barB_symm s)
theorem way_same {s t:List Dz} {B:List Bd} (hbb:∀ a ∈ refsL B,∀ b ∈ refsL B,barB s a b=barB t a b):wayL sb (barB s) B=wayL sb (barB t) B:=by
 unfold wayL;rw [exact_same hbb,greedy_same hsb (barB_symm s) hbb]
omit hsb in
theorem Pers.ne {bars:Rf->Rf->Bool} {l:List Bd} {R:List Rf} {P:List (List Rf)} (h:Pers bars l R P):∀ p ∈ P,p≠[]:=fun p hp=>(h.per p hp).ne
omit hsb in
theorem apt_hd {p q:List Rf} (h:apt p q) (hp:p≠[]) (hq:q≠[]):hdNe p q:=fun e=>h _ (hd_mem hp) (by rw [e];exact hd_mem hq)
theorem flat_dis (l:List Bd) (s:List Dz):(flatL sb l s).Pairwise apt:=by
 unfold flatL;rw [List.pairwise_flatMap];refine ⟨fun B _=>(way_good hsb s B).dis,List.Pairwise.imp (fun {B C} h p hp q hq x hx hx2=>?_) (cbs_pw l)⟩;exact h x ((way_good hsb s B).sub p hp x hx) ((way_good hsb s C).sub q hq x hx2)
theorem mem_flat {l:List Bd} {s:List Dz} {p:List Rf} (h:p ∈ flatL sb l s):∃ B ∈ cbs l,p ∈ wayL sb (barB s) B/\Per (barB s) B p/\∀ x ∈ p,x ∈ refsL B:=by
 obtain ⟨B,hB,hp⟩:=List.mem_flatMap.1 h;exact ⟨B,hB,hp,(way_good hsb s B).per p hp,(way_good hsb s B).sub p hp⟩
theorem flat_hd (l:List Bd) (s:List Dz):(flatL sb l s).Pairwise hdNe:=by
 refine List.Pairwise.imp_of_mem (fun {p q} hp hq h=>?_) (flat_dis hsb l s);obtain ⟨_,_,_,h1,_⟩:=mem_flat hsb hp;obtain ⟨_,_,_,h2,_⟩:=mem_flat hsb hq;exact apt_hd h h1.ne h2.ne
omit hsb in
theorem apt_symm {p q:List Rf} (h:apt p q):apt q p:=fun x hx hx2=>h x hx2 hx
theorem solve_good (l:List Bd) (s:List Dz):Pers (barB s) l (refsL l) (solveL sb l s):=by
 have hm:∀ p,p ∈ solveL sb l s ↔ p ∈ flatL sb l s:=fun p=>(srtP_perm _).mem_iff
 refine ⟨fun p hp=>?_,fun p hp x hx=>?_,srtP_ord (flat_hd hsb l s),(srtP_perm _).symm.pairwise (flat_dis hsb l s) fun h=>apt_symm h⟩
 ·obtain ⟨B,hB,_,h1,h2⟩:=mem_flat hsb ((hm p).1 hp);exact ⟨h1.asc,h1.two,h1.free,by rw [jnd_in (cbs_isC hB) h2];exact h1.jn⟩
 ·obtain ⟨B,hB,_,_,h2⟩:=mem_flat hsb ((hm p).1 hp);obtain ⟨b,hb,e⟩:=mem_refsL.1 (h2 x hx);exact mem_refsL.2 ⟨b,isC_sub (cbs_isC hB) b hb,e⟩
omit hsb in
theorem solve_one {l B:List Bd} (h:IsC l B) (s:List Dz):(solveL sb B s).Perm (wayL sb (barB s) B):=by
 unfold solveL flatL;rw [isC_self h];refine (srtP_perm _).trans ?_;simp
omit hsb in
theorem flat_only {w:List Bd->List (List Rf)} {B:List Bd}:∀ (L:List (List Bd)),(∀ C ∈ L,∀ p ∈ w C,hdR p ∈ refsL C)->L.Pairwise (fun B C=>∀ r,r ∈ refsL B->r ∉ refsL C)->B ∈ L ->
 (L.flatMap w).filter (fun p=>decide (hdR p ∈ refsL B))=w B
 | [],_,_,hB=>nomatch hB
 | C :: L,hw,hp,hB=>by
   obtain ⟨h1,h2⟩:=List.pairwise_cons.1 hp;rw [List.flatMap_cons,List.filter_append];by_cases e:B ∈ L
   ·rw [flat_only L (fun C hC=>hw C (by simp [hC])) h2 e]
    have:(w C).filter (fun p=>decide (hdR p ∈ refsL B)) = []:=List.filter_eq_nil_iff.2 fun p hp=>by
     have:=h1 B e _ (hw C (by simp) p hp);simpa using this
    rw [this,List.nil_append]
   ·have hBC:B=C:=by
     rcases List.mem_cons.1 hB with h | h
     ·exact h
     ·exact absurd h e
    subst hBC
    have a:(w B).filter (fun p=>decide (hdR p ∈ refsL B))=w B:=List.filter_eq_self.2 fun p hp=>by simpa using hw B (by simp) p hp
    have b:(L.flatMap w).filter (fun p=>decide (hdR p ∈ refsL B)) = []:=List.filter_eq_nil_iff.2 fun p hp=>by
     obtain ⟨C,hC,hp⟩:=List.mem_flatMap.1 hp;have h3:=hw C (by simp [hC]) p hp
     simpa using fun h=>h1 C hC _ h h3
    rw [a,b,List.append_nil]
theorem kept_perm {x y B:List Bd} {s t:List Dz} (hB:B ∈ cbs y) (hk:touch (refsL B) x=B) (hbb:∀ a ∈ refsL B,∀ b ∈ refsL B,barB s a b=barB t a b) :
 ((solveL sb x s).filter fun p=>decide (hdR p ∈ refsL B)).Perm (wayL sb (barB t) B):=by
 have h1:=isC_cbs (isC_kept (cbs_isC hB) hk);rw [<-way_same hsb hbb];refine ((srtP_perm _).filter _).trans ?_;unfold flatL;rw [flat_only (cbs x) (fun C _ p hp=>(way_good hsb s C).sub p hp _ (hd_mem ((way_good hsb s C).ne p hp))) (cbs_pw x) h1]
theorem again_eq {x y:List Bd} {s t:List Dz} (ks:Nat->Bool) (hk:∀ i,i<(cbs y).length->ks i=true->touch (refsL ((cbs y).getD i [])) x=(cbs y).getD i []/\∀ a ∈ refsL ((cbs y).getD i []),∀ b ∈ refsL ((cbs y).getD i []),barB s a b=barB t a b) :
 srtP ((List.range (cbs y).length).flatMap fun i=>if ks i=true then (solveL sb x s).filter (fun p=>decide (hdR p ∈ refsL ((cbs y).getD i []))) else solveL sb ((cbs y).getD i []) t)=solveL sb y t:=by
 have hp:((List.range (cbs y).length).flatMap fun i=>if ks i=true then (solveL sb x s).filter (fun p=>decide (hdR p ∈ refsL ((cbs y).getD i []))) else solveL sb ((cbs y).getD i []) t).Perm (flatL sb y t):=by
  have e:flatL sb y t=(List.range (cbs y).length).flatMap fun i=>wayL sb (barB t) ((cbs y).getD i []):=by
   unfold flatL
   have:cbs y=(List.range (cbs y).length).map fun i=>(cbs y).getD i []:=by
    apply List.ext_getElem?;intro i;rw [List.getElem?_map];by_cases hi:i<(cbs y).length
    ·simp [hi,gDe]
    ·rw [List.getElem?_eq_none (by omega),List.getElem?_eq_none (by simp;omega)];rfl
   conv=>lhs;rw [this]
   rw [List.flatMap_map]
  rw [e]
  have key:∀ n,n<=(cbs y).length->((List.range n).flatMap fun i=>if ks i=true then (solveL sb x s).filter (fun p=>decide (hdR p ∈ refsL ((cbs y).getD i []))) else solveL sb ((cbs y).getD i []) t).Perm ((List.range n).flatMap fun i=>wayL sb (barB t) ((cbs y).getD i [])):=by
   intro n
   induction n with
   | zero=>intro _;simp
   | succ n ih =>
     intro hn;rw [List.range_succ,List.flatMap_append,List.flatMap_append];refine List.Perm.append (ih (by omega)) ?_;simp only [List.flatMap_cons,List.flatMap_nil,List.append_nil];have hB:(cbs y).getD n [] ∈ cbs y:=getD_mem (by omega);split
     ·rename_i hks;obtain ⟨h1,h2⟩:=hk n (by omega) hks;exact kept_perm hsb hB h1 h2
     ·exact solve_one (cbs_isC hB) t
  exact key _ (Nat.le_refl _)
 exact (srtP_eq (flat_hd hsb y t) hp.symm).symm
omit hsb in
theorem Pers_len {bars:Rf->Rf->Bool} {l:List Bd} {R:List Rf} {P:List (List Rf)} (h:Pers bars l R P):2*P.length<=R.length:=by
 have key:∀ (P:List (List Rf)),(∀ p ∈ P,2<=p.length)->(∀ p ∈ P,p.Nodup)->P.Pairwise apt->2*P.length<=P.flatten.length/\P.flatten.Nodup:=by
  intro P
  induction P with
  | nil=>intro _ _ _;simp
  | cons p P ih =>
    intro h1 h2 h3;obtain ⟨h4,h5⟩:=List.pairwise_cons.1 h3;obtain ⟨e1,e2⟩:=ih (fun q hq=>h1 q (by simp [hq])) (fun q hq=>h2 q (by simp [hq])) h5;have:=h1 p (by simp);refine ⟨by simp only [List.length_cons,List.flatten_cons,lap];omega,?_⟩;rw [List.flatten_cons,List.nodup_append];refine ⟨h2 p (by simp),e2,fun a ha b hb e=>?_⟩;subst e;obtain ⟨q,hq,hb⟩:=List.mem_flatten.1 hb;exact h4 q hq a ha hb
 obtain ⟨h1,h2⟩:=key P (fun p hp=>(h.per p hp).two) (fun p hp=>(h.per p hp).asc.nodup) h.dis;refine Nat.le_trans h1 (nodup_len h2 fun x hx=>?_);obtain ⟨p,hp,hx⟩:=List.mem_flatten.1 hx;exact h.sub p hp x hx
end
end Kx
namespace Kx
open Sx (nbq gDe bat lap zle bft ddl tnc)
def swB (l:List Bd) (i j:Nat):List Bd:=if i<l.length/\j<l.length then (l.set i (l.getD j Bd.z)).set j (l.getD i Bd.z) else l
def ltW (x y:Bd):Bool:=decide (cmpI y.w x.w<0)
def insIn:Nat->List Bd->Nat->List Bd
 | 0,l,_=>l
 | n+1,l,j=>if ltW (l.getD j Bd.z) (l.getD (j - 1) Bd.z)=true then insIn n (swB l j (j - 1)) (j - 1) else l
def insOut (a:Nat):Nat->List Bd->Nat->List Bd
 | 0,l,_=>l| n+1,l,i=>insOut a n (insIn (i - a) l i) (i+1)
def insB (l:List Bd) (a b:Nat):List Bd:=insOut a (b - (a+1)) l (a+1)
def bsr (p:Nat->Bool):Nat->Nat->Nat->Nat
 | 0,i,_=>i
 | n+1,i,j=>if i<j then (if p ((i+j) / 2)=true then bsr p n ((i+j) / 2+1) j else bsr p n i ((i+j) / 2)) else i
def upS:Nat->List Bd->Nat->List Bd
 | 0,l,_=>l| n+1,l,k=>upS n (swB l k (k+1)) (k+1)
def dnS:Nat->List Bd->Nat->List Bd
 | 0,l,_=>l| n+1,l,k=>dnS n (swB l k (k - 1)) (k - 1)
def swr (a b:Nat):Nat->Nat->List Bd->List Bd
 | 0,_,l=>l| n+1,i,l=>swr a b n (i+1) (swB l (a+i) (b+i))
def rotB (m:Nat):Nat->Nat->Nat->List Bd->List Bd
 | 0,_,_,l=>l
 | n+1,i,j,l=>if i=j then swr (m - i) m i 0 l else if j<i then rotB m n (i - j) j (swr (m - i) m j 0 l) else rotB m n i (j - i) (swr (m - i) (m+j - i) i 0 l)
def symC (l:List Bd) (a m b:Nat):Nat :=
 let mid:=(a+b) / 2
 let n:=mid+m
 let s:=if mid<m then n - b else a
 let r:=if mid<m then mid else m
 bsr (fun c=>!ltW (l.getD (n - 1 - c) Bd.z) (l.getD c Bd.z)) (r - s) s r
def symM:Nat->Nat->Nat->Nat->List Bd->List Bd
 | 0,_,_,_,l=>l
 | f+1,a,m,b,l =>
   if m - a=1 then upS (bsr (fun h=>ltW (l.getD h Bd.z) (l.getD a Bd.z)) (b - m) m b - 1 - a) l a
   else if b - m=1 then dnS (m - bsr (fun h=>!ltW (l.getD m Bd.z) (l.getD h Bd.z)) (m - a) a m) l m
   else
    let mid:=(a+b) / 2
    let s:=symC l a m b
    let e:=mid+m - s
    let l1:=if s<m/\m<e then rotB m (e - s) (m - s) (e - m) l else l
    let l2:=if a<s/\s<mid then symM f a s mid l1 else l1
    if mid<e/\e<b then symM f mid e b l2 else l2
def stB1 (n:Nat):Nat->Nat->List Bd->Nat × List Bd
 | 0,a,l=>(a,l)
 | f+1,a,l=>if a+20<=n then stB1 n f (a+20) (insB l a (a+20)) else (a,l)
def stB2 (n w:Nat):Nat->Nat->List Bd->Nat × List Bd
 | 0,a,l=>(a,l)
 | f+1,a,l=>if a+2*w<=n then stB2 n w f (a+2*w) (symM (2*w) a (a+w) (a+2*w) l) else (a,l)
def stB3 (n:Nat):Nat->Nat->List Bd->List Bd
 | 0,_,l=>l
 | f+1,w,l=>if w<n then
  let q:=stB2 n w n 0 l
  stB3 n f (w*2) (if q.1+w<n then symM (n - q.1) q.1 (q.1+w) n q.2 else q.2)
   else l
def stab (l:List Bd):List Bd :=
 let q:=stB1 l.length l.length 0 l
 stB3 l.length l.length 20 (insB q.2 q.1 l.length)
def Same (l m:List Bd):Prop:=m.length=l.length/\∀ b ∈ m,b ∈ l
theorem Same.rfl' (l:List Bd):Same l l:=⟨rfl,fun _ h=>h⟩
theorem Same.tr {l m k:List Bd} (h:Same l m) (h' : Same m k):Same l k:=⟨h'.1.trans h.1,fun b hb=>h.2 b (h'.2 b hb)⟩
theorem swB_same (l:List Bd) (i j:Nat):Same l (swB l i j):=by
 unfold swB;split
 ·rename_i h;refine ⟨by simp,fun b hb=>?_⟩
  rcases List.mem_or_eq_of_mem_set hb with hb | rfl
  ·rcases List.mem_or_eq_of_mem_set hb with hb | rfl
   ·exact hb
   ·exact getD_mem h.2
  ·exact getD_mem h.1
 ·exact .rfl' l
theorem insIn_same:∀ (n:Nat) (l:List Bd) (j:Nat),Same l (insIn n l j)
 | 0,l,_=>.rfl' l
 | n+1,l,j=>by
   unfold insIn;split
   ·exact (swB_same l j (j - 1)).tr (insIn_same n _ _)
   ·exact .rfl' l
theorem insOut_same (a:Nat):∀ (n:Nat) (l:List Bd) (i:Nat),Same l (insOut a n l i)
 | 0,l,_=>.rfl' l| n+1,l,i=>(insIn_same _ l i).tr (insOut_same a n _ _)
theorem insB_same (l:List Bd) (a b:Nat):Same l (insB l a b):=insOut_same _ _ _ _
theorem upS_same:∀ (n:Nat) (l:List Bd) (k:Nat),Same l (upS n l k)
 | 0,l,_=>.rfl' l| n+1,l,k=>(swB_same l k (k+1)).tr (upS_same n _ _)
theorem dnS_same:∀ (n:Nat) (l:List Bd) (k:Nat),Same l (dnS n l k)
 | 0,l,_=>.rfl' l| n+1,l,k=>(swB_same l k (k - 1)).tr (dnS_same n _ _)
theorem swr_same (a b:Nat):∀ (n i:Nat) (l:List Bd),Same l (swr a b n i l)
 | 0,_,l=>.rfl' l| n+1,i,l=>(swB_same l _ _).tr (swr_same a b n _ _)
theorem rotB_same (m:Nat):∀ (n i j:Nat) (l:List Bd),Same l (rotB m n i j l)
 | 0,_,_,l=>.rfl' l
 | n+1,i,j,l=>by
   unfold rotB;split
   ·exact swr_same _ _ _ _ _
   ·split
    ·exact (swr_same _ _ _ _ _).tr (rotB_same m n _ _ _)
    ·exact (swr_same _ _ _ _ _).tr (rotB_same m n _ _ _)
theorem ite_same {l m k:List Bd} {c:Prop} [Decidable c] (h:Same l m) (h' : Same l k):Same l (if c then m else k):=by
 split
 ·exact h
 ·exact h'
theorem symM_same:∀ (f a m b:Nat) (l:List Bd),Same l (symM f a m b l)
 | 0,_,_,_,l=>.rfl' l
 | f+1,a,m,b,l=>by
   unfold symM;refine ite_same (upS_same _ _ _) (ite_same (dnS_same _ _ _) ?_);dsimp only;have h1:Same l (if symC l a m b<m/\m<(a+b) / 2+m - symC l a m b then rotB m ((a+b) / 2+m - symC l a m b - symC l a m b) (m - symC l a m b) ((a+b) / 2+m - symC l a m b - m) l else l):=ite_same (rotB_same _ _ _ _ _) (.rfl' l);generalize (if symC l a m b<m/\m<(a+b) / 2+m - symC l a m b then rotB m ((a+b) / 2+m - symC l a m b - symC l a m b) (m - symC l a m b) ((a+b) / 2+m - symC l a m b - m) l else l)=l1 at *;have h2:Same l (if a<symC l a m b/\symC l a m b<(a+b) / 2 then symM f a (symC l a m b) ((a+b) / 2) l1 else l1):=ite_same (h1.tr (symM_same f _ _ _ _)) h1;generalize (if a<symC l a m b/\symC l a m b<(a+b) / 2 then symM f a (symC l a m b) ((a+b) / 2) l1 else l1)=l2 at *;exact ite_same (h2.tr (symM_same f _ _ _ _)) h2
theorem stB1_same (n:Nat):∀ (f a:Nat) (l:List Bd),Same l (stB1 n f a l).2
 | 0,_,l=>.rfl' l
 | f+1,a,l=>by
   unfold stB1;split
   ·exact (insB_same l _ _).tr (stB1_same n f _ _)
   ·exact .rfl' l
theorem stB2_same (n w:Nat):∀ (f a:Nat) (l:List Bd),Same l (stB2 n w f a l).2
 | 0,_,l=>.rfl' l
 | f+1,a,l=>by
   unfold stB2;split
   ·exact (symM_same _ _ _ _ l).tr (stB2_same n w f _ _)
   ·exact .rfl' l
theorem stB3_same (n:Nat):∀ (f w:Nat) (l:List Bd),Same l (stB3 n f w l)
 | 0,_,l=>.rfl' l
 | f+1,w,l=>by
   unfold stB3;split
   ·dsimp only;have h:=stB2_same n w n 0 l;exact (ite_same (h.tr (symM_same _ _ _ _ _)) h).tr (stB3_same n f _ _)
   ·exact .rfl' l
theorem stab_same (l:List Bd):Same l (stab l):=((stB1_same _ _ _ l).tr (insB_same _ _ _)).tr (stB3_same _ _ _ _)
theorem stab_in:∀ (B:List Bd),∀ b ∈ stab B,b ∈ B:=fun B=>(stab_same B).2
theorem bsr_in (p:Nat->Bool):∀ (f i j:Nat),i<=j->j - i<=f->i<=bsr p f i j/\bsr p f i j<=j
 | 0,i,j,h,hf=>by simp only [bsr];omega
 | f+1,i,j,h,hf=>by
   unfold bsr;split
   ·split
    ·have:=bsr_in p f ((i+j) / 2+1) j (by omega) (by omega);omega
    ·have:=bsr_in p f i ((i+j) / 2) (by omega) (by omega);omega
   ·omega
end Kx
namespace Kx
open Go Sx
def rk (r:Rf):List Int:=[r.g,r.i]
theorem rk_inj {a b:Rf}:rk a=rk b ↔ a=b:=by
 constructor
 ·intro h
  cases a;cases b
  simp [rk] at h;simp [h]
 ·rintro rfl;rfl
def mapD (R:List Rf) (F:Rf->D):List (List Int × D):=R.map fun r=>(rk r,F r)
theorem fndD_in {F:Rf->D} {r:Rf}:∀ {R:List Rf} (i:Nat),r ∈ R->∃ j,fndD (mapD R F) (rk r) i=some (j,F r)
 | [],_,h=>nomatch h
 | x :: R,i,h=>by
   simp only [mapD,List.map_cons,fndD];by_cases e:x=r
   ·subst e;simp
   ·have e2:decide (rk x=rk r)=false:=decide_eq_false fun h=>e (rk_inj.1 h)
    rw [e2];exact fndD_in (i+1) (by rcases List.mem_cons.1 h with h | h;(· exact absurd h.symm e);(· exact h))
theorem fndD_out {F:Rf->D} {r:Rf}:∀ {R:List Rf} (i:Nat),r ∉ R->fndD (mapD R F) (rk r) i=none
 | [],_,_=>rfl
 | x :: R,i,h=>by
   simp only [List.mem_cons,not_or] at h;simp only [mapD,List.map_cons,fndD]
   have e2:decide (rk x=rk r)=false:=decide_eq_false fun e=>h.1 (rk_inj.1 e).symm
   rw [e2];exact fndD_out (i+1) h.2
theorem dget_in {R:List Rf} {F:Rf->D} {r:Rf} (h:r ∈ R):dget (mapD R F) (rk r)=some (F r):=by
 obtain ⟨j,hj⟩:=fndD_in (F:=F) 0 h;rw [dget,hj];rfl
theorem dput_out {R:List Rf} {F:Rf->D} {r:Rf} (h:r ∉ R) (d:D):dput (mapD R F) (rk r) d=mapD R F ++ [(rk r,d)]:=by
 rw [dput,fndD_out 0 h]
theorem fndD_pos {F:Rf->D} {r:Rf}:∀ {R:List Rf} (i:Nat) (p:Nat × D),fndD (mapD R F) (rk r) i=some p->i<=p.1/\R[p.1 - i]? = some r
 | [],_,_,h=>by simp [mapD,fndD] at h
 | x :: R,i,p,h=>by
   simp only [mapD,List.map_cons,fndD] at h;split at h
   ·rename_i e;cases h;have:=rk_inj.1 (of_decide_eq_true e);subst this;simp
   ·obtain ⟨h1,h2⟩:=fndD_pos (i+1) p h;refine ⟨by omega,?_⟩;rw [show p.1 - i=(p.1 - (i+1))+1 by omega];simpa using h2
theorem dput_in {R:List Rf} {F:Rf->D} {r:Rf} (hn:R.Nodup) (h:r ∈ R) (d:D):dput (mapD R F) (rk r) d=mapD R fun x=>if x=r then d else F x:=by
 obtain ⟨j,hj⟩:=fndD_in (F:=F) 0 h;have hp:=(fndD_pos 0 _ hj).2;simp only [Nat.sub_zero] at hp;rw [dput,hj];apply List.ext_getElem?;intro i;simp only [mapD,List.getElem?_modify,List.getElem?_map];by_cases e:j=i
 ·subst e;simp [hp]
 ·simp only [e,if_false]
  cases hi:R[i]? with
  | none=>rfl
  | some x =>
    have hx:x≠r:=fun ex=>by
     subst ex;have h1:=(List.getElem?_eq_some_iff.1 hp);have h2:=(List.getElem?_eq_some_iff.1 hi);obtain ⟨a1,a2⟩:=h1;obtain ⟨b1,b2⟩:=h2;have hpw:=List.pairwise_iff_getElem.1 hn
     rcases Nat.lt_or_gt_of_ne e with hlt | hlt
     ·exact hpw j i a1 b1 hlt (a2.trans b2.symm)
     ·exact hpw i j b1 a1 hlt (b2.trans a2.symm)
    simp [hx]
def updR (f:Rf->Rf) (r s:Rf):Rf->Rf:=fun x=>if x=r then s else f x
structure Fst (R:List Rf) (U f:Rf->Rf) (k:Rf->Nat):Prop where
 mem:∀ r ∈ R,f r ∈ R
 uni:∀ r ∈ R,U (f r)=U r
 root:∀ r ∈ R,f r=r->U r=r
 rank:∀ r ∈ R,f r≠r->k (f r)<k r
theorem Fst.half {R:List Rf} {U f:Rf->Rf} {k:Rf->Nat} (h:Fst R U f k) {r:Rf} (hr:r ∈ R) (hne:f r≠r):Fst R U (updR f r (f (f r))) k/\k (f (f r))<k r/\f (f r) ∈ R/\U (f (f r))=U r/\∀ x,f x=x->updR f r (f (f r)) x=x:=by
 have h1:=h.mem r hr;have h2:=h.mem _ h1
 have hk:k (f (f r))<k r:=by
  have a:=h.rank r hr hne;by_cases e:f (f r)=f r
  ·rw [e];exact a
  ·have:=h.rank _ h1 e;omega
 have hu:U (f (f r))=U r:=by rw [h.uni _ h1,h.uni r hr]
 refine ⟨⟨fun x hx=>?_,fun x hx=>?_,fun x hx e=>?_,fun x hx e=>?_⟩,hk,h2,hu,fun x hx=>?_⟩
 ·unfold updR;split
  ·exact h2
  ·exact h.mem x hx
 ·unfold updR;split
  ·rename_i e;rw [e];exact hu
  ·exact h.uni x hx
 ·unfold updR at e;split at e
  ·rename_i e2;subst e2;rw [e] at hk;omega
  ·exact h.root x hx e
 ·unfold updR at e ⊢;split
  ·rename_i e2;subst e2;exact hk
  ·rename_i e2;rw [if_neg e2] at e;exact h.rank x hx e
 ·unfold updR;split
  ·rename_i e;subst e;exact absurd hx hne
  ·exact hx
theorem Fst.join {R:List Rf} {U f:Rf->Rf} {k:Rf->Nat} (h:Fst R U f k) (hid:∀ r,U (U r)=U r) {b:Bd} (hb:U b.b ∈ R) (fa:f (U b.a)=U b.a):∃ k',Fst R (uniF U b) (updR f (U b.a) (U b.b)) k':=by
 by_cases e:U b.a=U b.b
 ·have hf:updR f (U b.a) (U b.b)=f:=funext fun x=>by
   unfold updR;split
   ·rename_i ex;rw [ex,fa,e]
   ·rfl
  have hu:uniF U b=U:=funext fun x=>by
   unfold uniF;split
   ·rename_i ex;rw [ex,e]
   ·rfl
  rw [hf,hu];exact ⟨k,h⟩
 ·refine ⟨fun x=>k x+if U x=U b.a then k (U b.b)+1 else 0,⟨fun x hx=>?_,fun x hx=>?_,fun x hx ex=>?_,fun x hx ex=>?_⟩⟩
  ·unfold updR;split
   ·exact hb
   ·exact h.mem x hx
  ·unfold updR uniF;by_cases ex:x=U b.a
   ·subst ex;simp only [if_true,hid];rw [if_neg (Ne.symm e)]
   ·simp only [ex,if_false,h.uni x hx]
  ·unfold updR at ex;unfold uniF;by_cases e2:x=U b.a
   ·subst e2;simp only [if_true] at ex;exact absurd ex.symm e
   ·simp only [e2,if_false] at ex;have:=h.root x hx ex;rw [this,if_neg e2]
  ·unfold updR at ex ⊢;by_cases e2:x=U b.a
   ·subst e2;simp only [if_true,hid];rw [if_neg (Ne.symm e)];omega
   ·simp only [e2,if_false] at ex ⊢;have:=h.rank x hx ex;rw [h.uni x hx];omega
theorem Fst.start (R:List Rf):Fst R id id fun _=>0:=⟨fun _ h=>h,fun _ _=>rfl,fun _ _ _=>rfl,fun _ _ h=>absurd rfl h⟩
def atN:Nat->List Rf->List (List Int × Int)
 | _,[]=>[]| n,t :: T=>(rk t,(n:Int)) :: atN (n+1) T
theorem atN_snoc (t:Rf):∀ (T:List Rf) (n:Nat),atN n (T ++ [t])=atN n T ++ [(rk t,((n+T.length:Nat):Int))]
 | [],n=>by simp [atN]
 | x :: T,n=>by
   simp only [List.cons_append,atN,atN_snoc t T (n+1),List.length_cons];rw [show n+1+T.length=n+(T.length+1) by omega]
theorem atN_out {t:Rf}:∀ {T:List Rf} {n:Nat} (i:Nat),t ∉ T->fnd (atN n T) (rk t) i=none
 | [],_,_,_=>rfl
 | x :: T,n,i,h=>by
   simp only [List.mem_cons,not_or] at h
   have e2:decide (rk x=rk t)=false:=decide_eq_false fun e=>h.1 (rk_inj.1 e).symm
   simp only [atN,fnd,e2];exact atN_out (i+1) h.2
theorem atN_in {t:Rf}:∀ {T:List Rf} {n:Nat} (i:Nat),t ∈ T->∃ p j,fnd (atN n T) (rk t) i=some (p,((n+j:Nat):Int))/\T[j]? = some t
 | [],_,_,h=>nomatch h
 | x :: T,n,i,h=>by
   by_cases e:x=t
   ·subst e;exact ⟨i,0,by simp [atN,fnd],rfl⟩
   ·have e2:decide (rk x=rk t)=false:=decide_eq_false fun h=>e (rk_inj.1 h)
    obtain ⟨p,j,h1,h2⟩:=atN_in (t:=t) (T:=T) (n:=n+1) (i+1) (by rcases List.mem_cons.1 h with h | h;(· exact absurd h.symm e);(· exact h));refine ⟨p,j+1,?_,by simpa using h2⟩;simp only [atN,fnd,e2];rw [h1,show n+1+j=n+(j+1) by omega]
theorem at_none {t:Rf} {T:List Rf} (h:t ∉ T):mget (atN 0 T) (rk t)=none:=by rw [mget,atN_out 0 h];rfl
theorem at_some {t:Rf} {T:List Rf} (h:t ∈ T):∃ j:Nat,mget (atN 0 T) (rk t)=some (j:Int)/\T[j]? = some t:=by
 obtain ⟨p,j,h1,h2⟩:=atN_in (n:=0) 0 h;exact ⟨j,by rw [mget,h1];simp,h2⟩
theorem at_put {t:Rf} {T:List Rf} (h:t ∉ T):mput (atN 0 T) (rk t) (T.length:Int)=atN 0 (T ++ [t]):=by
 rw [mput,atN_out 0 h,atN_snoc];simp
theorem atN_wf:∀ (T:List Rf) (n:Nat),∀ x ∈ atN n T,x.1.length=2
 | [],_,_,h=>nomatch h
 | t :: T,n,x,h=>by
   rcases List.mem_cons.1 h with rfl | h
   ·rfl
   ·exact atN_wf T (n+1) x h
def k4 (a b:Rf):List Int:=[a.g,a.i,b.g,b.i]
theorem k4_inj {a b c e:Rf}:k4 a b=k4 c e ↔ a=c/\b=e:=by
 constructor
 ·intro h
  cases a;cases b;cases c;cases e
  simp [k4] at h;simp [h]
 ·rintro ⟨rfl,rfl⟩;rfl
def apF (m:List (List Int × Int)) (d:Dz):List (List Int × Int):=if d.s=true then m else mput m (k4 d.a d.b) 1
def apL (s:List Dz):List (List Int × Int):=s.foldl apF []
theorem aprt_app (s:List Dz) (d:Dz) (a b:Rf):aprt (s ++ [d]) a b=(aprt s a b || (!d.s && decide (d.a=a) && decide (d.b=b))):=by simp [aprt]
theorem ap_fold (a b:Rf):∀ (s t:List Dz) (m:List (List Int × Int)),((mget m (k4 a b)).getD 0≠0 ↔ aprt t a b=true)->((mget (s.foldl apF m) (k4 a b)).getD 0≠0 ↔ aprt (t ++ s) a b=true)
 | [],t,m,h=>by simpa using h
 | d :: s,t,m,h=>by
   have:=ap_fold a b s (t ++ [d]) (apF m d) (by
    rw [aprt_app];unfold apF
    cases hd:d.s with
    | true=>simpa using h
    | false =>
      simp only [bft,if_false,Bool.not_false,Bool.true_and];rw [mget_put];by_cases e:k4 d.a d.b=k4 a b
      ·obtain ⟨e1,e2⟩:=k4_inj.1 e;rw [if_pos e];simp [e1,e2]
      ·have e2:(decide (d.a=a) && decide (d.b=b))=false:=by
        rw [Bool.and_eq_false_iff];by_cases h1:d.a=a
        ·right;exact decide_eq_false fun h2=>e (k4_inj.2 ⟨h1,h2⟩)
        ·left;exact decide_eq_false h1
       rw [if_neg e,e2,Bool.or_false];exact h)
   simpa using this
theorem ap_iff (s:List Dz) (a b:Rf):(mget (apL s) (k4 a b)).getD 0≠0 ↔ aprt s a b=true:=by
 have:=ap_fold a b s [] [] (by simp [mget,fnd,aprt])
 rwa [List.nil_append] at this
theorem ap_eq (s:List Dz) (a b:Rf):decide ((mget (apL s) (k4 a b)).getD 0≠0)=aprt s a b:=by
 rw [Bool.eq_iff_iff,decide_eq_true_eq];exact ap_iff s a b
theorem apF_wf {m:List (List Int × Int)} {d:Dz} (h:∀ x ∈ m,x.1.length=4):∀ x ∈ apF m d,x.1.length=4:=by
 unfold apF;split
 ·exact h
 ·exact mput_wf h rfl
theorem ap_wf (s:List Dz):∀ x ∈ apL s,x.1.length=4:=foldl_keep (fun m=>∀ x ∈ m,x.1.length=4) apF s [] (fun _ _ _ h=>apF_wf h) (by simp)
end Kx
