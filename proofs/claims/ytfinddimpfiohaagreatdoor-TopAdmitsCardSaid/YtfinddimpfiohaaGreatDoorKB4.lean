/-
  change: values, state, Check, Valid, row, both.
  No condition beyond those written in each theorem.
-/
import Derived.Test.YtfinddimpfiohaaGreatDoorKB3
set_option linter.unusedSimpArgs false
set_option linter.unusedVariables false
set_option maxRecDepth 4000
open Go Sx Go.Proofs
namespace Kx
def idx {α:Type} (p:α->Bool):List α->Int->Int
 | [],_=>-1| x :: l,k=>bif p x then k else idx p l (k+1)
theorem idx_step {α:Type} (p:α->Bool) (l:List α) (z:α) (i:Nat) (h:i<l.length):idx p (l.drop i) i=bif p (l.getD i z) then (i:Int) else idx p (l.drop (i+1)) ((i:Int)+1):=by
 rw [drop_step l z i h];rfl
theorem idx_any {α:Type} (p:α->Bool):∀ (l:List α) (k:Int),0<=k->decide (0<=idx p l k)=l.any p
 | [],k,_=>by simp [idx]
 | x :: l,k,hk=>by
   have ih:=idx_any p l (k+1) (by omega);rw [idx,List.any_cons]
   cases h:p x
   ·rw [cond_false,Bool.false_or];exact ih
   ·rw [cond_true,Bool.true_or];simpa using hk
theorem idxfS_ct (l:List Str) (f:Nat) (caps:List D) (p:Str->Bool) (hl:l.length<=100000) (hc:immL caps=true) (hp:∀ x ∈ l,Ct Tryz.prog f (.str x :: caps) fun r _=>r = .bool (p x)):Cr 228 [strs l,.fn f caps] (i64 (idx p l 0)):=by
 refine .det (De Tryz.func228 [] [] ?_)
 repeat' first|refine S0 ?_;conv=>whnf|(refine adL_imm hc (Step.out ?_))
 refine Lw [] [] (α:=Nat) (fun i=>[(0,strs l),(1,.fn f caps),(7,i64 l.length),(8,i64 i)]) (fun i=>[]) 0 (fun i=>i<=l.length/\idx p l 0=idx p (l.drop i) i) (fun i=>l.length - i) ?_ ?_
 ·refine Again.by 0 ⟨zle _,rfl⟩ ?_
  repeat' first|refine S0 ?_;conv=>whnf|refine Vo ?_|refine Vb ?_|exact T0|(refine Cho.l (Step.out ?_))
 ·intro i hi
  repeat' first|refine S0 ?_;conv=>whnf|refine Vo ?_|exact T0|refine W6 ?_|(refine forceL_of (Step.out ?_))|(refine lesL_imm hc (Step.out ?_))|(refine Met.by (hp _ ?_) ?_;rotate_left;(rintro q outs rfl))|(refine Br.d (fun h=>?_) fun h=>?_)|(refine Bm (fun h=>?_) fun h=>?_)|refine T2 ?_ ?_|refine K0 ?_
  all_goals try simp only [tnc] at *
  ·rw [hi.2,idx_step p l [] i (by omega),h,cond_true]
  ·refine Again.by (i+1) ⟨⟨by omega,by rw [hi.2,idx_step p l [] i (by omega),h,cond_false];rfl⟩,by omega⟩ ?_
   repeat' first|refine S0 ?_;conv=>whnf|refine Vo ?_|refine Vb ?_|exact T0|(refine Cho.l (Step.out ?_))
  ·exact getD_in (by omega)
  ·have e:i=l.length:=by omega
   rw [hi.2,e,List.drop_length];rfl
theorem confS_ct (l:List Str) (f:Nat) (caps:List D) (p:Str->Bool) (hl:l.length<=100000) (hc:immL caps=true) (hp:∀ x ∈ l,Ct Tryz.prog f (.str x :: caps) fun r _=>r = .bool (p x)):Cr 163 [strs l,.fn f caps] (.bool (l.any p)):=by
 refine .det (De Tryz.func163 [] [] ?_)
 repeat' first|refine S0 ?_;conv=>whnf|exact T0|(refine adL_imm hc (Step.out ?_))|(refine lesL_imm hc (Step.out ?_))|(refine M0 (idxfS_ct l f caps p hl hc hp) ?_)|refine T2 ?_ ?_|refine K0 ?_
 exact idx_any p l 0 (by omega)
theorem lim_ct (s:Str):Ct Tryz.prog 164 [.str s] fun r _=>r = .bool (decide (64<s.length)):=by
 refine Ct.mono (R:=fun r outs=>r = .bool (decide (64<s.length))/\outs = []) ?_ (fun _ _ h=>h.1);refine .det (De Tryz.func164 [] [] ?_)
 repeat' first|refine S0 ?_;conv=>whnf|exact T0|refine T2 ?_ ?_
 all_goals first
  | trivial
  | exact hb h
  | with_reducible rfl
  | with_reducible exact same_rfl
  | omega
  | ((simp only [decide_eq_decide];omega))
theorem values_ct (l:List Str) (hl:l.length<=100000):Cr 100 [strs l] (.bool (valsB l)):=by
 refine .det (De Tryz.func100 [] [] ?_)
 repeat' first|refine S0 ?_;conv=>whnf|exact T0|(refine M0 (confS_ct l 164 [] _ (by omega) rfl (fun x _=>lim_ct x)) ?_)|(refine Br.d (fun h=>?_) fun h=>?_)|refine T2 ?_ ?_|refine K0 ?_
 ·rw [valsB,decide_eq_true (by omega),decide_eq_true (by omega)];rfl
 ·rw [valsB,decide_eq_false (show ¬l.length<=5 by omega),Bool.and_false];rfl
 ·rw [valsB,decide_eq_false (show ¬1<=l.length by omega)];rfl
def Rw.stateB (r:Rw):Bool:=if r.ver=0/\(r.sv=0\/0<r.vals.length)\/0<r.ver/\valsB r.vals=false then false else if r.sv=0 then decide (r.st=0) && decide (r.into=0) else statB r.id r.st r.into
theorem state_ct (r:Rw) (hl:r.vals.length<=100000):Cr 60 [r.d] (.bool r.stateB):=by
 refine .det (De Tryz.func60 [] [] ?_)
 repeat' first|refine S0 ?_;conv=>whnf|exact T0|refine B0 ?_|(refine Br.d (fun h=>?_) fun h=>?_)|refine Br.swap ?_|refine Br.bnot ?_|(refine Bm (fun h=>?_) fun h=>?_)|refine T2 ?_ ?_|refine K0 ?_|(refine M0 (g:=100) (values_ct _ (by omega)) ?_)|(refine M0 (g:=101) (status_ct _ _ _) ?_)
 all_goals unfold Rw.stateB
 all_goals first
  | trivial
  | exact hb h
  | with_reducible rfl
  | with_reducible exact same_rfl
  | omega
  | ((rw [if_pos (.inl (by omega))];done))
  | ((rw [if_pos (.inr ⟨by omega,‹_›⟩)];done))
  | ((rw [if_neg (by rintro (h' | h')<;>first | omega | simp_all),if_neg (by omega)];done))
  | ((rw [if_neg (by rintro (h' | h')<;>first | omega | simp_all),if_pos (by omega),decide_eq_true (show r.st=0 by omega),Bool.true_and];done))
  | ((rw [if_neg (by rintro (h' | h')<;>first | omega | simp_all),if_pos (by omega),decide_eq_false (show ¬r.st=0 by omega),Bool.false_and];done))
structure Ev where
 kind:Int
 id:Int
 ver:Int
 vals:List Str
 st:Int
 into:Int
def Ev.f (e:Ev):List D:=[i64 e.kind,i64 e.id,i64 e.ver,strs e.vals,i64 e.st,i64 e.into]
def Ev.d (e:Ev):D:=.agg e.f
def Ev.good (e:Ev):Bool:=decide (e.kind=1) && valsB e.vals && decide (e.st=0) && decide (e.into=0) || decide (e.kind=2) && decide (e.vals.length=0) && statB e.id e.st e.into
def Ev.chk (e:Ev):Int:=if (idB e.id && decide (1<=e.ver) && decide (e.ver<=1048576))=true then if e.good=true then 0 else 49 else 2
end Kx
open Go Sx Go.Proofs
namespace Kx
structure RwsOK (l:List Rw):Prop where
 n:l.length<=100000
 v:∀ r ∈ l,r.vals.length<=100000
def vGo:Int->List Rw->Int
 | _,[]=>0
 | m,r :: l=>if (idB r.id && verB r.ver && verB r.sv)=false then 2 else if r.stateB=false then 50 else if r.id<=m then 12 else vGo r.id l
def valid (l:List Rw):Int:=if 64<l.length then 1 else vGo 0 l
def rAt (l:List Rw) (i:Nat):Int:=if i=0 then 0 else (l.getD (i - 1) Rw.z).id
theorem vGo_step (l:List Rw) (m:Int) (i:Nat) (h:i<l.length):vGo m (l.drop i)=if (idB (l.getD i Rw.z).id && verB (l.getD i Rw.z).ver && verB (l.getD i Rw.z).sv)=false then 2 else if (l.getD i Rw.z).stateB=false then 50 else if (l.getD i Rw.z).id<=m then 12 else vGo (l.getD i Rw.z).id (l.drop (i+1)):=by
 rw [drop_step l Rw.z i h];rfl
theorem valid_ct_c (l:List Rw) (hl:RwsOK l):Cr 30 [rws l] (i64 (valid l)):=by
 have hn:=hl.n;refine .det (De Tryz.func30 ord30 [] ?_)
 repeat' first|refine S0 ?_;conv=>whnf|exact T0|(refine Br.d (fun h=>?_) fun h=>?_)|refine T2 ?_ ?_
 ·rw [valid,if_pos (by omega)]
 ·have hval:valid l=vGo 0 l:=by rw [valid,if_neg (by omega)]
  refine Lw ord30 [] (α:=Nat) (fun i=>[(0,rws l),(8,rws l),(9,i64 l.length),(10,i64 i)]) (fun i=>[]) 0 (fun i=>i<=l.length/\vGo 0 l=vGo (rAt l i) (l.drop i)) (fun i=>l.length - i) ?_ ?_
  ·refine Again.by 0 ⟨zle _,rfl⟩ ?_
   repeat' first|refine S0 ?_;conv=>whnf|refine Vo ?_|exact T0
  ·intro i ⟨hi,hv⟩
   have hvl:=fun (h:i<l.length)=>hl.v _ (getD_in (z:=Rw.z) (i:=(i:Int).toNat) h)
   repeat' first|refine S0 ?_;conv=>whnf|refine Vo ?_|exact T0|refine W6 ?_|(refine M0 (state_ct (l.getD (i:Int).toNat Rw.z) (hvl (by omega))) ?_)|(refine Br.d (fun h=>?_) fun h=>?_)|refine Br.swap ?_|refine Br.bnot ?_|(refine Bm (fun h=>?_) fun h=>?_)|refine T2 ?_ ?_|refine K0 ?_|(refine M0 (g:=58) (id_ct_c _) ?_)|(refine M0 (g:=59) (version_ct _) ?_)
   all_goals try simp only [tnc] at *
   ·rw [hval,hv,vGo_step l _ i (by omega),if_neg (by simp [-List.getD_eq_getElem?_getD, *]),if_neg (by simp [-List.getD_eq_getElem?_getD, *]),if_pos];rw [rAt,if_neg (by omega),show i - 1=((i:Int) - 1).toNat by omega];assumption
   ·refine Again.by (i+1) ⟨⟨by omega,?_⟩,by omega⟩ ?_
    ·rw [hv,vGo_step l _ i (by omega),if_neg (by simp [-List.getD_eq_getElem?_getD, *]),if_neg (by simp [-List.getD_eq_getElem?_getD, *]),if_neg,rAt,if_neg (by omega),Nat.add_sub_cancel];rw [rAt,if_neg (by omega),show i - 1=((i:Int) - 1).toNat by omega];assumption
    ·repeat' first|refine S0 ?_;conv=>whnf|refine Vo ?_|exact T0
   ·refine Again.by (i+1) ⟨⟨by omega,?_⟩,by omega⟩ ?_
    ·rw [hv,vGo_step l _ i (by omega),if_neg (by simp [-List.getD_eq_getElem?_getD, *]),if_neg (by simp [-List.getD_eq_getElem?_getD, *]),if_neg,rAt,if_neg (by omega),Nat.add_sub_cancel];have hid:idB (l.getD i Rw.z).id=true:=‹_›;rw [rAt,if_pos (by omega)];simp only [idB,bat,decide_eq_true_eq] at hid;omega
    ·repeat' first|refine S0 ?_;conv=>whnf|refine Vo ?_|exact T0
   all_goals try
    rw [hval,hv,vGo_step l _ i (by omega),if_neg (by simp [-List.getD_eq_getElem?_getD, *]),if_pos (by simp [-List.getD_eq_getElem?_getD, *])]
    done
   all_goals try
    rw [hval,hv,vGo_step l _ i (by omega),if_pos (by simp [-List.getD_eq_getElem?_getD, *])]
    done
   all_goals try
    rw [hval,hv,ddl (by omega)];rfl
end Kx
open Go Sx Go.Proofs
namespace Kx
theorem cloneS_ct (l:List Str) (h0:l.length<=1000000):Cr 31 [strs l] (strsO 9 l):=by
 refine .det (De Tryz.func31 [] [] ?_)
 repeat' first|refine S0 ?_;conv=>whnf|refine Vb ?_|(refine NilB.mk fun b hb=>Step.out ?_)|exact T0|(refine Bm (fun h=>?_) fun h=>?_)|refine T2 ?_ ?_
 all_goals first
  | trivial
  | exact hb h
  | with_reducible rfl
  | with_reducible exact same_rfl
  | omega
  | (exact ⟨by omega,fun i hi=>by simp [iteL,selC]⟩)
theorem listS_ct (l:List Str) (hl:l.length<=1000000):Cr 183 [strs l] (strsO 9 l):=by
 refine .det (De Tryz.func183 [] [] ?_)
 repeat' first|refine S0 ?_;conv=>whnf|exact T0|exact T1|refine T2 ?_ ?_|refine K0 ?_|(refine M0 (g:=31) (cloneS_ct _ (by omega)) ?_)
def Rw.o (r:Rw):D:=.agg [i64 r.id,i64 r.ver,strsO 9 r.vals,i64 r.sv,i64 r.st,i64 r.into]
theorem freshRow_ct (r:Rw) (hl:r.vals.length<=1000000):Cr 121 [r.d] r.o:=by
 refine .det (De Tryz.func121 [] [] ?_)
 repeat' first|refine S0 ?_;conv=>whnf|exact T0|exact T1|refine T2 ?_ ?_|refine K0 ?_|(refine M0 (g:=183) (listS_ct _ (by omega)) ?_)
def both (a b:Rw):Rw :=
 let c:=if cont a b<0 then (b.ver,b.vals) else (a.ver,a.vals)
 let s:=if stat a b<0 then (b.sv,b.st,b.into) else (a.sv,a.st,a.into)
 ⟨a.id,c.1,c.2,s.1,s.2.1,s.2.2⟩
def Ev.row (e:Ev):Rw:=if e.kind=1 then ⟨e.id,e.ver,e.vals,0,0,0⟩ else ⟨e.id,0,[],e.ver,e.st,e.into⟩
end Kx
open Go Sx Go.Proofs
namespace Kx
def zRow:List D:=[i64 0,i64 0,.nil,i64 0,i64 0,i64 0]
def part (l:List Rw):Nat->Nat->List D
 | 0,_=>zRow| i+1,j=>iteL (j=i) (Rw.f (l.getD i Rw.z)) (part l i j)
def Shp (m:List D):Prop:=∃ a b X c d e,m = [i64 a,i64 b,X,i64 c,i64 d,i64 e]/\(X = .nil\/∃ n f,X = .tab 1 n f/\∀ q,∃ s,f q = [.str s])
theorem shp_z:Shp zRow:=⟨0,0,.nil,0,0,0,rfl,.inl rfl⟩
theorem ite_T {r:Rw} {m:List D} {c:Prop} [Decidable c] (hc:c) (h:Shp m):iteL c r.f m=r.f:=by
 obtain ⟨a,b,X,c',d,e,rfl,hX⟩:=h
 rcases hX with rfl | ⟨n,f,rfl,hf⟩
 ·show [i64 (if c then _ else _),i64 (if c then _ else _),.tab 1 (if c then _ else 0) _,i64 (if c then _ else _),i64 (if c then _ else _),i64 (if c then _ else _)]=_
  simp only [if_pos hc];rfl
 ·show [i64 (if c then _ else _),i64 (if c then _ else _),.tab 1 (if c then _ else _) (fun q=>iteL1 c [.str (r.vals.getD q [])] (f q)),i64 (if c then _ else _),i64 (if c then _ else _),i64 (if c then _ else _)]=_
  have:(fun q=>iteL1 c [D.str (r.vals.getD q [])] (f q))=fun q=>[D.str (r.vals.getD q [])]:=by
   funext q
   obtain ⟨s,hs⟩:=hf q;rw [hs]
   show [D.str (if c then _ else _)]=_
   rw [if_pos hc]
  rw [this];simp only [if_pos hc];rfl
theorem ite_F {r s:Rw} {c:Prop} [Decidable c] (hc:¬c):iteL c r.f s.f=s.f:=by
 show [i64 (if c then _ else _),i64 (if c then _ else _),.tab 1 (if c then _ else _) (fun q=>iteL1 c [.str (r.vals.getD q [])] [.str (s.vals.getD q [])]),i64 (if c then _ else _),i64 (if c then _ else _),i64 (if c then _ else _)]=_
 have:(fun q=>iteL1 c [D.str (r.vals.getD q [])] [D.str (s.vals.getD q [])])=fun q=>[D.str (s.vals.getD q [])]:=by
  funext q
  show [D.str (if c then _ else _)]=_
  rw [if_neg hc]
 rw [this];simp only [if_neg hc];rfl
theorem shp_ite {r:Rw} {m:List D} {c:Prop} [Decidable c] (h:Shp m):Shp (iteL c r.f m):=by
 obtain ⟨a,b,X,c',d,e,rfl,hX⟩:=h
 rcases hX with rfl | ⟨n,f,rfl,hf⟩
 ·exact ⟨_,_,_,_,_,_,rfl,.inr ⟨_,_,rfl,fun q=>⟨_,rfl⟩⟩⟩
 ·refine ⟨_,_,_,_,_,_,rfl,.inr ⟨_,_,rfl,fun q=>?_⟩⟩;obtain ⟨s,hs⟩:=hf q
  show ∃ s,iteL1 c [.str (r.vals.getD q [])] (f q)=_
  rw [hs];exact ⟨_,rfl⟩
theorem part_shp (l:List Rw):∀ i j,Shp (part l i j)
 | 0,_=>shp_z| i+1,j=>shp_ite (part_shp l i j)
theorem part_eq (l:List Rw):∀ i j,j<i->part l i j=Rw.f (l.getD j Rw.z)
 | i+1,j,h=>by
   rw [part];by_cases e:j=i
   ·subst e;exact ite_T rfl (part_shp l j j)
   ·rw [part_eq l i j (by omega)];exact ite_F e
end Kx
open Go Sx Go.Proofs
namespace Kx
theorem set_row {m:List D} (h:Shp m) (r:Rw):setL m 0 r.f=r.f:=by
 obtain ⟨a,b,X,c',d,e,rfl,_⟩:=h;rfl
theorem each_ct (l:List Rw) (hl:RwsOK l):Cr 120 [rws l,.fn 121 []] (rwsO 107 l):=by
 have hn:=hl.n;refine .det (De Tryz.func120 [] [] ?_)
 repeat' first|refine S0 ?_;conv=>whnf|refine Vb ?_|(refine NilB.mk fun b hb=>Step.out ?_)|exact T0|(refine Bm (fun h=>?_) fun h=>?_)|refine T2 ?_ ?_
 ·exact hb h
 refine Lw [] [] (α:=Nat) (fun i=>[(1,.fn 121 []),(5,.own 0),(13,rws l),(14,i64 l.length),(15,i64 i)]) (fun i=>[(0,.arr 107 6 l.length fun j=>part l i j)]) 1 (fun i=>i<=l.length) (fun i=>l.length - i) ?_ ?_
 ·refine Again.by 0 (zle _) ?_
  repeat' first|refine S0 ?_;conv=>whnf|refine Vo ?_|exact T0|(refine Cho.l (Step.out ?_))|refine Vm ?_ ?_
  exact ⟨by omega,fun _ _=>rfl⟩
 ·intro i hi
  have hvl:=fun (h:i<l.length)=>hl.v _ (getD_in (z:=Rw.z) (i:=(i:Int).toNat) h)
  repeat' first|refine S0 ?_;conv=>whnf|refine Vo ?_|exact T0|refine W6 ?_|(refine M0 (freshRow_ct (l.getD (i:Int).toNat Rw.z) (by have:=hvl (by omega);omega)) ?_)|(refine Br.d (fun h=>?_) fun h=>?_)|refine T2 ?_ ?_|refine K0 ?_
  ·refine Again.by (i+1) ⟨by omega,by omega⟩ ?_
   repeat' first|refine S0 ?_;conv=>whnf|refine Vo ?_|exact T0|(refine Cho.l (Step.out ?_))|(exact ⟨rfl,rfl⟩)|refine Vm ?_ ?_
   refine ⟨by omega,fun j _=>?_⟩
   show iteL (j=i) (setL (part l i i) 0 (Rw.f (l.getD i Rw.z))) (part l i j)=_
   rw [set_row (part_shp l i i)];rfl
  ·obtain rfl:i=l.length:=by omega
   exact ⟨rfl,fun j hj=>part_eq l _ j hj⟩
theorem rows_ct (l:List Rw) (hl:RwsOK l):Cr 76 [rws l] (rwsO 107 l):=by
 refine .det (De Tryz.func76 [] [] ?_)
 repeat' first|refine S0 ?_;conv=>whnf|exact T0|exact T1|(refine M0 (each_ct _ hl) ?_)|refine T2 ?_ ?_|refine K0 ?_
def AscR (l:List Rw):Prop:=l.Pairwise fun a b=>a.id<b.id
def posR:List Rw->Int->Nat
 | [],_=>0
 | x :: l,n=>if x.id<n then posR l n+1 else 0
theorem getD_mem {α:Type} {l:List α} {i:Nat} {z:α} (h:i<l.length):l.getD i z ∈ l:=by
 rw [gDe,List.getElem?_eq_getElem h];exact List.getElem_mem h
def foundR (l:List Rw) (n:Int):Bool:=decide (posR l n<l.length) && decide ((l.getD (posR l n) Rw.z).id=n)
end Kx
open Go Sx Go.Proofs
namespace Kx
def add (l:List Rw) (r:Rw):List Rw:=if foundR l r.id=true then l.set (posR l r.id) (both (l.getD (posR l r.id) Rw.z) r) else l.take (posR l r.id) ++ r :: l.drop (posR l r.id)
theorem RwsOK.at_ {l:List Rw} (hl:RwsOK l) {i:Nat} (h:i<l.length):(l.getD i Rw.z).vals.length<=100000:=hl.v _ (getD_in h)
end Kx
open Go Sx Go.Proofs
namespace Kx
abbrev Cn:=(Int × List Str) × (Int × Int × Int)
def Rw.c (r:Rw):Cn:=((r.ver,r.vals),(r.sv,r.st,r.into))
def Rw.of (id:Int) (c:Cn):Rw:=⟨id,c.1.1,c.1.2,c.2.1,c.2.2.1,c.2.2.2⟩
abbrev cmpC:=cmp2 cmpI_c cmpV
abbrev cmpT:=cmp2 cmpI_c (cmp2 cmpI_c cmpI_c)
theorem cmpC_ok:Cmp cmpC:=cmpI_ok.two cmpV_ok
theorem cmpT_ok:Cmp cmpT:=cmpI_ok.two (cmpI_ok.two cmpI_ok)
def cmb (a b:Cn):Cn:=(mx cmpC a.1 b.1,mx cmpT a.2 b.2)
theorem both_eq (a b:Rw):both a b=Rw.of a.id (cmb a.c b.c):=by
 have h1:cont a b=cmpC a.c.1 b.c.1:=rfl;have h2:stat a b=cmpT a.c.2 b.c.2:=rfl;unfold both cmb mx;rw [h1,h2];rfl
def ins:List Rw->Rw->List Rw
 | [],r=>[r]
 | x :: l,r=>if x.id<r.id then x :: ins l r else if x.id=r.id then both x r :: l else r :: x :: l
def get:List Rw->Int->Option Cn
 | [],_=>none
 | r :: l,n=>if r.id=n then some r.c else get l n
theorem ins_ids:∀ (l:List Rw) (r:Rw),∀ x ∈ ins l r,x.id=r.id\/∃ y ∈ l,x.id=y.id
 | [],r,x,h=>by simp [ins] at h;subst h;exact .inl rfl
 | y :: l,r,x,h=>by
   rw [ins] at h;split at h
   ·rcases List.mem_cons.1 h with rfl | h
    ·exact .inr ⟨x,by simp,rfl⟩
    ·rcases ins_ids l r x h with h | ⟨z,hz,h⟩
     ·exact .inl h
     ·exact .inr ⟨z,by simp [hz],h⟩
   ·split at h
    ·rcases List.mem_cons.1 h with rfl | h
     ·exact .inr ⟨y,by simp,rfl⟩
     ·exact .inr ⟨x,by simp [h],rfl⟩
    ·rcases List.mem_cons.1 h with rfl | h
     ·exact .inl rfl
     ·exact .inr ⟨x,h,rfl⟩
theorem ins_asc:∀ {l:List Rw} (r:Rw),AscR l->AscR (ins l r)
 | [],r,_=>by simp [ins,AscR]
 | x :: l,r,h=>by
   have h':=List.pairwise_cons.1 h;rw [ins];split
   ·rename_i hx;refine List.pairwise_cons.2 ⟨fun y hy=>?_,ins_asc r h'.2⟩
    rcases ins_ids l r y hy with e | ⟨z,hz,e⟩
    ·omega
    ·have:=h'.1 z hz;omega
   ·split
    ·exact List.pairwise_cons.2 ⟨h'.1,h'.2⟩
    ·refine List.pairwise_cons.2 ⟨fun y hy=>?_,h⟩
     rcases List.mem_cons.1 hy with rfl | hy
     ·omega
     ·have:=h'.1 y hy;omega
def puts (s:List Rw) (l:List Rw):List Rw:=l.foldl ins s
section
variable {α β:Type} (f:β->α->β) (hc:∀ s a b,f (f s a) b=f (f s b) a) (hi:∀ s a,f (f s a) a=f s a)
include hc in
end
theorem ins_len:∀ (l:List Rw) (r:Rw),(ins l r).length<=l.length+1
 | [],r=>by simp [ins]
 | x :: l,r=>by
   rw [ins];split
   ·have:=ins_len l r;simp only [List.length_cons];omega
   ·split<;>simp
theorem ins_mem:∀ (l:List Rw) (r:Rw),∀ x ∈ ins l r,x=r\/x ∈ l\/∃ y ∈ l,y.id=r.id/\x=both y r
 | [],r,x,h=>by simp [ins] at h;exact .inl h
 | y :: l,r,x,h=>by
   rw [ins] at h;split at h
   ·rcases List.mem_cons.1 h with rfl | h
    ·exact .inr (.inl (by simp))
    ·rcases ins_mem l r x h with h | h | ⟨z,hz,h⟩
     ·exact .inl h
     ·exact .inr (.inl (by simp [h]))
     ·exact .inr (.inr ⟨z,by simp [hz],h⟩)
   ·split at h
    ·rcases List.mem_cons.1 h with rfl | h
     ·exact .inr (.inr ⟨y,by simp,by assumption,rfl⟩)
     ·exact .inr (.inl (by simp [h]))
    ·rcases List.mem_cons.1 h with rfl | h
     ·exact .inl rfl
     ·exact .inr (.inl h)
end Kx
open Go Sx Go.Proofs
namespace Kx
structure Rw.fine (r:Rw):Prop where
 i:idB r.id=true
 v:verB r.ver=true
 s:verB r.sv=true
 t:r.stateB=true
theorem vGo_zero:∀ (m:Int) (l:List Rw),vGo m l=0 ↔ (∀ r ∈ l,r.fine)/\AscR l/\∀ r ∈ l,m<r.id
 | m,[]=>by simp [vGo,AscR]
 | m,r :: l=>by
   rw [vGo];by_cases h1:(idB r.id && verB r.ver && verB r.sv)=false
   ·rw [if_pos h1];refine ⟨fun h=>absurd h (by decide),fun h=>?_⟩;have:=h.1 r (by simp);rw [this.i,this.v,this.s] at h1;cases h1
   ·rw [if_neg h1]
    have h1:(idB r.id && verB r.ver && verB r.sv)=true:=by rw [Bool.not_eq_false] at h1;exact h1
    simp only [bat] at h1;by_cases h2:r.stateB=false
    ·rw [if_pos h2];refine ⟨fun h=>absurd h (by decide),fun h=>?_⟩;have:=(h.1 r (by simp)).t;rw [this] at h2;cases h2
    ·rw [if_neg h2]
     have h2:r.stateB=true:=by simpa using h2
     by_cases h3:r.id<=m
     ·rw [if_pos h3];refine ⟨fun h=>absurd h (by decide),fun h=>?_⟩;have:=h.2.2 r (by simp);omega
     ·rw [if_neg h3,vGo_zero r.id l];simp only [AscR,List.pairwise_cons,List.mem_cons];constructor
      ·rintro ⟨a,b,c⟩
       refine ⟨?_,⟨c,b⟩,?_⟩
       ·rintro x (rfl | hx)
        ·exact ⟨h1.1.1,h1.1.2,h1.2,h2⟩
        ·exact a x hx
       ·rintro x (rfl | hx)
        ·omega
        ·have:=c x hx;omega
      ·rintro ⟨a,⟨b,c⟩,d⟩
       exact ⟨fun x hx=>a x (.inr hx),c,b⟩
theorem valid_zero {l:List Rw}:valid l=0 ↔ l.length<=64/\(∀ r ∈ l,r.fine)/\AscR l:=by
 unfold valid;split
 ·exact ⟨fun h=>absurd h (by decide),fun h=>by omega⟩
 ·rw [vGo_zero];refine ⟨fun h=>⟨by omega,h.1,h.2.1⟩,fun h=>⟨h.2.1,h.2.2,fun r hr=>?_⟩⟩;have:=(h.2.1 r hr).i;simp only [idB,bat,decide_eq_true_eq] at this;omega
theorem valsB_len {l:List Str} (h:valsB l=true):l.length<=5:=by
 simp only [valsB,bat,decide_eq_true_eq] at h;exact h.1.2
theorem Rw.fine.len {r:Rw} (h:r.fine):r.vals.length<=5:=by
 have ht:=h.t;have hv:=h.v;simp only [verB,bat,decide_eq_true_eq] at hv;unfold Rw.stateB at ht;split at ht
 ·cases ht
 ·rename_i hn;by_cases h0:r.ver=0
  ·have:=fun x:r.sv=0\/0<r.vals.length=>hn (.inl ⟨h0,x⟩)
   have:¬0<r.vals.length:=fun x=>this (.inr x)
   omega
  ·have:¬(0<r.ver/\valsB r.vals=false):=fun x=>hn (.inr x)
   have:valsB r.vals≠false:=fun x=>this ⟨by omega,x⟩
   exact valsB_len (by simpa using this)
theorem fine_ok {l:List Rw} (h:∀ r ∈ l,r.fine) (hl:l.length<=65):RwsOK l:=⟨by omega,fun r hr=>by have:=(h r hr).len;omega⟩
theorem valid_ok {l:List Rw} (h:valid l=0):RwsOK l:=by
 obtain ⟨h1,h2,h3⟩:=valid_zero.1 h;exact fine_ok h2 (by omega)
structure CnOK (id:Int) (c:Cn):Prop where
 v:verB c.1.1=true
 s:verB c.2.1=true
 v0:c.1.1=0->c.2.1≠0/\c.1.2.length=0
 v1:c.1.1≠0->valsB c.1.2=true
 s0:c.2.1=0->c.2.2.1=0/\c.2.2.2=0
 s1:c.2.1≠0->statB id c.2.2.1 c.2.2.2=true
theorem fine_iff (r:Rw):r.fine ↔ idB r.id=true/\CnOK r.id r.c:=by
 constructor
 ·rintro ⟨i,v,s,t⟩
  refine ⟨i,?_⟩;have hv:=v;simp only [verB,bat,decide_eq_true_eq] at hv;unfold Rw.stateB at t;split at t
  ·cases t
  rename_i hn;refine ⟨v,s,fun h=>⟨fun h'=>hn (.inl ⟨h,.inl h'⟩),?_⟩,fun h=>?_,fun h=>?_,fun h=>?_⟩
  ·have:¬0<r.vals.length:=fun x=>hn (.inl ⟨h,.inr x⟩)
   show r.vals.length=0
   omega
  ·show valsB r.vals=true
   cases hb:valsB r.vals with
   | true=>rfl| false=>exact absurd (.inr ⟨by have:r.ver≠0:=h;omega,hb⟩) hn
  ·rw [if_pos (show r.sv=0 from h)] at t;exact (by simpa using t:r.st=0/\r.into=0)
  ·rw [if_neg (show r.sv≠0 from h)] at t;exact t
 ·rintro ⟨i,v,s,v0,v1,s0,s1⟩
  refine ⟨i,v,s,?_⟩;have hv:=v;simp only [verB,bat,decide_eq_true_eq] at hv;unfold Rw.stateB;rw [if_neg]
  ·split
   ·rename_i h;have:=s0 h;have e1:r.st=0:=this.1;have e2:r.into=0:=this.2;rw [e1,e2];rfl
   ·rename_i h;exact s1 h
  ·rintro (⟨h,h'⟩ | ⟨h,h'⟩)
   ·have a:=(v0 h).1;have b:r.vals.length=0:=(v0 h).2
    rcases h' with h' | h'
    ·exact a h'
    ·omega
   ·have:=v1 (show r.ver≠0 by omega);have e:valsB r.vals=true:=this;rw [e] at h';cases h'
theorem mx_or {α:Type} (f:α->α->Int) (a b:α):mx f a b=a\/mx f a b=b:=by unfold mx;split<;>simp
theorem cmpC_ver {a b:Int × List Str} (h:cmpC a b<0\/cmpC a b=0):a.1<=b.1:=by
 unfold cmpC cmp2 cmpI_c at h;by_cases h1:a.1<b.1
 ·omega
 ·by_cases h2:a.1 > b.1
  ·simp [h1,h2] at h
  ·omega
theorem mx_ver (a b:Int × List Str):a.1<=(mx cmpC a b).1/\b.1<=(mx cmpC a b).1:=by
 unfold mx;split
 ·rename_i h;exact ⟨cmpC_ver (.inl h),Int.le_refl _⟩
 ·rename_i h;refine ⟨Int.le_refl _,cmpC_ver ?_⟩;have:=cmpC_ok.sym a b;omega
theorem cmpT_ver {a b:Int × (Int × Int)} (h:cmpT a b<0\/cmpT a b=0):a.1<=b.1:=by
 unfold cmpT cmp2 cmpI_c at h;by_cases h1:a.1<b.1
 ·omega
 ·by_cases h2:a.1 > b.1
  ·simp [h1,h2] at h
  ·omega
theorem mx_sv (a b:Int × (Int × Int)):a.1<=(mx cmpT a b).1/\b.1<=(mx cmpT a b).1:=by
 unfold mx;split
 ·rename_i h;exact ⟨cmpT_ver (.inl h),Int.le_refl _⟩
 ·rename_i h;refine ⟨Int.le_refl _,cmpT_ver ?_⟩;have:=cmpT_ok.sym a b;omega
theorem CnOK.cmb {id:Int} {a b:Cn} (ha:CnOK id a) (hb:CnOK id b):CnOK id (cmb a b):=by
 have m1:=mx_or cmpC a.1 b.1;have m2:=mx_or cmpT a.2 b.2;have l1:=mx_ver a.1 b.1;have l2:=mx_sv a.2 b.2;have n1:=ha.v;have n2:=hb.v;have n3:=ha.s;have n4:=hb.s;simp only [verB,bat,decide_eq_true_eq] at n1 n2 n3 n4
 refine ⟨?_,?_,fun h=>?_,fun h=>?_,fun h=>?_,fun h=>?_⟩<;>simp only [Kx.cmb] at *
 ·rcases m1 with e | e<;>rw [e]
  ·exact ha.v
  ·exact hb.v
 ·rcases m2 with e | e<;>rw [e]
  ·exact ha.s
  ·exact hb.s
 ·have ea:a.1.1=0:=by omega
  have eb:b.1.1=0:=by omega
  refine ⟨?_,?_⟩
  ·have:=(ha.v0 ea).1;omega
  ·rcases m1 with e | e<;>rw [e]
   ·exact (ha.v0 ea).2
   ·exact (hb.v0 eb).2
 ·rcases m1 with e | e<;>rw [e] at h ⊢
  ·exact ha.v1 h
  ·exact hb.v1 h
 ·rcases m2 with e | e<;>rw [e] at h ⊢
  ·exact ha.s0 h
  ·exact hb.s0 h
 ·rcases m2 with e | e<;>rw [e] at h ⊢
  ·exact ha.s1 h
  ·exact hb.s1 h
theorem fine_both {a b:Rw} (ha:a.fine) (hb:b.fine) (h:a.id=b.id):(both a b).fine:=by
 rw [fine_iff] at *;rw [both_eq];refine ⟨ha.1,?_⟩;have:=hb.2;rw [<-h] at this;exact ha.2.cmb this
theorem fine_ins {l:List Rw} {r:Rw} (h:∀ x ∈ l,x.fine) (hr:r.fine):∀ x ∈ ins l r,x.fine:=by
 intro x hx
 rcases ins_mem l r x hx with rfl | hx | ⟨y,hy,e,rfl⟩
 ·exact hr
 ·exact h x hx
 ·exact fine_both (h y hy) hr e
theorem fine_row {e:Ev} (h:e.chk=0):e.row.fine:=by
 unfold Ev.chk at h;split at h
 ·rename_i h1;split at h
  ·rename_i h2;simp only [bat,decide_eq_true_eq] at h1;rw [fine_iff];simp only [Ev.good,Bool.or_eq_true,bat,decide_eq_true_eq] at h2;unfold Ev.row
   have hv:verB e.ver=true:=by simp only [verB,bat,decide_eq_true_eq];omega
   rcases h2 with ⟨⟨⟨k,v⟩,s⟩,i⟩ | ⟨⟨k,v⟩,s⟩
   ·rw [if_pos k];refine ⟨h1.1.1,hv,rfl,fun h=>?_,fun _=>v,fun _=>⟨rfl,rfl⟩,fun h=>absurd rfl h⟩;have:e.ver=0:=h;omega
   ·rw [if_neg (by omega)];refine ⟨h1.1.1,rfl,hv,fun _=>⟨?_,rfl⟩,fun h=>absurd rfl h,fun h=>?_,fun _=>s⟩
    ·show e.ver≠0
     omega
    ·have:e.ver=0:=h;omega
  ·cases h
 ·cases h
def apply (rows:List Rw) (e:Ev):List Rw × Int:=if valid rows≠0 then ([],valid rows) else if e.chk≠0 then ([],e.chk) else if 64<(ins rows e.row).length then ([],1) else (ins rows e.row,0)
def allGo:List Rw->Int->List Ev->List Rw × Int
 | out,left,[]=>(out,left)
 | out,left,e :: l=>if (apply out e).2≠0 then allGo out (left+1) l else allGo (apply out e).1 left l
def all (rows:List Rw) (l:List Ev):List Rw × Int:=if valid rows≠0 then ([],l.length) else allGo rows 0 l
def join (a b:List Rw):List Rw × Int:=if valid a≠0 then ([],valid a) else if valid b≠0 then ([],valid b) else if 64<(puts a b).length then ([],1) else (puts a b,0)
theorem apply_ok {l:List Rw} {e:Ev} (h:(apply l e).2=0):valid l=0/\e.chk=0/\(ins l e.row).length<=64/\(apply l e).1=ins l e.row:=by
 unfold apply at h ⊢;split at h
 ·rename_i h1;exact absurd h h1
 ·rename_i h1;rw [if_neg h1];split at h
  ·rename_i h2;exact absurd h h2
  ·rename_i h2;rw [if_neg h2];split at h
   ·cases h
   ·rename_i h3;rw [if_neg h3];exact ⟨Classical.not_not.1 h1,Classical.not_not.1 h2,by omega,rfl⟩
theorem apply_valid {l:List Rw} {e:Ev} (h:(apply l e).2=0):valid (apply l e).1=0:=by
 obtain ⟨h1,h2,h3,h4⟩:=apply_ok h;obtain ⟨v1,v2,v3⟩:=valid_zero.1 h1;rw [h4];exact valid_zero.2 ⟨h3,fine_ins v2 (fine_row h2),ins_asc _ v3⟩
abbrev Ev.z:Ev:=⟨0,0,0,[],0,0⟩
structure EvsOK (l:List Ev):Prop where
 n:l.length<=100000
 v:∀ e ∈ l,e.vals.length<=100000
theorem take_s {α:Type} (l:List α) (i:Nat) (z:α) (h:i<l.length):l.take (i+1)=l.take i ++ [l.getD i z]:=by
 rw [List.take_add_one,List.getElem?_eq_getElem h,gDe,List.getElem?_eq_getElem h];rfl
def cur1 (r:Rw):Bool:=!decide (r.ver=0) && (decide (r.st=0) || decide (r.st=1))
abbrev Rec:=Int × Int × List Str
def recF (x:Rec):List D:=[i64 x.1,i64 x.2.1,strs x.2.2]
def recs (l:List Rec):D:=.tab 3 l.length fun i=>recF (l.getD i (0,0,[]))
def curs (l:List Rw):List Rec:=(l.filter cur1).map fun r=>(r.id,r.ver,r.vals)
def deads (l:List Rw):List Int:=((l.filter cur1).filter fun r=>decide (r.st=1)).map Rw.id
theorem ite_strs (c:Prop) [Decidable c] (a b:List Str):D.ite c (strs a) (strs b)=strs (if c then a else b):=by
 show D.tab 1 (if c then _ else _) (fun q=>iteL1 c [.str (a.getD q [])] [.str (b.getD q [])])=_
 have:(fun q=>iteL1 c [D.str (a.getD q [])] [D.str (b.getD q [])])=fun q=>[D.str ((if c then a else b).getD q [])]:=by
  funext q
  show [D.str (if c then _ else _)]=_
  split<;>rfl
 rw [this]
 split<;>rfl
theorem ite_rec (c:Prop) [Decidable c] (x y:Rec):iteL c (recF x) (recF y)=recF (if c then x else y):=by
 show [i64 (if c then _ else _),i64 (if c then _ else _),D.ite c (strs x.2.2) (strs y.2.2)]=_
 rw [ite_strs]
 split<;>rfl
theorem getD_app {α:Type} (l m:List α) (i:Nat) (z:α):(l ++ m).getD i z=if i<l.length then l.getD i z else m.getD (i - l.length) z:=by
 simp only [gDe,List.getElem?_append];split<;>rfl
theorem app1 {α:Type} (F:α->List D) (z:α) (hF:∀ (c:Prop) [Decidable c] (x y:α),iteL c (F x) (F y)=F (if c then x else y)) (l:List α) (x:α) :
 l.length+1=(l ++ [x]).length/\∀ i,i<(l ++ [x]).length->iteL (i<l.length) (F (l.getD i z)) (selC [F x] (i - l.length))=F ((l ++ [x]).getD i z):=by
 refine ⟨by simp,fun i hi=>?_⟩
 have hi:i<l.length+1:=by simpa using hi
 by_cases h:i<l.length
 ·rw [show selC [F x] (i - l.length)=F x by rw [show i - l.length=0 by omega];rfl,hF,if_pos h,getD_app,if_pos h]
 ·rw [show i=l.length by omega,Nat.sub_self,show selC [F x] 0=F x from rfl,hF,if_neg (by omega),getD_app,if_neg (by omega),Nat.sub_self];rfl
def curAt (l:List Rw) (i:Nat):List Rec:=curs (l.take i)
def deadAt (l:List Rw) (i:Nat):List Int:=deads (l.take i)
theorem curAt_step (l:List Rw) (i:Nat) (h:i<l.length):curAt l (i+1)=if cur1 (l.getD i Rw.z)=true then curAt l i ++ [((l.getD i Rw.z).id,(l.getD i Rw.z).ver,(l.getD i Rw.z).vals)] else curAt l i:=by
 rw [curAt,take_s l i Rw.z h,curs,List.filter_append,List.map_append];simp only [List.filter_cons,List.filter_nil];split
 ·rfl
 ·rw [List.map_nil,List.append_nil];rfl
theorem deadAt_step (l:List Rw) (i:Nat) (h:i<l.length):deadAt l (i+1)=if cur1 (l.getD i Rw.z)=true/\(l.getD i Rw.z).st=1 then deadAt l i ++ [(l.getD i Rw.z).id] else deadAt l i:=by
 rw [deadAt,take_s l i Rw.z h,deads,List.filter_append,List.filter_append,List.map_append];simp only [List.filter_cons,List.filter_nil];by_cases h1:cur1 (l.getD i Rw.z)=true
 ·rw [if_pos h1];by_cases h2:(l.getD i Rw.z).st=1
  ·rw [if_pos ⟨h1,h2⟩,List.filter_cons,if_pos (by simpa using h2)];rfl
  ·rw [if_neg (fun h=>h2 h.2),List.filter_cons,if_neg (by simpa using h2)];rw [List.filter_nil,List.map_nil,List.append_nil];rfl
 ·rw [if_neg h1,if_neg (fun h=>h1 h.1)];rw [List.filter_nil,List.map_nil,List.append_nil];rfl
theorem current_ct (l:List Rw) (hv:valid l=0):Cr 11 [rws l] (.tup [recs (curs l),ints (deads l),i64 0]):=by
 have hl:=valid_ok hv;have hn:=hl.n;refine .det (De Tryz.func11 ord11 [] ?_)
 repeat' first|refine S0 ?_;conv=>whnf|refine B1 ?_|refine Br.bnot ?_|(refine CallOK.ctF (g:=30) (Step.out ?_))|(refine M0 (g:=30) (valid_ct_c _ (by assumption)) ?_)
 refine Lw ord11 [] (α:=Nat) (fun i=>[(6,.own 0),(7,.own 1),(15,rws l),(16,i64 l.length),(17,i64 i)]) (fun i=>[(0,.arr 74 3 (curAt l i).length fun j=>recF ((curAt l i).getD j (0,0,[]))),(1,.arr 3 1 (deadAt l i).length fun j=>[i64 ((deadAt l i).getD j 0)])]) 2 (fun i=>i<=l.length) (fun i=>l.length - i) ?_ ?_
 ·refine Again.by 0 (zle _) ?_
  repeat' first|refine S0 ?_;conv=>whnf|refine Vo ?_|exact T0|refine Vm ?_ ?_
  all_goals rfl
 ·intro i hi
  have hl1:(curAt l i).length<=i:=by
   rw [curAt,curs,List.length_map];exact Nat.le_trans (List.length_filter_le _ _) (by simp;omega)
  have hl2:(deadAt l i).length<=i:=by
   rw [deadAt,deads,List.length_map];exact Nat.le_trans (List.length_filter_le _ _) (Nat.le_trans (List.length_filter_le _ _) (by simp;omega))
  have hvl:=fun (h:i<l.length)=>hl.v _ (getD_in (z:=Rw.z) (i:=(i:Int).toNat) h)
  have s1:=fun h:i<l.length=>curAt_step l i h
  have s2:=fun h:i<l.length=>deadAt_step l i h
  repeat' first|refine S0 ?_;conv=>whnf|refine Vo ?_|refine Vb ?_|exact T0|refine W6 ?_|refine B1 ?_|refine B0 ?_|(refine M0 (cloneS_ct (l.getD (i:Int).toNat Rw.z).vals (by have:=hvl (by omega);omega)) ?_)|(refine Br.d (fun h=>?_) fun h=>?_)|refine Br.swap ?_|refine Br.bnot ?_|refine T2 ?_ ?_|refine K1 ?_
  all_goals try simp only [tnc] at *
  ·have s1:=s1 (by omega);have s2:=s2 (by omega);rw [if_neg (by simp [-List.getD_eq_getElem?_getD,cur1,h])] at s1;rw [if_neg (by simp [-List.getD_eq_getElem?_getD,cur1,h])] at s2
   refine Again.by (i+1) ⟨by omega,by omega⟩ ?_
   rw [s1,s2]
   repeat' first|refine S0 ?_;conv=>whnf|refine Vo ?_|exact T0
   all_goals exact ⟨rfl,fun _ _=>rfl⟩
  ·have s1:=s1 (by omega);have s2:=s2 (by omega)
   have hk:cur1 (l.getD i Rw.z)=true:=by simp [-List.getD_eq_getElem?_getD,cur1, *]
   rw [if_pos hk] at s1;rw [if_neg (by omega)] at s2
   refine Again.by (i+1) ⟨by omega,by omega⟩ ?_
   rw [s1,s2]
   repeat' first|refine S0 ?_;conv=>whnf|refine Vo ?_|exact T0|refine Vm ?_ ?_
   all_goals first
    | exact ⟨rfl,fun _ _=>rfl⟩
    | exact app1 recF (0,0,[]) ite_rec (curAt l i) ((l.getD i Rw.z).id,(l.getD i Rw.z).ver,(l.getD i Rw.z).vals)
  ·have s1:=s1 (by omega);have s2:=s2 (by omega)
   have hk:cur1 (l.getD i Rw.z)=true:=by simp [-List.getD_eq_getElem?_getD,cur1, *]
   rw [if_pos hk] at s1;rw [if_pos ⟨hk,h⟩] at s2
   refine Again.by (i+1) ⟨by omega,by omega⟩ ?_
   rw [s1,s2]
   repeat' first|refine S0 ?_;conv=>whnf|refine Vo ?_|exact T0|refine Vm ?_ ?_
   all_goals first
    | exact ⟨rfl,fun _ _=>rfl⟩
    | exact app1 recF (0,0,[]) ite_rec (curAt l i) ((l.getD i Rw.z).id,(l.getD i Rw.z).ver,(l.getD i Rw.z).vals)
    | exact app1 (fun x:Int=>[i64 x]) 0 (fun _ _ _ _=>rfl) (deadAt l i) _
  ·have s1:=s1 (by omega);have s2:=s2 (by omega)
   have hk:¬cur1 (l.getD i Rw.z)=true:=by simp [-List.getD_eq_getElem?_getD,cur1, *]
   rw [if_neg hk] at s1;rw [if_neg (fun h=>hk h.1)] at s2
   refine Again.by (i+1) ⟨by omega,by omega⟩ ?_
   rw [s1,s2]
   repeat' first|refine S0 ?_;conv=>whnf|refine Vo ?_|exact T0
   all_goals exact ⟨rfl,fun _ _=>rfl⟩
  all_goals
   have e:i=l.length:=by omega
   subst e;simp only [curAt,deadAt,List.take_length,true_and,implies_true]
end Kx
