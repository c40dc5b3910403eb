/-
  The walk of this proof, first part: data in memory, the store, operations that compute, read, write.
  No condition beyond those written in each theorem.
-/
import Derived.WalkKit
import Derived.Maps.RangeRun
import Derived.Laws.StructEq
set_option linter.unusedSimpArgs false
set_option linter.unusedVariables false
set_option maxRecDepth 4000
namespace Sx
open Go
theorem nbq {n m:Nat} (h:Nat.beq n m=true):n=m:=Nat.eq_of_beq_eq_true h
theorem gDe {α:Type} {l:List α} {i:Nat} {a:α}:l.getD i a=(l[i]?).getD a:=List.getD_eq_getElem?_getD
theorem bat (a b:Bool):((a&&b)=true)=(a=true/\b=true):=Bool.and_eq_true a b
theorem lap {α:Type} {as bs:List α}:(as++bs).length=as.length+bs.length:=List.length_append
theorem zle (n:Nat):0<=n:=Nat.zero_le n
theorem bft:(false=true)=False:=Bool.false_eq_true
theorem ddl {α:Type} {i:Nat} {l:List α} (h:l.length<=i):l.drop i=[]:=List.drop_of_length_le h
theorem tnc (n:Nat):((n:Int)).toNat=n:=Int.toNat_natCast n
structure MpL where
 sk:Bool
 bv:Bool
 l:List (List Int × Int)
def kis (r:List Int):List Value:=r.map (Value.int .i64)
def keyV (sk:Bool) (r:List Int):Value:=match sk,kis r with
 | true,xs=>.agg xs.toArray| false,[x]=>x| false,_=>undef
def valV (bv:Bool) (x:Int):Value:=match bv with
 | true=>.bool (decide (x≠0))| false=>.int .i64 x
inductive D where
 | any | int (k:IntKind) (n:Int) | lit (b:Bool) | bool (b:Bool) | str (s:List UInt8)
 | nil | tab (sz n:Nat) (f:Nat->List D) | agg (l:List D) | vec (n:Nat) (g:Nat->D) | tup (l:List D)
 | ref (l:List D) | null | nilfn | val (v:Value) | fn (f:FuncId) (caps:List D)
 | own (n:Nat) | loc (n off:Nat) | pel (n sz i off:Nat)
 | ftab (e sz n:Nat) (f:Nat->List D) | fbox (l:List D) | rsl (n sz off ln cp:Nat)
 | mref (n:Nat) | mapb (l:MpL) | fmap (l:MpL) | fmapd (sk:Bool) (kn n:Nat) (ks:Nat->List Int) (vs:Nat->D)
 | foar (e sz n:Nat) (f:Nat->List D) | ffam (e sz n:Nat) (f:Nat->List D)
structure Step (p:Prop):Prop where
 out:p
structure Vc (p k:Prop):Prop where
 vc:p
 k:k
structure Br (a p b q:Prop):Prop where
 l:a->p
 r:b->q
structure Two (p q:Prop):Prop where
 l:p
 r:q
inductive Cho (p q:Prop):Prop where
 | l:p->Cho p q
 | r:q->Cho p q
structure Fa (K:Nat->Prop):Prop where
 ok:∀ s,K s
structure Nxt (kn:Nat) (l:List (List Int × Int)) (A:Prop) (B:List Int->Int->List (List Int × Int)->Prop):Prop where
 nil:l = []->A
 cons:∀ r x rest,r.length=kn->l.Perm ((r,x) :: rest)->B r x rest
structure NilB (n:Nat) (K:Bool->Prop):Prop where
 ok:∀ b:Bool,(b=true->n=0)->K b
structure Wr (k:IntKind) (z:Int) (K:Int->Prop):Prop where
 out:K (k.wrap z)
structure Lf {Y:Type} (p:Y->Prop) (q:Y->Prop):Prop where
 ok:∃ y,p y/\q y
theorem Lf.by {Y:Type} {p q:Y->Prop} (y:Y) (hp:p y) (hq:Step (q y)):Lf p q:=⟨y,hp,hq.out⟩
structure Lf2 {Y Z:Type} (p:Y->Z->Prop) (q:Y->Z->Prop):Prop where
 ok:∃ y z,p y z/\q y z
theorem Lf2.by {Y Z:Type} {p q:Y->Z->Prop} (y:Y) (z:Z) (hp:p y z) (hq:Step (q y z)):Lf2 p q:=⟨y,z,hp,hq.out⟩
structure Lf3 {X Y Z:Type} (p:X->Y->Z->Prop) (q:X->Y->Z->Prop):Prop where
 ok:∃ x y z,p x y z/\q x y z
theorem Lf3.by {X Y Z:Type} {p q:X->Y->Z->Prop} (x:X) (y:Y) (z:Z) (hp:p x y z) (hq:Step (q x y z)):Lf3 p q:=⟨x,y,z,hp,hq.out⟩
theorem Wr.raw {k:IntKind} {z:Int} {K:Int->Prop} (h:Step (K (k.wrap z))):Wr k z K:=⟨h.out⟩
theorem Br.dT {p:Prop} [Decidable p] {A B:Prop} (h:p) (k:Step A):Br (decide p=true) A (decide p=false) B:=⟨fun _=>k.out,fun e=>absurd h (of_decide_eq_false e)⟩
theorem Br.dF {p:Prop} [Decidable p] {A B:Prop} (h:¬p) (k:Step B):Br (decide p=true) A (decide p=false) B:=⟨fun e=>absurd (of_decide_eq_true e) h,fun _=>k.out⟩
theorem Br.tt {A B:Prop} (k:Step A):Br (true=true) A (true=false) B:=⟨fun _=>k.out,fun h=>(nomatch h)⟩
theorem Br.ff {A B:Prop} (k:Step B):Br (false=true) A (false=false) B:=⟨fun h=>(nomatch h),fun _=>k.out⟩
theorem Br.d {p:Prop} [Decidable p] {A B:Prop} (h1:p->Step A) (h2:¬p->Step B):Br (decide p=true) A (decide p=false) B:=⟨fun e=>(h1 (of_decide_eq_true e)).out,fun e=>(h2 (of_decide_eq_false e)).out⟩
theorem Br.swap {x:Bool} {A B:Prop} (h:Br (x=true) B (x=false) A):Br (x=false) A (x = !false) B:=⟨fun e=>h.r e,fun e=>h.l e⟩
theorem Br.bnot {x:Bool} {A B:Prop} (h:Br (x=true) B (x=false) A):Br ((!x)=true) A ((!x)=false) B:=⟨fun e=>h.r (by simpa using e),fun e=>h.l (by simpa using e)⟩
structure Mi where
 ρ:Nat->Option Nat
 hv:Nat->Value
 nx:Nat
 S:Nat->Prop
 h:Array Obj
 X:Nat->Nat->Prop:=fun _ _=>False
def cellAt (h:Array Obj) (b off:Nat):Option Value :=
 match h[b]? with
 | some (.cells c _ _)=>c[off]?| _=>none
def fnd:List (List Int × Int)->List Int->Nat->Option (Nat × Int)
 | [],_,_=>none
 | x :: l,k,i=>match decide (x.1=k) with
   | true=>some (i,x.2)| false=>fnd l k (i+1)
def mget (l:List (List Int × Int)) (k:List Int):Option Int:=(fnd l k 0).map (·.2)
def mput (l:List (List Int × Int)) (k:List Int) (v:Int):List (List Int × Int):=match fnd l k 0 with
 | none=>l ++ [(k,v)]
 | some p=>l.modify p.1 fun _=>(k,v)
def mapOK (o:Option Obj) (l:MpL):Prop :=
 ∃ es ck,o=some (.map es ck)/\es.toList.map (fun e=>(e.key,e.val))=l.l.map (fun x=>(keyV l.sk x.1,valV l.bv x.2))/\(es.toList.map (·.born)).Nodup/\∀ x ∈ es.toList,x.born<ck
def mpeOK (o:Option Obj) (l:MpL) (r:List Int) (s:Nat):Prop :=
 ∃ es ck,o=some (.map es ck)/\es.toList.map (fun e=>(e.key,e.val))=(mput l.l r ((mget l.l r).getD 0)).map (fun x=>(keyV l.sk x.1,valV l.bv x.2))/\(es.toList.map (·.born)).Nodup/\(∀ x ∈ es.toList,x.born<ck) /\
   ∃ (i:Nat) (e0:MapEntry) (v:Int),es.toList[i]? = some e0/\e0.born=s/\fnd (mput l.l r ((mget l.l r).getD 0)) r 0=some (i,v)
def cellsAt (h:Array Obj) (b off:Nat) (vs:List Value):Prop:=∀ j,j<vs.length->cellAt h b (off+j)=vs[j]?
def hoff:Value->Nat
 | .slice (some ⟨_,o,_⟩) _ _=>o| _=>0
mutual
def Rd (M:Mi) (im:Bool):D->Value->Prop
 | .any,_=>True| .int k n,v=>v = .int k n| .lit b,v=>v = .bool b| .bool b,v=>v = .bool b| .str s,v=>v = .string ⟨s.toArray⟩| .nil,v=>v = .slice none 0 0| .null,v=>v = .pointer none| .nilfn,v=>v = .nilFunc| .val u,v=>v=u
 | .tab sz n f,v=>∃ a cap,v = .slice a n cap/\n<=cap /\
  ∀ i,i<n->∃ b off,a=some ⟨b,off,none⟩/\M.S b/\∃ vs:List Value,vs.length=sz/\cellsAt M.h b (off+i*sz) vs/\RdL M true (f i) vs
 | .agg l,v=>∃ cs:Array Value,v = .agg cs/\RdL M im l cs.toList| .vec n g,v=>∃ cs:Array Value,v = .agg cs/\cs.size=n/\∀ i x,cs[i]? = some x->x.oneCell' = true/\Rd M im (g i) x| .tup l,v=>∃ cs:Array Value,v = .tuple cs/\RdT M im l cs.toList| .ref l,v=>∃ b off,v = .pointer (some ⟨b,off,none⟩)/\M.S b/\∃ vs:List Value,cellsAt M.h b off vs/\RdL M true l vs| .fn f caps,v=>∃ cs:Array Value,v = .func (.func f) #[] cs/\RdL M im caps cs.toList
 | .own n,v=>im=false/\n<M.nx/\v=M.hv n/\∃ a l c,v = .slice a l c| .loc n off,v=>im=false/\n<M.nx/\∃ b,M.ρ n=some b/\v = .pointer (some ⟨b,off,none⟩)| .pel n sz i off,v=>im=false/\n<M.nx/\∃ b,M.ρ n=some b/\v = .pointer (some ⟨b,hoff (M.hv n)+(i*sz+off),none⟩)| .ftab ..,_=>False| .foar ..,_=>False| .ffam ..,_=>False| .fbox ..,_=>False| .mref n,v=>im=false/\n<M.nx/\∃ b,M.ρ n=some b/\v = .map (some b)| .mapb l,v=>∃ b,v = .map (some b)/\M.S b/\mapOK M.h[b]? l
 | .fmap _,_=>False| .fmapd ..,_=>False| .rsl n sz off ln cp,v=>im=false/\n<M.nx/\∃ b,M.ρ n=some b/\v = .slice (some ⟨b,off*sz,none⟩) ln cp
def RdL (M:Mi) (im:Bool):List D->List Value->Prop
 | [],[]=>True| d :: l,v :: vs=>v.oneCell' = true/\Rd M im d v/\RdL M im l vs| _,_=>False
def RdT (M:Mi) (im:Bool):List D->List Value->Prop
 | [],[]=>True| d :: l,v :: vs=>Rd M im d v/\RdT M im l vs| _,_=>False
end
structure Mi.Le (M M' : Mi) (im:Bool):Prop where
 S:∀ b,M.S b->M'.S b
 h:∀ b,M.S b->M'.h[b]? = M.h[b]?
 nx:im=false->M.nx<=M'.nx
 ρ:im=false->∀ n,n<M.nx->M'.ρ n=M.ρ n
 hv:im=false->∀ n,n<M.nx->M'.hv n=M.hv n
 X:im=false->∀ n,n<M.nx->M'.X n=M.X n
theorem Mi.Le.cellsAt {M M' : Mi} {im:Bool} (H:M.Le M' im) {b off:Nat} {vs:List Value} (hS:M.S b) (h:Sx.cellsAt M.h b off vs):Sx.cellsAt M'.h b off vs:=by
 intro j hj;have:=h j hj;unfold cellAt at *;rw [H.h b hS];exact this
theorem Mi.Le.im {M M' : Mi} {im:Bool} (H:M.Le M' im):M.Le M' true:=⟨H.S,H.h,by simp,by simp,by simp,by simp⟩
theorem Mi.Le.refl (M:Mi) (im:Bool):M.Le M im:=⟨fun _ h=>h,fun _ _=>rfl,fun _=>Nat.le_refl _,fun _ _ _=>rfl,fun _ _ _=>rfl,fun _ _ _=>rfl⟩
mutual
theorem Rd.mono {M M' : Mi} {im:Bool} (H:M.Le M' im):∀ (d:D) (v:Value),Rd M im d v->Rd M' im d v
 | .any,_,h=>by simp [Rd]
 | .int ..,_,h | .lit ..,_,h | .bool ..,_,h | .str ..,_,h | .nil,_,h | .null,_,h | .nilfn,_,h | .val _,_,h=>by simpa [Rd] using h
 | .tab sz n f,v,h=>by
   simp only [Rd] at h ⊢;obtain ⟨a,cap,rfl,hn,h⟩:=h;refine ⟨a,cap,rfl,hn,fun i hi=>?_⟩;obtain ⟨b,off,ha,hS,vs,hl,hc,hr⟩:=h i hi;exact ⟨b,off,ha,H.S b hS,vs,hl,H.cellsAt hS hc,RdL.mono H.im (f i) vs hr⟩
 | .agg l,v,h=>by
   simp only [Rd] at h ⊢;obtain ⟨cs,rfl,h⟩:=h;exact ⟨cs,rfl,RdL.mono H l _ h⟩
 | .vec n g,v,h=>by
   simp only [Rd] at h ⊢;obtain ⟨cs,rfl,hs,h⟩:=h;exact ⟨cs,rfl,hs,fun i x hx=>⟨(h i x hx).1,Rd.mono H (g i) x (h i x hx).2⟩⟩
 | .tup l,v,h=>by
   simp only [Rd] at h ⊢;obtain ⟨cs,rfl,h⟩:=h;exact ⟨cs,rfl,RdT.mono H l _ h⟩
 | .ref l,v,h=>by
   simp only [Rd] at h ⊢;obtain ⟨b,off,rfl,hS,vs,hc,hr⟩:=h;exact ⟨b,off,rfl,H.S b hS,vs,H.cellsAt hS hc,RdL.mono H.im l vs hr⟩
 | .fn f caps,v,h=>by
   simp only [Rd] at h ⊢;obtain ⟨cs,rfl,h⟩:=h;exact ⟨cs,rfl,RdL.mono H caps _ h⟩
 | .own n,v,h=>by
   simp only [Rd] at h ⊢;exact ⟨h.1,Nat.lt_of_lt_of_le h.2.1 (H.nx h.1),by rw [H.hv h.1 n h.2.1];exact h.2.2.1,h.2.2.2⟩
 | .loc n off,v,h=>by
   simp only [Rd] at h ⊢;obtain ⟨hi,hn,h⟩:=h;exact ⟨hi,Nat.lt_of_lt_of_le hn (H.nx hi),by rw [H.ρ hi n hn];exact h⟩
 | .pel n sz i off,v,h=>by
   simp only [Rd] at h ⊢;obtain ⟨hi,hn,h⟩:=h;exact ⟨hi,Nat.lt_of_lt_of_le hn (H.nx hi),by rw [H.ρ hi n hn,H.hv hi n hn];exact h⟩
 | .rsl n _ _ _ _,v,h=>by
   simp only [Rd] at h ⊢;obtain ⟨hi,hn,h⟩:=h;exact ⟨hi,Nat.lt_of_lt_of_le hn (H.nx hi),by rw [H.ρ hi n hn];exact h⟩
 | .mref n,v,h=>by
   simp only [Rd] at h ⊢;obtain ⟨hi,hn,h⟩:=h;exact ⟨hi,Nat.lt_of_lt_of_le hn (H.nx hi),by rw [H.ρ hi n hn];exact h⟩
 | .mapb l,v,h=>by
   simp only [Rd] at h ⊢;obtain ⟨b,rfl,hS,h⟩:=h;exact ⟨b,rfl,H.S b hS,by rw [H.h b hS];exact h⟩
 | .fmap _,_,h=>by simp [Rd] at h
 | .fmapd ..,_,h=>by simp [Rd] at h
 | .ftab ..,_,h=>by simp [Rd] at h
 | .foar ..,_,h=>by simp [Rd] at h
 | .ffam ..,_,h=>by simp [Rd] at h
 | .fbox ..,_,h=>by simp [Rd] at h
theorem RdL.mono {M M' : Mi} {im:Bool} (H:M.Le M' im):∀ (l:List D) (vs:List Value),RdL M im l vs->RdL M' im l vs
 | [],[],h=>by simp [RdL]
 | d :: l,v :: vs,h=>by
   simp only [RdL] at h ⊢;exact ⟨h.1,Rd.mono H d v h.2.1,RdL.mono H l vs h.2.2⟩
 | [],_ :: _,h=>by simp [RdL] at h
 | _ :: _,[],h=>by simp [RdL] at h
theorem RdT.mono {M M' : Mi} {im:Bool} (H:M.Le M' im):∀ (l:List D) (vs:List Value),RdT M im l vs->RdT M' im l vs
 | [],[],h=>by simp [RdT]
 | d :: l,v :: vs,h=>by
   simp only [RdT] at h ⊢;exact ⟨Rd.mono H d v h.1,RdT.mono H l vs h.2⟩
 | [],_ :: _,h=>by simp [RdT] at h
 | _ :: _,[],h=>by simp [RdT] at h
end
mutual
theorem Rd.im {M:Mi}:∀ (d:D) (v:Value) (im:Bool),Rd M true d v->Rd M im d v
 | .any,_,_,h=>by simp [Rd]
 | .int ..,_,_,h | .lit ..,_,_,h | .bool ..,_,_,h | .str ..,_,_,h | .nil,_,_,h | .null,_,_,h | .nilfn,_,_,h | .val _,_,_,h=>by simpa [Rd] using h
 | .tab sz n f,v,_,h=>by simpa only [Rd] using h
 | .agg l,v,im,h=>by
   simp only [Rd] at h ⊢;obtain ⟨cs,rfl,h⟩:=h;exact ⟨cs,rfl,RdL.im l _ im h⟩
 | .vec n g,v,im,h=>by
   simp only [Rd] at h ⊢;obtain ⟨cs,rfl,hs,h⟩:=h;exact ⟨cs,rfl,hs,fun i x hx=>⟨(h i x hx).1,Rd.im (g i) x im (h i x hx).2⟩⟩
 | .tup l,v,im,h=>by
   simp only [Rd] at h ⊢;obtain ⟨cs,rfl,h⟩:=h;exact ⟨cs,rfl,RdT.im l _ im h⟩
 | .ref l,v,_,h=>by simpa only [Rd] using h
 | .fn f caps,v,im,h=>by
   simp only [Rd] at h ⊢;obtain ⟨cs,rfl,h⟩:=h;exact ⟨cs,rfl,RdL.im caps _ im h⟩
 | .own n,v,_,h | .loc n _,v,_,h | .pel n _ _ _,v,_,h | .rsl n _ _ _ _,v,_,h | .mref n,v,_,h=>by simp [Rd] at h
 | .mapb l,v,_,h=>by simpa only [Rd] using h
 | .fmap _,_,_,h=>by simp [Rd] at h
 | .fmapd ..,_,_,h=>by simp [Rd] at h
 | .ftab ..,_,_,h=>by simp [Rd] at h
 | .foar ..,_,_,h=>by simp [Rd] at h
 | .ffam ..,_,_,h=>by simp [Rd] at h
 | .fbox ..,_,_,h=>by simp [Rd] at h
theorem RdL.im {M:Mi}:∀ (l:List D) (vs:List Value) (im:Bool),RdL M true l vs->RdL M im l vs
 | [],[],_,h=>by simp [RdL]
 | d :: l,v :: vs,im,h=>by
   simp only [RdL] at h ⊢;exact ⟨h.1,Rd.im d v im h.2.1,RdL.im l vs im h.2.2⟩
 | [],_ :: _,_,h=>by simp [RdL] at h
 | _ :: _,[],_,h=>by simp [RdL] at h
theorem RdT.im {M:Mi}:∀ (l:List D) (vs:List Value) (im:Bool),RdT M true l vs->RdT M im l vs
 | [],[],_,h=>by simp [RdT]
 | d :: l,v :: vs,im,h=>by
   simp only [RdT] at h ⊢;exact ⟨Rd.im d v im h.1,RdT.im l vs im h.2⟩
 | [],_ :: _,_,h=>by simp [RdT] at h
 | _ :: _,[],_,h=>by simp [RdT] at h
end
theorem RdL.length {M:Mi} {im:Bool}:∀ {l:List D} {vs:List Value},RdL M im l vs->l.length=vs.length
 | [],[],_=>rfl
 | _ :: l,_ :: vs,h=>by simp only [RdL] at h;simp [RdL.length h.2.2]
 | [],_ :: _,h=>by simp [RdL] at h
 | _ :: _,[],h=>by simp [RdL] at h
theorem RdL.get {M:Mi} {im:Bool}:∀ {l:List D} {vs:List Value},RdL M im l vs->∀ {i:Nat} {d:D} {v:Value},l[i]? = some d->vs[i]? = some v->v.oneCell' = true/\Rd M im d v
 | d :: l,v :: vs,h,0,_,_,hd,hv=>by
   simp only [RdL] at h;simp at hd hv;subst hd;subst hv;exact ⟨h.1,h.2.1⟩
 | d :: l,v :: vs,h,i+1,_,_,hd,hv=>by
   simp only [RdL] at h;exact RdL.get h.2.2 (i:=i) (by simpa using hd) (by simpa using hv)
 | [],[],_,_,_,_,hd,_=>by simp at hd
 | [],_ :: _,h,_,_,_,_,_=>by simp [RdL] at h
 | _ :: _,[],h,_,_,_,_,_=>by simp [RdL] at h
theorem RdL.drop {M:Mi} {im:Bool}:∀ {l:List D} {vs:List Value} (k:Nat),RdL M im l vs->RdL M im (l.drop k) (vs.drop k)
 | l,vs,0,h=>by simpa using h
 | [],[],k+1,h=>by simp [RdL]
 | d :: l,v :: vs,k+1,h=>by simp only [RdL] at h;simpa using RdL.drop k h.2.2
 | [],_ :: _,_,h=>by simp [RdL] at h
 | _ :: _,[],_,h=>by simp [RdL] at h
theorem RdL.take {M:Mi} {im:Bool}:∀ {l:List D} {vs:List Value} (k:Nat),RdL M im l vs->RdL M im (l.take k) (vs.take k)
 | l,vs,0,h=>by simp [RdL]
 | [],[],k+1,h=>by simp [RdL]
 | d :: l,v :: vs,k+1,h=>by
   simp only [RdL] at h;simp only [List.take_succ_cons,RdL];exact ⟨h.1,h.2.1,RdL.take k h.2.2⟩
 | [],_ :: _,_,h=>by simp [RdL] at h
 | _ :: _,[],_,h=>by simp [RdL] at h
theorem RdL.one {M:Mi} {im:Bool}:∀ {l:List D} {vs:List Value},RdL M im l vs->∀ u ∈ vs,u.oneCell' = true
 | [],[],_,_,h=>by simp at h
 | d :: l,v :: vs,h,u,hu=>by
   simp only [RdL] at h
   rcases List.mem_cons.1 hu with rfl | hu
   ·exact h.1
   ·exact RdL.one h.2.2 u hu
 | [],_ :: _,h,_,_=>by simp [RdL] at h
 | _ :: _,[],h,_,_=>by simp [RdL] at h
mutual
def D.sub (n:Nat) (x:D):D->D
 | .own m=>match Nat.beq m n with | true=>x | false=>.own m
 | .loc m o=>match Nat.beq m n with | true=>.any | false=>.loc m o
 | .pel m s i o=>match Nat.beq m n with | true=>.any | false=>.pel m s i o
 | .rsl m s a b c=>match Nat.beq m n with | true=>.any | false=>.rsl m s a b c
 | .mref m=>match Nat.beq m n with | true=>.any | false=>.mref m
 | .agg l=>.agg (D.subL n x l)
 | .vec k g=>.vec k fun i=>D.sub n x (g i)
 | .tup l=>.tup (D.subL n x l)| .fn f l=>.fn f (D.subL n x l)| d=>d
def D.subL (n:Nat) (x:D):List D->List D
 | []=>[]| d :: l=>D.sub n x d :: D.subL n x l
end
structure Mi.LeBut (M M' : Mi) (n:Nat):Prop where
 S:∀ b,M.S b->M'.S b
 h:∀ b,M.S b->M'.h[b]? = M.h[b]?
 nx:M.nx<=M'.nx
 ρ:∀ m,m<M.nx->m≠n->M'.ρ m=M.ρ m
 hv:∀ m,m<M.nx->m≠n->M'.hv m=M.hv m
 X:∀ m,m<M.nx->m≠n->M'.X m=M.X m
theorem Mi.LeBut.im {M M' : Mi} {n:Nat} (H:M.LeBut M' n):M.Le M' true:=⟨H.S,H.h,by simp,by simp,by simp,by simp⟩
theorem beq_eq {m n:Nat}:Nat.beq m n=decide (m=n):=by
 cases h:Nat.beq m n
 ·simp [Nat.ne_of_beq_eq_false h]
 ·simp [nbq h]
mutual
theorem Rd.sub {M M' : Mi} {n:Nat} {x:D} (H:M.LeBut M' n) (hx:∀ im,im=false->Rd M' im x (M.hv n)):∀ (d:D) (v:Value) (im:Bool),Rd M im d v->Rd M' im (D.sub n x d) v
 | .any,_,_,h=>by simp [Rd,D.sub]
 | .int ..,_,_,h | .lit ..,_,_,h | .bool ..,_,_,h | .str ..,_,_,h | .nil,_,_,h | .null,_,_,h | .nilfn,_,_,h | .val _,_,_,h=>by simpa [Rd,D.sub] using h
 | .tab sz k f,v,im,h=>by
   have h' : Rd M true (.tab sz k f) v:=by simpa only [Rd] using h
   exact Rd.im _ _ _ (Rd.mono H.im _ _ h')
 | .ref l,v,im,h=>by
   have h' : Rd M true (.ref l) v:=by simpa only [Rd] using h
   exact Rd.im _ _ _ (Rd.mono H.im _ _ h')
 | .mapb l,v,im,h=>by
   have h' : Rd M true (.mapb l) v:=by simpa only [Rd] using h
   exact Rd.im _ _ _ (Rd.mono H.im _ _ h')
 | .fmap _,_,_,h=>by simp [Rd] at h
 | .fmapd ..,_,_,h=>by simp [Rd] at h
 | .mref m,v,im,h=>by
   simp only [Rd] at h;simp only [D.sub,beq_eq];by_cases e:m=n
   ·simp [e,Rd]
   ·simp only [e,decide_false,Rd];exact ⟨h.1,Nat.lt_of_lt_of_le h.2.1 H.nx,by rw [H.ρ m h.2.1 e];exact h.2.2⟩
 | .agg l,v,im,h=>by
   simp only [Rd,D.sub] at h ⊢;obtain ⟨cs,rfl,h⟩:=h;exact ⟨cs,rfl,RdL.sub H hx l _ im h⟩
 | .vec k g,v,im,h=>by
   simp only [Rd,D.sub] at h ⊢;obtain ⟨cs,rfl,hs,h⟩:=h;exact ⟨cs,rfl,hs,fun i y hy=>⟨(h i y hy).1,Rd.sub H hx (g i) y im (h i y hy).2⟩⟩
 | .tup l,v,im,h=>by
   simp only [Rd,D.sub] at h ⊢;obtain ⟨cs,rfl,h⟩:=h;exact ⟨cs,rfl,RdT.sub H hx l _ im h⟩
 | .fn f l,v,im,h=>by
   simp only [Rd,D.sub] at h ⊢;obtain ⟨cs,rfl,h⟩:=h;exact ⟨cs,rfl,RdL.sub H hx l _ im h⟩
 | .own m,v,im,h=>by
   simp only [Rd] at h;simp only [D.sub,beq_eq];by_cases e:m=n
   ·subst e;simp only [decide_true,h.2.2.1];exact hx im h.1
   ·simp only [e,decide_false,Rd];exact ⟨h.1,Nat.lt_of_lt_of_le h.2.1 H.nx,by rw [H.hv m h.2.1 e];exact h.2.2.1,h.2.2.2⟩
 | .loc m o,v,im,h=>by
   simp only [Rd] at h;simp only [D.sub,beq_eq];by_cases e:m=n
   ·simp [e,Rd]
   ·simp only [e,decide_false,Rd];exact ⟨h.1,Nat.lt_of_lt_of_le h.2.1 H.nx,by rw [H.ρ m h.2.1 e];exact h.2.2⟩
 | .pel m _ _ _,v,im,h=>by
   simp only [Rd] at h;simp only [D.sub,beq_eq];by_cases e:m=n
   ·simp [e,Rd]
   ·simp only [e,decide_false,Rd];exact ⟨h.1,Nat.lt_of_lt_of_le h.2.1 H.nx,by rw [H.ρ m h.2.1 e,H.hv m h.2.1 e];exact h.2.2⟩
 | .rsl m _ _ _ _,v,im,h=>by
   simp only [Rd] at h;simp only [D.sub,beq_eq];by_cases e:m=n
   ·simp [e,Rd]
   ·simp only [e,decide_false,Rd];exact ⟨h.1,Nat.lt_of_lt_of_le h.2.1 H.nx,by rw [H.ρ m h.2.1 e];exact h.2.2⟩
 | .ftab ..,_,_,h=>by simp [Rd] at h
 | .foar ..,_,_,h=>by simp [Rd] at h
 | .ffam ..,_,_,h=>by simp [Rd] at h
 | .fbox ..,_,_,h=>by simp [Rd] at h
theorem RdL.sub {M M' : Mi} {n:Nat} {x:D} (H:M.LeBut M' n) (hx:∀ im,im=false->Rd M' im x (M.hv n)):∀ (l:List D) (vs:List Value) (im:Bool),RdL M im l vs->RdL M' im (D.subL n x l) vs
 | [],[],_,h=>by simp [RdL,D.subL]
 | d :: l,v :: vs,im,h=>by
   simp only [RdL,D.subL] at h ⊢;exact ⟨h.1,Rd.sub H hx d v im h.2.1,RdL.sub H hx l vs im h.2.2⟩
 | [],_ :: _,_,h=>by simp [RdL] at h
 | _ :: _,[],_,h=>by simp [RdL] at h
theorem RdT.sub {M M' : Mi} {n:Nat} {x:D} (H:M.LeBut M' n) (hx:∀ im,im=false->Rd M' im x (M.hv n)):∀ (l:List D) (vs:List Value) (im:Bool),RdT M im l vs->RdT M' im (D.subL n x l) vs
 | [],[],_,h=>by simp [RdT,D.subL]
 | d :: l,v :: vs,im,h=>by
   simp only [RdT,D.subL] at h ⊢;exact ⟨Rd.sub H hx d v im h.1,RdT.sub H hx l vs im h.2⟩
 | [],_ :: _,_,h=>by simp [RdT] at h
 | _ :: _,[],_,h=>by simp [RdT] at h
end
end Sx
namespace Sx
open Go
def upd {α:Type} (e:Nat->α) (d:Nat) (v:α):Nat->α:=fun t=>match Nat.beq t d with | true=>v | false=>e t
theorem upd_self {α:Type} (e:Nat->α) (d:Nat) (v:α):upd e d v d=v:=by simp [upd]
theorem upd_ne {α:Type} (e:Nat->α) {d t:Nat} (v:α) (h:t≠d):upd e d v t=e t:=by simp [upd,beq_eq,h]
def lkE:List (Nat × D)->Nat->D
 | [],_=>.any
 | (t,d) :: l,k=>match Nat.beq t k with
   | true=>d| false=>lkE l k
inductive Box where
 | dead | var (l:List D) | vec (n:Nat) (g:Nat->D) | arr (e sz n:Nat) (f:Nat->List D)
 | gho (V:Nat->Value) (g:Nat->D) | bld (ty:Nat) (u:Bool) (q:D) | blk (e sz cap kn:Nat) (f:Nat->List D)
 | mp (l:MpL) | hot (e k:Nat) (f:Nat->List D) (i:Nat) (d:D)
 | ghs (V:Nat->Value) (sl:List (Nat × D)) | oar (e sz n:Nat) (f:Nat->List D)
 | mit (kn:Nat) (l:MpL) (la:Option (List Int × Int)) | mpe (l:MpL) (r:List Int) (s:Nat)
 | mpd (sk:Bool) (kn:Nat) (l:List (List Int × D)) | sar (e sz n:Nat) (f:Nat->List D)
 | fam (e sz n:Nat) (f:Nat->List D) | famx (e sz n:Nat) (f:Nat->List D) (i:Nat) (ds:List D)
def OwnsH (h:Array Obj) (e size:Nat) (v:Value) (n:Nat) (xs:List Value):Prop :=
 xs.length=n*size /\
 ((v = .slice none 0 0/\n=0) \/
  ∃ g cap cur,v = .slice (some ⟨g,0,none⟩) n cap/\h[g]? = some (.cells cur e (0,0))/\n<=cap/\cap<=maxLen/\cur.size=cap*size/\cur.toList.take (n*size)=xs)
def OwnsO (h:Array Obj) (e size:Nat) (v:Value) (n:Nat) (xs:List Value):Prop :=
 xs.length=n*size /\
 ((v = .slice none 0 0/\n=0) \/
  ∃ g o cap cur,v = .slice (some ⟨g,o,none⟩) n cap/\h[g]? = some (.cells cur e (0,0))/\n<=cap/\cap<=maxLen/\o+cap*size<=cur.size/\(cur.toList.drop o).take (n*size)=xs)
theorem OwnsH.oar {h:Array Obj} {e size n:Nat} {v:Value} {xs:List Value} (H:OwnsH h e size v n xs):OwnsO h e size v n xs:=by
 obtain ⟨h1,h2⟩:=H;refine ⟨h1,h2.imp id ?_⟩
 rintro ⟨g,cap,cur,a,b,c,d,e,f⟩
 exact ⟨g,0,cap,cur,a,b,c,d,by omega,by simpa using f⟩
theorem OwnsO.keep {h h' : Array Obj} {e size n:Nat} {v:Value} {xs:List Value} (H:OwnsO h e size v n xs) (hh:∀ b,v.ownBlock=some b->h'[b]? = h[b]?):OwnsO h' e size v n xs:=by
 refine ⟨H.1,H.2.imp id ?_⟩
 rintro ⟨g,o,cap,cur,a,b,c⟩
 exact ⟨g,o,cap,cur,a,by rw [hh g (by rw [a];rfl)];exact b,c⟩
theorem OwnsH.of_row {w:World} {base e size n:Nat} {v:Value} {xs:List Value} (h:w.ownsRow base e size v n xs):OwnsH w.heap e size v n xs:=by
 obtain ⟨h1,h2⟩:=h;refine ⟨h1,h2.imp id ?_⟩
 rintro ⟨g,cap,cur,a,_,b,c⟩
 exact ⟨g,cap,cur,a,b,c⟩
theorem get?_lt {h:Array Obj} {b:Nat} {o:Obj} (hb:h[b]? = some o):b<h.size:=by
 rcases Nat.lt_or_ge b h.size with h' | h'
 ·exact h'
 ·rw [Array.getElem?_eq_none h'] at hb;cases hb
theorem OwnsH.block {h:Array Obj} {e size n:Nat} {v:Value} {xs:List Value} (H:OwnsH h e size v n xs) {b:Nat} (hb:v.ownBlock=some b):∃ cur,h[b]? = some (.cells cur e (0,0)):=by
 rcases H.2 with ⟨rfl,_⟩ | ⟨g,cap,cur,rfl,hg,_⟩
 ·simp [Value.ownBlock] at hb
 ·simp only [Value.ownBlock,Option.some.injEq] at hb;subst hb;exact ⟨cur,hg⟩
theorem OwnsO.block {h:Array Obj} {e size n:Nat} {v:Value} {xs:List Value} (H:OwnsO h e size v n xs) {b:Nat} (hb:v.ownBlock=some b):∃ cur,h[b]? = some (.cells cur e (0,0)):=by
 rcases H.2 with ⟨rfl,_⟩ | ⟨g,o,cap,cur,rfl,hg,_⟩
 ·simp [Value.ownBlock] at hb
 ·simp only [Value.ownBlock,Option.some.injEq] at hb;subst hb;exact ⟨cur,hg⟩
theorem OwnsH.keep {h h' : Array Obj} {e size n:Nat} {v:Value} {xs:List Value} (H:OwnsH h e size v n xs) (hh:∀ b,v.ownBlock=some b->h'[b]? = h[b]?):OwnsH h' e size v n xs:=by
 refine ⟨H.1,H.2.imp id ?_⟩
 rintro ⟨g,cap,cur,a,b,c⟩
 exact ⟨g,cap,cur,a,by rw [hh g (by rw [a];rfl)];exact b,c⟩
def rowsF (Fs:Nat->List Nat) (k:Nat):List Nat:=(List.range k).flatMap Fs
theorem rowsF_in {Fs:Nat->List Nat} {k i b:Nat} (hi:i<k) (hb:b ∈ Fs i):b ∈ rowsF Fs k:=List.mem_flatMap.2 ⟨i,List.mem_range.2 hi,hb⟩
theorem rowsF_of {Fs:Nat->List Nat} {k b:Nat} (h:b ∈ rowsF Fs k):∃ i,i<k/\b ∈ Fs i:=by
 obtain ⟨i,hi,hb⟩:=List.mem_flatMap.1 h;exact ⟨i,List.mem_range.1 hi,hb⟩
def mpdOK (M:Mi) (sk:Bool) (kn:Nat) (o:Option Obj) (l:List (List Int × D)):Prop :=
 ∃ es ck,o=some (.map es ck)/\es.toList.map (·.key)=l.map (fun x=>keyV sk x.1)/\(∀ (i:Nat) e x,es.toList[i]? = some e->l[i]? = some x->Rd M true x.2 e.val)/\(∀ x ∈ l,x.1.length=kn)/\(es.toList.map (·.born)).Nodup/\∀ x ∈ es.toList,x.born<ck
theorem mpdOK.mono {M M' : Mi} {sk:Bool} {kn:Nat} {o:Option Obj} {l:List (List Int × D)} (h:mpdOK M sk kn o l) (hle:M.Le M' true):mpdOK M' sk kn o l:=by
 obtain ⟨es,ck,h1,h2,h3,h4⟩:=h;exact ⟨es,ck,h1,h2,fun i e x he hx=>Rd.mono hle _ _ (h3 i e x he hx),h4⟩
def mkM (n:Nat) (ks:Nat->List Int) (vs:Nat->D):List (List Int × D):=(List.range n).map fun i=>(ks i,vs i)
theorem mkM_self (l:List (List Int × D)):mkM l.length (fun i=>(l.getD i ([],.any)).1) (fun i=>(l.getD i ([],.any)).2)=l:=by
 apply List.ext_getElem?;intro i;simp only [mkM,List.getElem?_map];by_cases h:i<l.length
 ·simp [h,gDe]
 ·rw [List.getElem?_eq_none (l:=l) (by omega),List.getElem?_eq_none (by simpa using h)];rfl
mutual
def Od (M:Mi):D->Value->List Nat->Prop
 | .ftab e sz n f,v,F=>(∃ xs,OwnsH M.h e sz v n xs/\(∀ i,i<n->RdL M true (f i) ((xs.drop (i*sz)).take sz))/\∀ u ∈ xs,u.oneCell' = true)/\F=v.ownBlock.toList| .foar e sz n f,v,F=>(∃ xs,OwnsH M.h e sz v n xs/\(∀ i,i<n->RdL M true (f i) ((xs.drop (i*sz)).take sz))/\∀ u ∈ xs,u.oneCell' = true)/\F=v.ownBlock.toList| .fbox l,v,F=>∃ b cs ty F',v = .pointer (some ⟨b,0,none⟩)/\M.h[b]? = some (.cells cs ty (0,0))/\OdL M l cs.toList F'/\F=b :: F'
 | .agg l,v,F=>∃ cs:Array Value,v = .agg cs/\OdL M l cs.toList F| .tup l,v,F=>∃ cs:Array Value,v = .tuple cs/\OdT M l cs.toList F| .fn f l,v,F=>∃ cs:Array Value,v = .func (.func f) #[] cs/\OdL M l cs.toList F| .ffam e sz n f,v,F=>∃ (xs:List Value) (Fs:Nat->List Nat),OwnsH M.h e sz v n xs/\(∀ i,i<n->OdL M (f i) ((xs.drop (i*sz)).take sz) (Fs i))/\(∀ u ∈ xs,u.oneCell' = true)/\F=v.ownBlock.toList ++ rowsF Fs n
 | .fmap l,v,F=>∃ b,v = .map (some b)/\mapOK M.h[b]? l/\F = [b]| .fmapd sk kn n ks vs,v,F=>∃ b,v = .map (some b)/\mpdOK M sk kn M.h[b]? (mkM n ks vs)/\F = [b]| d,v,F=>Rd M true d v/\F = []
def OdL (M:Mi):List D->List Value->List Nat->Prop
 | [],[],F=>F = []| d :: l,v :: vs,F=>v.oneCell' = true/\∃ F1 F2,F=F1 ++ F2/\Od M d v F1/\OdL M l vs F2| _,_,_=>False
def OdT (M:Mi):List D->List Value->List Nat->Prop
 | [],[],F=>F = []| d :: l,v :: vs,F=>∃ F1 F2,F=F1 ++ F2/\Od M d v F1/\OdT M l vs F2| _,_,_=>False
end
mutual
theorem Od.mono {M M' : Mi} (hS:∀ b,M.S b->M'.S b) (hh:∀ b,M.S b->M'.h[b]? = M.h[b]?):∀ (d:D) (v:Value) (F:List Nat),Od M d v F->(∀ b ∈ F,M'.h[b]? = M.h[b]?)->Od M' d v F
 | .ftab e sz n f,v,F,h,hF=>by
   simp only [Od] at h ⊢;obtain ⟨⟨xs,h1,h2,h3⟩,rfl⟩:=h;refine ⟨⟨xs,⟨h1.1,?_⟩,fun i hi=>RdL.mono ⟨hS,hh,by simp,by simp,by simp,by simp⟩ _ _ (h2 i hi),h3⟩,rfl⟩
   rcases h1.2 with h | ⟨g,cap,cur,rfl,e2,e3⟩
   ·exact .inl h
   ·exact .inr ⟨g,cap,cur,rfl,by rw [hF g (by simp [Value.ownBlock])];exact e2,e3⟩
 | .foar e sz n f,v,F,h,hF=>by
   simp only [Od] at h ⊢;obtain ⟨⟨xs,h1,h2,h3⟩,rfl⟩:=h;exact ⟨⟨xs,h1.keep fun b hb=>hF b (by simp [hb]),fun i hi=>RdL.mono ⟨hS,hh,by simp,by simp,by simp,by simp⟩ _ _ (h2 i hi),h3⟩,rfl⟩
 | .fbox l,v,F,h,hF=>by
   simp only [Od] at h ⊢;obtain ⟨b,cs,ty,F',rfl,h2,h3,rfl⟩:=h;exact ⟨b,cs,ty,F',rfl,by rw [hF b (by simp)];exact h2,OdL.mono hS hh l _ F' h3 fun x hx=>hF x (by simp [hx]),rfl⟩
 | .agg l,v,F,h,hF=>by
   simp only [Od] at h ⊢;obtain ⟨cs,rfl,h⟩:=h;exact ⟨cs,rfl,OdL.mono hS hh l _ F h hF⟩
 | .tup l,v,F,h,hF=>by
   simp only [Od] at h ⊢;obtain ⟨cs,rfl,h⟩:=h;exact ⟨cs,rfl,OdT.mono hS hh l _ F h hF⟩
 | .fn f l,v,F,h,hF=>by
   simp only [Od] at h ⊢;obtain ⟨cs,rfl,h⟩:=h;exact ⟨cs,rfl,OdL.mono hS hh l _ F h hF⟩
 | .ffam e sz n f,v,F,h,hF=>by
   simp only [Od] at h ⊢;obtain ⟨xs,Fs,h1,h2,h3,rfl⟩:=h;exact ⟨xs,Fs,h1.keep fun b hb=>hF b (by simp [hb]),fun i hi=>OdL.mono hS hh (f i) _ (Fs i) (h2 i hi) fun b hb=>hF b (List.mem_append_right _ (rowsF_in hi hb)),h3,rfl⟩
 | .fmap l,v,F,h,hF=>by
   simp only [Od] at h ⊢;obtain ⟨b,rfl,h,rfl⟩:=h;exact ⟨b,rfl,by rw [hF b (by simp)];exact h,rfl⟩
 | .fmapd sk kn n ks vs,v,F,h,hF=>by
   simp only [Od] at h ⊢;obtain ⟨b,rfl,h,rfl⟩:=h;exact ⟨b,rfl,by rw [hF b (by simp)];exact h.mono ⟨hS,hh,by simp,by simp,by simp,by simp⟩,rfl⟩
 | .any,v,F,h,_ | .int ..,v,F,h,_ | .lit _,v,F,h,_ | .bool _,v,F,h,_ | .str _,v,F,h,_ | .nil,v,F,h,_ | .tab ..,v,F,h,_ | .vec ..,v,F,h,_ | .ref _,v,F,h,_ | .null,v,F,h,_ | .nilfn,v,F,h,_ | .val _,v,F,h,_ | .mapb _,v,F,h,_ | .mref _,v,F,h,_
 | .own _,v,F,h,_ | .loc ..,v,F,h,_ | .pel ..,v,F,h,_ | .rsl ..,v,F,h,_=>by
   simp only [Od] at h ⊢;exact ⟨Rd.mono ⟨hS,hh,by simp,by simp,by simp,by simp⟩ _ _ h.1,h.2⟩
theorem OdL.mono {M M' : Mi} (hS:∀ b,M.S b->M'.S b) (hh:∀ b,M.S b->M'.h[b]? = M.h[b]?):∀ (l:List D) (vs:List Value) (F:List Nat),OdL M l vs F->(∀ b ∈ F,M'.h[b]? = M.h[b]?)->OdL M' l vs F
 | [],[],F,h,_=>by simpa [OdL] using h
 | d :: l,v :: vs,F,h,hF=>by
   simp only [OdL] at h ⊢;obtain ⟨h1,F1,F2,rfl,h2,h3⟩:=h;exact ⟨h1,F1,F2,rfl,Od.mono hS hh d v F1 h2 (fun b hb=>hF b (List.mem_append_left _ hb)),OdL.mono hS hh l vs F2 h3 (fun b hb=>hF b (List.mem_append_right _ hb))⟩
 | [],_ :: _,_,h,_=>by simp [OdL] at h
 | _ :: _,[],_,h,_=>by simp [OdL] at h
theorem OdT.mono {M M' : Mi} (hS:∀ b,M.S b->M'.S b) (hh:∀ b,M.S b->M'.h[b]? = M.h[b]?):∀ (l:List D) (vs:List Value) (F:List Nat),OdT M l vs F->(∀ b ∈ F,M'.h[b]? = M.h[b]?)->OdT M' l vs F
 | [],[],F,h,_=>by simpa [OdT] using h
 | d :: l,v :: vs,F,h,hF=>by
   simp only [OdT] at h ⊢;obtain ⟨F1,F2,rfl,h2,h3⟩:=h;exact ⟨F1,F2,rfl,Od.mono hS hh d v F1 h2 (fun b hb=>hF b (List.mem_append_left _ hb)),OdT.mono hS hh l vs F2 h3 (fun b hb=>hF b (List.mem_append_right _ hb))⟩
 | [],_ :: _,_,h,_=>by simp [OdT] at h
 | _ :: _,[],_,h,_=>by simp [OdT] at h
end
mutual
theorem Od.lt {M:Mi}:∀ (d:D) (v:Value) (F:List Nat),Od M d v F->∀ b ∈ F,b<M.h.size
 | .ftab e sz n f,v,F,h,b,hb=>by
   simp only [Od] at h;obtain ⟨⟨xs,h1,_,_⟩,rfl⟩:=h;obtain ⟨cur,hc⟩:=h1.block (b:=b) (by simpa using hb);exact get?_lt hc
 | .foar e sz n f,v,F,h,b,hb=>by
   simp only [Od] at h;obtain ⟨⟨xs,h1,_,_⟩,rfl⟩:=h;obtain ⟨cur,hc⟩:=h1.block (b:=b) (by simpa using hb);exact get?_lt hc
 | .fbox l,v,F,h,b,hb=>by
   simp only [Od] at h;obtain ⟨b',cs,ty,F',rfl,h2,h3,rfl⟩:=h
   rcases List.mem_cons.1 hb with rfl | hb
   ·exact get?_lt h2
   ·exact OdL.lt l _ F' h3 b hb
 | .agg l,v,F,h,b,hb=>by
   simp only [Od] at h;obtain ⟨cs,rfl,h⟩:=h;exact OdL.lt l _ F h b hb
 | .tup l,v,F,h,b,hb=>by
   simp only [Od] at h;obtain ⟨cs,rfl,h⟩:=h;exact OdT.lt l _ F h b hb
 | .fn f l,v,F,h,b,hb=>by
   simp only [Od] at h;obtain ⟨cs,rfl,h⟩:=h;exact OdL.lt l _ F h b hb
 | .any,v,F,h,b,hb | .int ..,v,F,h,b,hb | .lit _,v,F,h,b,hb | .bool _,v,F,h,b,hb | .str _,v,F,h,b,hb | .nil,v,F,h,b,hb | .tab ..,v,F,h,b,hb | .vec ..,v,F,h,b,hb | .ref _,v,F,h,b,hb
 | .null,v,F,h,b,hb | .nilfn,v,F,h,b,hb | .val _,v,F,h,b,hb | .own _,v,F,h,b,hb | .loc ..,v,F,h,b,hb | .pel ..,v,F,h,b,hb | .rsl ..,v,F,h,b,hb | .mref _,v,F,h,b,hb | .mapb _,v,F,h,b,hb=>by
   simp only [Od] at h;rw [h.2] at hb;cases hb
 | .ffam e sz n f,v,F,h,b,hb=>by
   simp only [Od] at h;obtain ⟨xs,Fs,h1,h2,_,rfl⟩:=h
   rcases List.mem_append.1 hb with hb | hb
   ·obtain ⟨cur,hc⟩:=h1.block (b:=b) (by simpa using hb);exact get?_lt hc
   ·obtain ⟨i,hi,hb⟩:=rowsF_of hb;exact OdL.lt (f i) _ (Fs i) (h2 i hi) b hb
 | .fmap l,v,F,h,b,hb=>by
   simp only [Od] at h;obtain ⟨b',rfl,⟨es,ck,h,_⟩,rfl⟩:=h;simp only [List.mem_singleton] at hb;subst hb;exact get?_lt h
 | .fmapd sk kn n ks vs,v,F,h,b,hb=>by
   simp only [Od] at h;obtain ⟨b',rfl,⟨es,ck,h,_⟩,rfl⟩:=h;simp only [List.mem_singleton] at hb;subst hb;exact get?_lt h
theorem OdL.lt {M:Mi}:∀ (l:List D) (vs:List Value) (F:List Nat),OdL M l vs F->∀ b ∈ F,b<M.h.size
 | [],[],F,h,b,hb=>by simp only [OdL] at h;rw [h] at hb;cases hb
 | d :: l,v :: vs,F,h,b,hb=>by
   simp only [OdL] at h;obtain ⟨_,F1,F2,rfl,h1,h2⟩:=h
   rcases List.mem_append.1 hb with hb | hb
   ·exact Od.lt d v F1 h1 b hb
   ·exact OdL.lt l vs F2 h2 b hb
 | [],_ :: _,_,h,_,_=>by simp [OdL] at h
 | _ :: _,[],_,h,_,_=>by simp [OdL] at h
theorem OdT.lt {M:Mi}:∀ (l:List D) (vs:List Value) (F:List Nat),OdT M l vs F->∀ b ∈ F,b<M.h.size
 | [],[],F,h,b,hb=>by simp only [OdT] at h;rw [h] at hb;cases hb
 | d :: l,v :: vs,F,h,b,hb=>by
   simp only [OdT] at h;obtain ⟨F1,F2,rfl,h1,h2⟩:=h
   rcases List.mem_append.1 hb with hb | hb
   ·exact Od.lt d v F1 h1 b hb
   ·exact OdT.lt l vs F2 h2 b hb
 | [],_ :: _,_,h,_,_=>by simp [OdT] at h
 | _ :: _,[],_,h,_,_=>by simp [OdT] at h
end
def mitOK (h:Array Obj) (S:Nat->Prop) (o:Option Obj) (kn:Nat) (l:MpL) (la:Option (List Int × Int)):Prop :=
 ∃ bm es ck since seen c0,o=some (.mapIter (some bm) since seen c0)/\S bm/\h[bm]? = some (.map es ck)/\(es.toList.map (·.born)).Nodup/\(∀ x ∈ es.toList,x.born<since)/\since<=c0/\since<=ck /\
   (leftOf es seen).toList.map (fun e=>(e.key,e.val))=l.l.map (fun x=>(keyV l.sk x.1,valV l.bv x.2))/\(∀ x ∈ l.l,x.1.length=kn) /\
   ∀ p,la=some p->ck=c0/\∃ e ∈ es.toList,seen.back? = some e.born/\e.key=keyV l.sk p.1/\e.val=valV l.bv p.2
def BoxOK (M:Mi) (n:Nat):Box->Prop
 | .dead=>True| .var l=>∃ b cs ty,M.ρ n=some b/\M.h[b]? = some (.cells cs ty (0,0))/\RdL M false l cs.toList| .vec k g=>∃ b cs ty,M.ρ n=some b/\M.h[b]? = some (.cells cs ty (0,0))/\cs.size=k/\∀ i x,cs[i]? = some x->x.oneCell' = true/\Rd M false (g i) x| .arr e sz k f=>∃ xs,OwnsH M.h e sz (M.hv n) k xs/\M.ρ n=(M.hv n).ownBlock/\(∀ i,i<k->RdL M true (f i) ((xs.drop (i*sz)).take sz))/\∀ u ∈ xs,u.oneCell' = true
 | .gho V g=>M.ρ n=none/\∀ t,Rd M false (g t) (V t)| .bld ty u q=>∃ b v,M.ρ n=some b/\M.h[b]? = some (.cells #[bif u then .pointer (some ⟨b,0,none⟩) else .pointer none,v] ty (0,0))/\v.oneCell' = true/\Rd M false q v| .blk e sz cap kn f=>hoff (M.hv n)=0/\∃ b cs,M.ρ n=some b/\M.h[b]? = some (.cells cs e (0,0))/\cs.size=cap*sz/\kn<=cap/\cap<=maxLen/\∀ i,i<kn->RdL M true (f i) ((cs.toList.drop (i*sz)).take sz)| .mp l=>∃ b,M.ρ n=some b/\mapOK M.h[b]? l
 | .hot e k f i d=>∃ xs,OwnsH M.h e 1 (M.hv n) k xs/\M.ρ n=(M.hv n).ownBlock/\(∀ j,j<k->j<i->RdL M true (f j) ((xs.drop (j*1)).take 1))/\(i<k->RdL M false [d] ((xs.drop (i*1)).take 1))/\∀ u ∈ xs,u.oneCell' = true| .oar e sz k f=>∃ xs,OwnsO M.h e sz (M.hv n) k xs/\M.ρ n=(M.hv n).ownBlock/\(∀ i,i<k->RdL M true (f i) ((xs.drop (i*sz)).take sz))/\∀ u ∈ xs,u.oneCell' = true| .ghs V sl=>M.ρ n=none/\∀ t,Rd M false (lkE sl t) (V t)
 | .mit kn l la=>∃ b,M.ρ n=some b/\mitOK M.h M.S M.h[b]? kn l la| .mpe l r s=>∃ b,M.ρ n=some b/\mpeOK M.h[b]? l r s| .mpd sk kn l=>∃ b,M.ρ n=some b/\mpdOK M sk kn M.h[b]? l| .sar e sz k f=>(∃ xs,OwnsH M.h e sz (M.hv n) k xs/\M.ρ n=(M.hv n).ownBlock/\(∀ i,i<k->RdL M true (f i) ((xs.drop (i*sz)).take sz))/\∀ u ∈ xs,u.oneCell' = true)\/(M.ρ n=none/\(∃ a,M.hv n = .slice a k k)/\Rd M true (.tab sz k f) (M.hv n))
 | .fam e sz k f=>∃ (xs:List Value) (Fs:Nat->List Nat),OwnsH M.h e sz (M.hv n) k xs/\M.ρ n=(M.hv n).ownBlock/\(∀ i,i<k->OdL M (f i) ((xs.drop (i*sz)).take sz) (Fs i))/\(∀ u ∈ xs,u.oneCell' = true) /\
  (rowsF Fs k).Nodup/\(∀ b,M.X n b ↔ b ∈ rowsF Fs k)/\∀ b ∈ rowsF Fs k,(M.hv n).ownBlock≠some b
 | .famx e sz k f i ds=>∃ (xs:List Value) (Fs:Nat->List Nat),OwnsH M.h e sz (M.hv n) k xs/\M.ρ n=(M.hv n).ownBlock/\(∀ j,j<k->j≠i->OdL M (f j) ((xs.drop (j*sz)).take sz) (Fs j))/\(∀ u ∈ xs,u.oneCell' = true) /\
  (rowsF Fs k).Nodup/\(∀ b,M.X n b ↔ b ∈ rowsF Fs k)/\(∀ b ∈ rowsF Fs k,(M.hv n).ownBlock≠some b)/\i<k/\Fs i = []/\RdL M false ds ((xs.drop (i*sz)).take sz)
def Box.isFam:Box->Bool
 | .fam ..=>true| .famx ..=>true| _=>false
def Mi.O (M:Mi) (n b:Nat):Prop:=M.ρ n=some b\/M.X n b
def layT:List (String × IntKind × List Nat):=[("math/bits.deBruijn64tab",.u8,[0,1,56,2,57,49,28,3,61,58,42,50,38,29,17,4,62,47,59,36,45,43,51,22,53,39,33,30,24,18,12,5,63,55,48,27,60,41,37,16,46,35,44,21,52,32,23,11,54,26,40,15,34,20,31,10,25,14,19,9,13,8,7,6]),("internal/strconv.uint64pow10",.u64,[1,10,100,1000,10000,100000,1000000,10000000,100000000,1000000000,10000000000,100000000000,1000000000000,10000000000000,100000000000000,1000000000000000,10000000000000000,100000000000000000,1000000000000000000,10000000000000000000])]
def Laid (P:Program) (h:Array Obj) (W:Nat->Prop):Prop :=
 ∀ x ∈ layT,∀ g,P.globalNamed x.1=some g->g<h.size/\¬ W g/\∃ ty p,h[g]? = some (.cells (x.2.2.map fun k:Nat=>Value.int x.2.1 k).toArray ty p)
structure Cx (P:Program) where
 w0:World
 W0:Nat->Prop
 S0:Nat->Prop
 tm:Nat->Value
 lay:Laid P w0.heap W0
 dm:List Deferred
 nd:dm.Nodup
 mks:∀ d ∈ dm,∃ D,d = { target:=.collected D,args:=#[] }/\D<w0.heap.size/\¬ W0 D/\¬ S0 D/\w0.heap[D]? = some (.deferred (some []))
structure Mem {Pc:Program} (c:Cx Pc) (M:Mi) (sto:Nat->Box):Prop where
 size:c.w0.heap.size<=M.h.size
 frame:∀ b,b<c.w0.heap.size->¬ c.W0 b->M.h[b]? = c.w0.heap[b]?
 Slt:∀ b,M.S b->b<M.h.size
 Sold:∀ b,M.S b->c.S0 b\/c.w0.heap.size<=b\/c.W0 b
 box:∀ n,n<M.nx->BoxOK M n (sto n)
 dead:∀ n,M.nx<=n->sto n = .dead
 injO:∀ n m b,sto n≠.dead->sto m≠.dead->M.O n b->M.O m b->n=m
 sepO:∀ n b,sto n≠.dead->M.O n b->¬ M.S b
 frO:∀ n b,sto n≠.dead->M.O n b->c.w0.heap.size<=b\/c.W0 b
 non:∀ n,sto n≠.dead->(sto n).isFam=false->∀ b,¬ M.X n b
theorem Mem.inj {Pc:Program} {c:Cx Pc} {M:Mi} {sto:Nat->Box} (H:Mem c M sto):∀ n m b,sto n≠.dead->sto m≠.dead->M.ρ n=some b->M.ρ m=some b->n=m:=fun n m b h1 h2 h3 h4=>H.injO n m b h1 h2 (.inl h3) (.inl h4)
theorem Mem.sep {Pc:Program} {c:Cx Pc} {M:Mi} {sto:Nat->Box} (H:Mem c M sto):∀ n b,sto n≠.dead->M.ρ n=some b->¬ M.S b:=fun n b h1 h2=>H.sepO n b h1 (.inl h2)
theorem Mem.fresh {Pc:Program} {c:Cx Pc} {M:Mi} {sto:Nat->Box} (H:Mem c M sto):∀ n b,sto n≠.dead->M.ρ n=some b->c.w0.heap.size<=b\/c.W0 b:=fun n b h1 h2=>H.frO n b h1 (.inl h2)
theorem Mem.lt {Pc:Program} {c:Cx Pc} {M:Mi} {sto:Nat->Box} (H:Mem c M sto) {n:Nat} (h:sto n≠.dead):n<M.nx:=by
 rcases Nat.lt_or_ge n M.nx with h' | h'
 ·exact h'
 ·exact absurd (H.dead n h') h
theorem BoxOK.lt {M:Mi} {n:Nat} {bx:Box} (H:BoxOK M n bx) (hd:bx≠.dead) {b:Nat} (hb:M.ρ n=some b):b<M.h.size:=by
 cases bx with
 | dead=>exact absurd rfl hd
 | var l=>obtain ⟨b',cs,ty,h1,h2,_⟩:=H;rw [hb] at h1;cases h1;exact get?_lt h2
 | vec k g=>obtain ⟨b',cs,ty,h1,h2,_⟩:=H;rw [hb] at h1;cases h1;exact get?_lt h2
 | arr e sz k f=>obtain ⟨xs,h1,h2,_⟩:=H;rw [hb] at h2;obtain ⟨cur,hc⟩:=h1.block h2.symm;exact get?_lt hc
 | gho V g=>rw [H.1] at hb;cases hb
 | bld ty u q=>obtain ⟨b',v,h1,h2,_⟩:=H;rw [hb] at h1;cases h1;exact get?_lt h2
 | blk e sz cap kn f=>obtain ⟨_,b',cs,h1,h2,_⟩:=H;rw [hb] at h1;cases h1;exact get?_lt h2
 | mp l=>obtain ⟨b',h1,es,ck,h2,_⟩:=H;rw [hb] at h1;cases h1;exact get?_lt h2
 | hot e k f i d=>obtain ⟨xs,h1,h2,_⟩:=H;rw [hb] at h2;obtain ⟨cur,hc⟩:=h1.block h2.symm;exact get?_lt hc
 | oar e sz k f=>obtain ⟨xs,h1,h2,_⟩:=H;rw [hb] at h2;obtain ⟨cur,hc⟩:=h1.block h2.symm;exact get?_lt hc
 | ghs V sl=>rw [H.1] at hb;cases hb
 | mpe l r s=>obtain ⟨b',h1,es,ck,h2,_⟩:=H;rw [hb] at h1;cases h1;exact get?_lt h2
 | mpd sk kn l=>obtain ⟨b',h1,es,ck,h2,_⟩:=H;rw [hb] at h1;cases h1;exact get?_lt h2
 | sar e sz k f =>
   rcases H with ⟨xs,h1,h2,_⟩ | ⟨h1,_⟩
   ·rw [hb] at h2;obtain ⟨cur,hc⟩:=h1.block h2.symm;exact get?_lt hc
   ·rw [hb] at h1;cases h1
 | mit kn l la=>obtain ⟨b',h1,_,_,_,_,_,_,h2,_⟩:=H;rw [hb] at h1;cases h1;exact get?_lt h2
 | fam e sz k f=>obtain ⟨xs,Fs,h1,h2,_⟩:=H;rw [hb] at h2;obtain ⟨cur,hc⟩:=h1.block h2.symm;exact get?_lt hc
 | famx e sz k f i ds=>obtain ⟨xs,Fs,h1,h2,_⟩:=H;rw [hb] at h2;obtain ⟨cur,hc⟩:=h1.block h2.symm;exact get?_lt hc
theorem BoxOK.ltX {M:Mi} {n:Nat} {bx:Box} (H:BoxOK M n bx) (hf:bx.isFam=true) {b:Nat} (hb:M.X n b):b<M.h.size:=by
 cases bx with
 | fam e sz k f =>
   obtain ⟨xs,Fs,h1,h2,h3,_,_,h6,_⟩:=H;obtain ⟨i,hi,hx⟩:=rowsF_of ((h6 b).1 hb);exact OdL.lt _ _ _ (h3 i hi) b hx
 | famx e sz k f i ds =>
   obtain ⟨xs,Fs,h1,h2,h3,_,_,h6,_,_,h8,_⟩:=H;obtain ⟨j,hj,hx⟩:=rowsF_of ((h6 b).1 hb);by_cases e:j=i
   ·subst e;rw [h8] at hx;cases hx
   ·exact OdL.lt _ _ _ (h3 j hj e) b hx
 | _=>cases hf
theorem Mem.blt {Pc:Program} {c:Cx Pc} {M:Mi} {sto:Nat->Box} (H:Mem c M sto) {n b:Nat} (hd:sto n≠.dead) (hb:M.ρ n=some b):b<M.h.size:=(H.box n (H.lt hd)).lt hd hb
theorem Mem.bltO {Pc:Program} {c:Cx Pc} {M:Mi} {sto:Nat->Box} (H:Mem c M sto) {n b:Nat} (hd:sto n≠.dead) (hb:M.O n b):b<M.h.size:=by
 rcases hb with hb | hb
 ·exact H.blt hd hb
 ·cases hf:(sto n).isFam
  ·exact absurd hb (H.non n hd hf b)
  ·exact (H.box n (H.lt hd)).ltX hf hb
theorem BoxOK.mono {M M' : Mi} {n:Nat} {bx:Box} (H:BoxOK M n bx) (hle:M.Le M' false) (hn:n<M.nx) (hblk0:∀ b,M.O n b->M'.h[b]? = M.h[b]?):BoxOK M' n bx:=by
 have hblk:∀ b,M.ρ n=some b->M'.h[b]? = M.h[b]?:=fun b h=>hblk0 b (.inl h)
 have hρ:=hle.ρ rfl n hn;have hX:=hle.X rfl n hn;have hv:=hle.hv rfl n hn
 cases bx with
 | dead=>trivial
 | var l =>
   obtain ⟨b,cs,ty,h1,h2,h3⟩:=H;exact ⟨b,cs,ty,by rw [hρ];exact h1,by rw [hblk b h1];exact h2,RdL.mono hle _ _ h3⟩
 | vec k g =>
   obtain ⟨b,cs,ty,h1,h2,h3,h4⟩:=H;exact ⟨b,cs,ty,by rw [hρ];exact h1,by rw [hblk b h1];exact h2,h3,fun i x hx=>⟨(h4 i x hx).1,Rd.mono hle _ _ (h4 i x hx).2⟩⟩
 | arr e sz k f =>
   obtain ⟨xs,h1,h2,h3,h4⟩:=H;refine ⟨xs,⟨h1.1,?_⟩,by rw [hρ,hv];exact h2,fun i hi=>RdL.mono hle.im _ _ (h3 i hi),h4⟩;rw [hv]
   rcases h1.2 with h | ⟨g,cap,cur,e1,e2,e3⟩
   ·exact .inl h
   ·exact .inr ⟨g,cap,cur,e1,by rw [hblk g (by rw [h2,e1];rfl)];exact e2,e3⟩
 | oar e sz k f =>
   obtain ⟨xs,h1,h2,h3,h4⟩:=H;exact ⟨xs,by rw [hv];exact h1.keep fun b hb=>hblk b (by rw [h2];exact hb),by rw [hρ,hv];exact h2,fun i hi=>RdL.mono hle.im _ _ (h3 i hi),h4⟩
 | gho V g=>exact ⟨by rw [hρ];exact H.1,fun t=>Rd.mono hle _ _ (H.2 t)⟩| ghs V sl=>exact ⟨by rw [hρ];exact H.1,fun t=>Rd.mono hle _ _ (H.2 t)⟩
 | bld ty u q =>
   obtain ⟨b,v,h1,h2,h3,h4⟩:=H;exact ⟨b,v,by rw [hρ];exact h1,by rw [hblk b h1];exact h2,h3,Rd.mono hle _ _ h4⟩
 | blk e sz cap kn f =>
   obtain ⟨h0,b,cs,h1,h2,h3,h4,h5,h6⟩:=H;exact ⟨by rw [hv];exact h0,b,cs,by rw [hρ];exact h1,by rw [hblk b h1];exact h2,h3,h4,h5,fun i hi=>RdL.mono hle.im _ _ (h6 i hi)⟩
 | mp l =>
   obtain ⟨b,h1,h2⟩:=H;exact ⟨b,by rw [hρ];exact h1,by rw [hblk b h1];exact h2⟩
 | mpe l r s =>
   obtain ⟨b,h1,h2⟩:=H;exact ⟨b,by rw [hρ];exact h1,by rw [hblk b h1];exact h2⟩
 | mpd sk kn l =>
   obtain ⟨b,h1,h2⟩:=H;exact ⟨b,by rw [hρ];exact h1,by rw [hblk b h1];exact h2.mono hle.im⟩
 | sar e sz k f =>
   rcases H with ⟨xs,h1,h2,h3,h4⟩ | ⟨h1,⟨a,h2⟩,h3⟩
   ·exact .inl ⟨xs,by rw [hv];exact h1.keep fun b hb=>hblk b (by rw [h2];exact hb),by rw [hρ,hv];exact h2,fun i hi=>RdL.mono hle.im _ _ (h3 i hi),h4⟩
   ·exact .inr ⟨by rw [hρ];exact h1,⟨a,by rw [hv];exact h2⟩,by rw [hv];exact Rd.mono hle.im _ _ h3⟩
 | mit kn l la =>
   obtain ⟨b,h1,bm,es,ck,since,seen,c0,h2,h3,h4,h5⟩:=H;exact ⟨b,by rw [hρ];exact h1,bm,es,ck,since,seen,c0,by rw [hblk b h1];exact h2,hle.S bm h3,by rw [hle.h bm h3];exact h4,h5⟩
 | fam e sz k f =>
   obtain ⟨xs,Fs,h1,h2,h3,h4,h5,h6,h7⟩:=H;exact ⟨xs,Fs,by rw [hv];exact h1.keep fun b hb=>hblk b (by rw [h2];exact hb),by rw [hρ,hv];exact h2,fun i hi=>OdL.mono hle.S hle.h _ _ _ (h3 i hi) fun b hb=>hblk0 b (.inr ((h6 b).2 (rowsF_in hi hb))),h4,h5,fun b=>by rw [hX];exact h6 b,by rw [hv];exact h7⟩
 | famx e sz k f i ds =>
   obtain ⟨xs,Fs,h1,h2,h3,h4,h5,h6,h7,h8,h9,h10⟩:=H;exact ⟨xs,Fs,by rw [hv];exact h1.keep fun b hb=>hblk b (by rw [h2];exact hb),by rw [hρ,hv];exact h2,fun j hj hji=>OdL.mono hle.S hle.h _ _ _ (h3 j hj hji) fun b hb=>hblk0 b (.inr ((h6 b).2 (rowsF_in hj hb))),h4,h5,fun b=>by rw [hX];exact h6 b,by rw [hv];exact h7,h8,h9,RdL.mono hle _ _ h10⟩
 | hot e k f i d =>
   obtain ⟨xs,h1,h2,h3,h4,h5⟩:=H;refine ⟨xs,⟨h1.1,?_⟩,by rw [hρ,hv];exact h2,fun j hj hn=>RdL.mono hle.im _ _ (h3 j hj hn),fun hi=>RdL.mono hle _ _ (h4 hi),h5⟩;rw [hv]
   rcases h1.2 with h | ⟨g,cap,cur,e1,e2,e3⟩
   ·exact .inl h
   ·exact .inr ⟨g,cap,cur,e1,by rw [hblk g (by rw [h2,e1];rfl)];exact e2,e3⟩
theorem Mem.grow {Pc:Program} {c:Cx Pc} {M:Mi} {sto:Nat->Box} (H:Mem c M sto) (S' : Nat->Prop) (h' : Array Obj) (hsz:M.h.size<=h'.size)
 (hold:∀ b,b<M.h.size->h'[b]? = M.h[b]?) (hS:∀ b,M.S b->S' b) (hS' : ∀ b,S' b->M.S b\/(M.h.size<=b/\b<h'.size)) :
 Mem c { M with S:=S',h:=h' } sto/\M.Le { M with S:=S',h:=h' } false:=by
 have hle:M.Le { M with S:=S',h:=h' } false:=⟨hS,fun b hb=>hold b (H.Slt b hb),fun _=>Nat.le_refl _,fun _ _ _=>rfl,fun _ _ _=>rfl,fun _ _ _=>rfl⟩;refine ⟨⟨Nat.le_trans H.size hsz,fun b hb hw=>(hold b (Nat.lt_of_lt_of_le hb H.size)).trans (H.frame b hb hw),fun b hb=>?_,fun b hb=>?_,fun n hn=>?_,H.dead,H.injO,fun n b hd hb hs=>?_,H.frO,H.non⟩,hle⟩
 ·rcases hS' b hb with h | h
  ·exact Nat.lt_of_lt_of_le (H.Slt b h) hsz
  ·exact h.2
 ·rcases hS' b hb with h | h
  ·exact H.Sold b h
  ·exact .inr (.inl (Nat.le_trans H.size h.1))
 ·by_cases hd:sto n = .dead
  ·rw [hd];trivial
  ·exact (H.box n hn).mono hle hn fun b hb=>hold b (H.bltO hd hb)
 ·rcases hS' b hs with h | h
  ·exact H.sepO n b hd hb h
  ·exact absurd (H.bltO hd hb) (Nat.not_lt.2 h.1)
def Mi.giveX (M:Mi) (ob:Option Nat) (v:Value) (Y:Nat->Prop):Mi:={ M with ρ:=upd M.ρ M.nx ob,hv:=upd M.hv M.nx v,nx:=M.nx+1,X:=upd M.X M.nx Y }
def Mi.give (M:Mi) (ob:Option Nat) (v:Value):Mi:={ M with ρ:=upd M.ρ M.nx ob,hv:=upd M.hv M.nx v,nx:=M.nx+1,X:=upd M.X M.nx fun _=>False }
theorem Mi.giveX_le (M:Mi) (ob:Option Nat) (v:Value) (Y:Nat->Prop) (im:Bool):M.Le (M.giveX ob v Y) im :=
 ⟨fun _ h=>h,fun _ _=>rfl,fun _=>Nat.le_succ _,fun _ n hn=>upd_ne _ _ (Nat.ne_of_lt hn),fun _ n hn=>upd_ne _ _ (Nat.ne_of_lt hn),fun _ n hn=>upd_ne _ _ (Nat.ne_of_lt hn)⟩
theorem Mi.give_le (M:Mi) (ob:Option Nat) (v:Value) (im:Bool):M.Le (M.give ob v) im:=M.giveX_le ob v (fun _=>False) im
theorem Mem.adoptX {Pc:Program} {c:Cx Pc} {M:Mi} {sto:Nat->Box} (H:Mem c M sto) (ob:Option Nat) (v:Value) (Y:Nat->Prop) (bx:Box) (hb:BoxOK (M.giveX ob v Y) M.nx bx)
 (hS:∀ b,ob=some b\/Y b->¬ M.S b) (hocc:∀ n b,ob=some b\/Y b->sto n≠.dead->¬ M.O n b) (hfr:∀ b,ob=some b\/Y b->c.w0.heap.size<=b\/c.W0 b) (hY:bx.isFam=false->∀ b,¬ Y b) :
 Mem c (M.giveX ob v Y) (upd sto M.nx bx):=by
 have hle:=M.giveX_le ob v Y false
 have hO:∀ {n b},n≠M.nx->(M.giveX ob v Y).O n b->M.O n b:=fun {n b} e h=>by
  simp only [Mi.O,Mi.giveX,upd_ne _ _ e] at h ⊢;exact h
 have hN:∀ {b},(M.giveX ob v Y).O M.nx b->ob=some b\/Y b:=fun {b} h=>by
  simp only [Mi.O,Mi.giveX,upd_self] at h;exact h
 refine ⟨H.size,H.frame,H.Slt,H.Sold,fun n hn=>?_,fun n hn=>?_,fun n m b hn hm h1 h2=>?_,fun n b hd hb'=>?_,fun n b hd hb'=>?_,fun n hd hf b=>?_⟩
 ·by_cases e:n=M.nx
  ·subst e;rw [upd_self];exact hb
  ·rw [upd_ne _ _ e];have hn' : n<M.nx:=Nat.lt_of_le_of_ne (Nat.le_of_lt_succ hn) e
   exact (H.box n hn').mono hle hn' fun _ _=>rfl
 ·have hn' : M.nx<n:=hn;rw [upd_ne _ _ (Nat.ne_of_gt hn')];exact H.dead n (Nat.le_of_lt hn')
 ·by_cases e:n=M.nx<;>by_cases e' : m=M.nx
  ·rw [e,e']
  ·subst e;rw [upd_ne _ _ e'] at hm;exact absurd (hO e' h2) (hocc m b (hN h1) hm)
  ·subst e';rw [upd_ne _ _ e] at hn;exact absurd (hO e h1) (hocc n b (hN h2) hn)
  ·rw [upd_ne _ _ e] at hn;rw [upd_ne _ _ e'] at hm;exact H.injO n m b hn hm (hO e h1) (hO e' h2)
 ·by_cases e:n=M.nx
  ·subst e;exact hS b (hN hb')
  ·rw [upd_ne _ _ e] at hd;exact H.sepO n b hd (hO e hb')
 ·by_cases e:n=M.nx
  ·subst e;exact hfr b (hN hb')
  ·rw [upd_ne _ _ e] at hd;exact H.frO n b hd (hO e hb')
 ·by_cases e:n=M.nx
  ·subst e;rw [upd_self] at hf;simp only [Mi.giveX,upd_self];exact hY hf b
  ·rw [upd_ne _ _ e] at hd hf;simp only [Mi.giveX,upd_ne _ _ e];exact H.non n hd hf b
theorem Mem.adopt {Pc:Program} {c:Cx Pc} {M:Mi} {sto:Nat->Box} (H:Mem c M sto) (ob:Option Nat) (v:Value) (bx:Box) (hb:BoxOK (M.give ob v) M.nx bx)
 (hS:∀ b,ob=some b->¬ M.S b) (hocc:∀ n b,ob=some b->sto n≠.dead->¬ M.O n b) (hfr:∀ b,ob=some b->c.w0.heap.size<=b\/c.W0 b) :
 Mem c (M.give ob v) (upd sto M.nx bx) :=
 H.adoptX ob v (fun _=>False) bx hb (fun b h=>hS b (h.resolve_right id)) (fun n b h=>hocc n b (h.resolve_right id)) (fun b h=>hfr b (h.resolve_right id)) (fun _ _ h=>h)
theorem Mem.new {Pc:Program} {c:Cx Pc} {M:Mi} {sto:Nat->Box} (H:Mem c M sto) (o:Obj) (v:Value) (bx:Box)
 (hb:BoxOK (({ M with h:=M.h.push o }:Mi).give (some M.h.size) v) M.nx bx) :
 Mem c (({ M with h:=M.h.push o }:Mi).give (some M.h.size) v) (upd sto M.nx bx)/\M.Le (({ M with h:=M.h.push o }:Mi).give (some M.h.size) v) false:=by
 obtain ⟨H1,L1⟩:=H.grow M.S (M.h.push o) (by simp) (fun b hb=>by rw [Array.getElem?_push,if_neg (by omega)]) (fun _ h=>h) (fun _ h=>.inl h);refine ⟨H1.adopt (some M.h.size) v bx hb (fun b hb=>?_) (fun _ b hb hd=>?_) (fun b hb=>?_),?_⟩
 ·cases hb;exact fun hs=>absurd (H.Slt _ hs) (Nat.lt_irrefl _)
 ·cases hb;exact fun he=>absurd (H.bltO hd he) (Nat.lt_irrefl _)
 ·cases hb;exact .inl H.size
 ·exact ⟨fun _ h=>h,L1.h,fun _=>Nat.le_succ _,fun _ n hn=>upd_ne _ _ (Nat.ne_of_lt hn),fun _ n hn=>upd_ne _ _ (Nat.ne_of_lt hn),fun _ n hn=>upd_ne _ _ (Nat.ne_of_lt hn)⟩
theorem Mem.setO {Pc:Program} {c:Cx Pc} {M:Mi} {sto:Nat->Box} (H:Mem c M sto) {n:Nat} (hd:sto n≠.dead) (h' : Array Obj) (hsz:h'.size=M.h.size)
 (hold:∀ k,¬ M.O n k->h'[k]? = M.h[k]?) (bx:Box) (hb:BoxOK { M with h:=h' } n bx) (hX:bx≠.dead->bx.isFam=false->∀ b,¬ M.X n b):Mem c { M with h:=h' } (upd sto n bx)/\M.Le { M with h:=h' } false:=by
 have hle:M.Le { M with h:=h' } false:=⟨fun _ h=>h,fun k hk=>hold k (fun e=>H.sepO n k hd e hk),fun _=>Nat.le_refl _,fun _ _ _=>rfl,fun _ _ _=>rfl,fun _ _ _=>rfl⟩
 have live:∀ m,upd sto n bx m≠.dead->sto m≠.dead:=fun m hm=>by
  by_cases e:m=n
  ·rw [e];exact hd
  ·rw [upd_ne _ _ e] at hm;exact hm
 refine ⟨⟨by rw [hsz];exact H.size,fun k hk hw=>?_,fun k hk=>by rw [hsz];exact H.Slt k hk,H.Sold,fun m hm=>?_,fun m hm=>?_,fun m k l h1 h2=>H.injO m k l (live m h1) (live k h2),fun m k h1=>H.sepO m k (live m h1),fun m k h1=>H.frO m k (live m h1),fun m h1 hf b=>?_⟩,hle⟩
 ·refine (hold k fun ho=>?_).trans (H.frame k hk hw)
  rcases H.frO n k hd ho with h | h
  ·omega
  ·exact hw h
 ·by_cases e:m=n
  ·subst e;rw [upd_self];exact hb
  ·rw [upd_ne _ _ e];by_cases hdm:sto m = .dead
   ·rw [hdm];trivial
   ·exact (H.box m hm).mono hle hm fun k hk=>hold k (fun e'=>e (H.injO m n k hdm hd hk e'))
 ·have:m≠n:=fun e=>by subst e;exact absurd (H.lt hd) (Nat.not_lt.2 hm)
  rw [upd_ne _ _ this];exact H.dead m hm
 ·by_cases e:m=n
  ·subst e;rw [upd_self] at h1 hf;exact hX h1 hf b
  ·rw [upd_ne _ _ e] at h1 hf;exact H.non m h1 hf b
theorem Mem.set {Pc:Program} {c:Cx Pc} {M:Mi} {sto:Nat->Box} (H:Mem c M sto) {n b:Nat} (hd:sto n≠.dead) (hρ:M.ρ n=some b) (h' : Array Obj) (hsz:h'.size=M.h.size)
 (hold:∀ k,k≠b->h'[k]? = M.h[k]?) (bx:Box) (hb:BoxOK { M with h:=h' } n bx) (hX:(sto n).isFam=bx.isFam):Mem c { M with h:=h' } (upd sto n bx)/\M.Le { M with h:=h' } false :=
 H.setO hd h' hsz (fun k hk=>hold k fun e=>hk (.inl (e ▸ hρ))) bx hb fun _ hf=>H.non n hd (hX.trans hf)
theorem Mem.kill {Pc:Program} {c:Cx Pc} {M:Mi} {sto:Nat->Box} (H:Mem c M sto) (n:Nat):Mem c M (upd sto n .dead):=by
 have live:∀ m,upd sto n .dead m≠.dead->sto m≠.dead/\upd sto n .dead m=sto m:=fun m hm=>by
  by_cases e:m=n
  ·subst e;rw [upd_self] at hm;exact absurd rfl hm
  ·rw [upd_ne _ _ e] at hm ⊢;exact ⟨hm,rfl⟩
 refine ⟨H.size,H.frame,H.Slt,H.Sold,fun m hm=>?_,fun m hm=>?_,fun m k l h1 h2=>H.injO m k l (live m h1).1 (live k h2).1,fun m k h1=>H.sepO m k (live m h1).1,fun m k h1=>H.frO m k (live m h1).1,fun m h1 hf=>H.non m (live m h1).1 ((live m h1).2 ▸ hf)⟩
 ·by_cases e:m=n
  ·subst e;rw [upd_self];trivial
  ·rw [upd_ne _ _ e];exact H.box m hm
 ·by_cases e:m=n
  ·subst e;rw [upd_self]
  ·rw [upd_ne _ _ e];exact H.dead m hm
end Sx
namespace Sx
open Go
inductive TK where
 | other | int (k:IntKind) | bool | str | slice (e:Nat) | ptr (e:Nat) | struct (fs:List (Nat × Nat × Nat)) | arr (n e:Nat) | func | map (k e:Nat)
structure TI where
 k:TK
 size:Nat
 bytes:Nat
 zero:D
abbrev Ty:=List (Nat × TI)
def Ty.get:Ty->Nat->TI
 | [],_=>⟨.other,0,0,.any⟩
 | (u,i) :: r,t=>match Nat.beq t u with | true=>i | false=>Ty.get r t
def zchk:D->Value->Bool
 | .int k n,.int k' n'=>k == k' && n == n'| .lit b,.bool b'=>b == b'| .str [],.string s=>s.data.size == 0| .nil,.slice none 0 0=>true| .null,.pointer none=>true| .nilfn,.nilFunc=>true| .agg l,.agg cs=>go l cs.toList
 | .vec n g,.agg cs=>cs.size == n && (List.range n).all fun i=>match cs[i]? with | some x=>x.oneCell' && one (g i) x | none=>false
 | .any,_=>true| _,_=>false
where
 one:D->Value->Bool
  | .int k n,.int k' n'=>k == k' && n == n'| .lit b,.bool b'=>b == b'| .str [],.string s=>s.data.size == 0| .nil,.slice none 0 0=>true| .null,.pointer none=>true| .nilfn,.nilFunc=>true| .any,_=>true| _,_=>false
 go:List D->List Value->Bool
  | [],[]=>true| d :: l,v :: vs=>v.oneCell' && one d v && go l vs| _,_=>false
theorem zchk.one_rd {M:Mi} {im:Bool} {d:D} {v:Value} (h:zchk.one d v=true):Rd M im d v:=by
 unfold zchk.one at h
 split at h<;>simp_all [Rd]
 rfl
theorem zchk.go_rd {M:Mi} {im:Bool}:∀ (l:List D) (vs:List Value),zchk.go l vs=true->RdL M im l vs
 | [],[],_=>by simp [RdL]
 | d :: l,v :: vs,h=>by
   simp only [zchk.go,bat] at h;simp only [RdL];exact ⟨h.1.1,zchk.one_rd h.1.2,zchk.go_rd l vs h.2⟩
 | [],_ :: _,h=>by simp [zchk.go] at h
 | _ :: _,[],h=>by simp [zchk.go] at h
theorem zchk_rd {M:Mi} {im:Bool} {d:D} {v:Value} (h:zchk d v=true):Rd M im d v:=by
 unfold zchk at h;split at h
 ·simp_all [Rd]
 ·simp_all [Rd]
 ·simp_all [Rd];rfl
 ·simp [Rd]
 ·simp [Rd]
 ·simp [Rd]
 ·rename_i l cs;simp only [Rd];exact ⟨cs,rfl,zchk.go_rd _ _ h⟩
 ·rename_i n g cs;simp only [bat,beq_iff_eq,List.all_eq_true,List.mem_range] at h;simp only [Rd];refine ⟨cs,rfl,h.1,fun i x hx=>?_⟩
  have hi:i<n:=by rw [<-h.1];exact (Array.getElem?_eq_some_iff.1 hx).1
  have:=h.2 i hi;simp only [hx,bat] at this;exact ⟨this.1,zchk.one_rd this.2⟩
 ·simp [Rd]
 ·simp at h
def kchk (P:Program):TK->TypeDesc->Bool
 | .int k,.int k'=>k == k'| .bool,.bool=>true| .str,.string=>true| .slice e,.slice e'=>e == e'| .ptr e,.pointer e'=>e == e'
 | .struct fs,.struct fields=>fs.length == fields.size && fs.zipIdx.all fun (x,i)=>match fields[i]? with
   | some f=>f.offset == x.1 && x.2.1 != 0 && f.type == x.2.2 && (match P.info? f.type with | some j=>j.size == x.2.1 | none=>false)| none=>false
 | .arr n e,.array n' e'=>n == n' && e == e'| .func,.func ..=>true| .map k e,.map k' e'=>k == k' && e == e'| .other,_=>true| _,_=>false
def eqchk (P:Program) (t:Nat):Bool :=
 match P.underlying t with
 | some (.struct fields)=>!P.stoodInHeld t && !P.eqGuardType P.depth t && fields.toList.all fun f=>f.name != "_"
 | _=>true
def tichk (P:Program) (t:Nat) (ti:TI):Bool:=(match ti.k with | .struct _=>eqchk P t | _=>true) &&
 match P.info? t,P.underlying t with
 | some i,some d=>i.size == ti.size && i.bytes == ti.bytes && (match i.zero with | some z=>zchk ti.zero z && (z.cells.size == ti.size) | none=>false) && kchk P ti.k d| _,_=>false
def tychk (P:Program) (Γ:Ty):Bool:=Γ.all fun x=>tichk P x.1 x.2
structure TIOK (P:Program) (t:Nat) (ti:TI):Prop where
 ex:∃ i d z,P.info? t=some i/\P.underlying t=some d/\i.size=ti.size/\i.bytes=ti.bytes/\i.zero=some z/\z.cells.size=ti.size/\zchk ti.zero z=true/\kchk P ti.k d=true
 eqs:(match ti.k with | .struct _=>eqchk P t | _=>true)=true
def TyOK (P:Program) (Γ:Ty):Prop:=∀ t,((Γ.get t).k = .other/\(Γ.get t).size=0)\/TIOK P t (Γ.get t)
theorem tyOK {P:Program} {Γ:Ty} (h:tychk P Γ=true):TyOK P Γ:=by
 induction Γ with
 | nil=>intro t;exact .inl ⟨rfl,rfl⟩
 | cons x r ih =>
   obtain ⟨u,i⟩:=x;simp only [tychk,List.all_cons,bat] at h;intro t;simp only [Ty.get,beq_eq];by_cases e:t=u
   ·simp only [e,decide_true];have h1:=h.1;unfold tichk at h1;rw [bat] at h1;refine .inr ⟨?_,h1.1⟩;have h1:=h1.2;split at h1
    ·rename_i j d hj hd;simp only [bat,beq_iff_eq] at h1;obtain ⟨⟨⟨a,b⟩,z⟩,k⟩:=h1
     cases hz:j.zero with
     | none=>simp [hz] at z
     | some y =>
       simp only [hz,bat,beq_iff_eq] at z;exact ⟨j,d,y,hj,hd,a,b,hz,z.2,z.1,k⟩
    ·simp at h1
   ·simp only [e,decide_false];exact ih (by simpa only [tychk] using h.2) t
theorem TyOK.ok {P:Program} {Γ:Ty} (H:TyOK P Γ) {t:Nat} {k:TK} (h:(Γ.get t).k=k) (hk:k≠.other) :
 ∃ i d z,P.info? t=some i/\P.underlying t=some d/\i.size=(Γ.get t).size/\i.bytes=(Γ.get t).bytes/\i.zero=some z/\z.cells.size=(Γ.get t).size/\zchk (Γ.get t).zero z=true/\kchk P k d=true:=by
 rcases H t with h' | h'
 ·exact absurd (h ▸ h'.1) hk
 ·rw [<-h];exact h'.ex
theorem TyOK.eqs {P:Program} {Γ:Ty} (H:TyOK P Γ) {t:Nat} {fs:List (Nat × Nat × Nat)} (h:(Γ.get t).k = .struct fs):eqchk P t=true:=by
 rcases H t with h' | h'
 ·rw [h] at h';exact absurd h'.1 (by simp)
 ·have:=h'.eqs;rw [h] at this;exact this
def D.force (d:D) (K:D->Prop):Prop:=match d with
 | .any=>K .any | .int k n=>K (.int k n) | .lit b=>K (.lit b) | .bool b=>K (.bool b) | .str s=>K (.str s)| .nil=>K .nil | .tab sz n f=>K (.tab sz n f) | .agg l=>K (.agg l) | .vec n g=>K (.vec n g) | .tup l=>K (.tup l) | .ref l=>K (.ref l)| .null=>K .null | .nilfn=>K .nilfn | .val v=>K (.val v) | .fn f c=>K (.fn f c) | .own n=>K (.own n) | .loc n o=>K (.loc n o) | .pel n s i o=>K (.pel n s i o) | .rsl n s a b c=>K (.rsl n s a b c) | .mref n=>K (.mref n) | .mapb l=>K (.mapb l) | .fmap l=>K (.fmap l) | .fmapd a b c e f=>K (.fmapd a b c e f)
 | .ftab a b c e=>K (.ftab a b c e) | .fbox l=>K (.fbox l) | .foar a b c e=>K (.foar a b c e) | .ffam a b c e=>K (.ffam a b c e)
theorem force_eq (d:D) (K:D->Prop):d.force K=K d:=by cases d<;>rfl
def forceL:List D->(List D->Prop)->Prop
 | [],K=>K []
 | d :: l,K=>D.force d fun d=>forceL l fun l=>K (d :: l)
theorem forceL_eq:∀ (l:List D) (K:List D->Prop),forceL l K=K l
 | [],_=>rfl
 | d :: l,K=>by simp only [forceL,force_eq,forceL_eq l]
def takeF:Nat->List D->(List D->Prop)->Prop
 | 0,_,K=>K []
 | n+1,d :: l,K=>D.force d fun d=>takeF n l fun r=>K (d :: r)
 | _+1,[],_=>False
theorem takeF_of:∀ (n:Nat) (l:List D) (K:List D->Prop),takeF n l K->n<=l.length/\K (l.take n)
 | 0,_,_,h=>⟨zle _,by simpa [takeF] using h⟩
 | n+1,d :: l,K,h=>by
   simp only [takeF,force_eq] at h;have:=takeF_of n l _ h;exact ⟨by simpa using this.1,by simpa using this.2⟩
 | _+1,[],_,h=>by simp [takeF] at h
def nthF:List D->Nat->(D->Prop)->Prop
 | [],_,_=>False| d :: _,0,K=>D.force d K| _ :: l,k+1,K=>nthF l k K
theorem nthF_of:∀ (l:List D) (k:Nat) (K:D->Prop),nthF l k K->∃ d,l[k]? = some d/\K d
 | [],_,_,h=>by simp [nthF] at h
 | d :: _,0,K,h=>⟨d,rfl,by simpa [nthF,force_eq] using h⟩
 | _ :: l,k+1,K,h=>by simpa using nthF_of l k K (by simpa [nthF] using h)
def dropF:Nat->List D->List D
 | 0,l=>l| _+1,[]=>[]| n+1,_ :: l=>dropF n l
theorem dropF_eq:∀ (n:Nat) (l:List D),dropF n l=l.drop n
 | 0,l=>by simp [dropF]
 | _+1,[]=>by simp [dropF]
 | n+1,_ :: l=>by simp [dropF,dropF_eq n l]
def zipI (K:D->D->D):List D->List D->List D
 | d :: l,e :: m=>K d e :: zipI K l m| _,_=>[]
def D.ite1 (c:Prop) [Decidable c]:D->D->D
 | .int k x,.int k' y=>match decide (k=k') with | true=>.int k (if c then x else y) | false=>if c then .int k x else .int k' y
 | .str s,.str t=>.str (if c then s else t)| .bool x,.bool y=>.bool (if c then x else y)| .lit x,.lit y=>.bool (if c then x else y)| .bool x,.lit y=>.bool (if c then x else y)| .lit x,.bool y=>.bool (if c then x else y)| .val x,.val y=>.val (if c then x else y)| .nil,.val y=>.val (if c then .slice none 0 0 else y)| .val x,.nil=>.val (if c then x else .slice none 0 0)
 | d,e=>if c then d else e
def iteL1 (c:Prop) [Decidable c] (l m:List D):List D :=
 match Nat.beq l.length m.length with
 | true=>zipI (D.ite1 c) l m
 | false=>if c then l else m
def D.ite (c:Prop) [Decidable c]:D->D->D
 | .tab sz n f,.tab sz' n' f'=>match Nat.beq sz sz' with
   | true=>.tab sz (if c then n else n') fun i=>iteL1 c (f i) (f' i)
   | false=>if c then .tab sz n f else .tab sz' n' f'
 | .nil,.tab sz n f=>.tab sz (if c then 0 else n) f| .tab sz n f,.nil=>.tab sz (if c then n else 0) f| d,e=>D.ite1 c d e
theorem Rd.nil_tab {M:Mi} {im:Bool} {v:Value} (h:Rd M im .nil v) (sz:Nat) (f:Nat->List D):Rd M im (.tab sz 0 f) v:=by
 simp only [Rd] at h ⊢;subst h;exact ⟨none,0,rfl,Nat.le_refl _,fun i hi=>absurd hi (Nat.not_lt_zero i)⟩
theorem Rd.ite1 {M:Mi} {im:Bool} {c:Prop} [Decidable c] {d e:D} {v:Value} (h1:c->Rd M im d v) (h2:¬c->Rd M im e v):Rd M im (D.ite1 c d e) v:=by
 unfold D.ite1;split
 ·rename_i k x k' y;split
  ·rename_i hk
   have hk:k=k':=by simpa using hk
   subst hk;by_cases hc:c
   ·simpa [hc,Rd] using h1 hc
   ·simpa [hc,Rd] using h2 hc
  ·by_cases hc:c
   ·simpa [hc] using h1 hc
   ·simpa [hc] using h2 hc
 all_goals
  by_cases hc:c
  ·have:=h1 hc;simp only [hc,if_true] at *;simpa [Rd] using this
  ·have:=h2 hc;simp only [hc,if_false] at *;simpa [Rd] using this
theorem RdL.zipI {M:Mi} {im:Bool} {c:Prop} [Decidable c]:∀ {l m:List D} {vs:List Value},l.length=m.length->(c->RdL M im l vs)->(¬c->RdL M im m vs)->RdL M im (Sx.zipI (D.ite1 c) l m) vs
 | [],[],vs,_,h1,h2=>by
   by_cases hc:c
   ·simpa [Sx.zipI] using h1 hc
   ·simpa [Sx.zipI] using h2 hc
 | d :: l,e :: m,[],_,h1,h2=>by
   by_cases hc:c
   ·have:=h1 hc;simp [RdL] at this
   ·have:=h2 hc;simp [RdL] at this
 | d :: l,e :: m,v :: vs,hl,h1,h2=>by
   simp only [Sx.zipI,RdL];simp only [RdL] at h1 h2;refine ⟨?_,Rd.ite1 (fun hc=>(h1 hc).2.1) (fun hc=>(h2 hc).2.1),RdL.zipI (by simpa using hl) (fun hc=>(h1 hc).2.2) (fun hc=>(h2 hc).2.2)⟩;by_cases hc:c
   ·exact (h1 hc).1
   ·exact (h2 hc).1
 | [],_ :: _,_,hl,_,_=>by simp at hl
 | _ :: _,[],_,hl,_,_=>by simp at hl
theorem RdL.ite1 {M:Mi} {im:Bool} {c:Prop} [Decidable c] {l m:List D} {vs:List Value} (h1:c->RdL M im l vs) (h2:¬c->RdL M im m vs):RdL M im (iteL1 c l m) vs:=by
 unfold iteL1;split
 ·rename_i h;exact RdL.zipI (nbq h) h1 h2
 ·by_cases hc:c
  ·simpa [hc] using h1 hc
  ·simpa [hc] using h2 hc
theorem Rd.ite {M:Mi} {im:Bool} {c:Prop} [Decidable c] {d e:D} {v:Value} (h1:c->Rd M im d v) (h2:¬c->Rd M im e v):Rd M im (D.ite c d e) v:=by
 unfold D.ite;split
 ·rename_i sz n f sz' n' f';split
  ·rename_i h;have h:=nbq h;subst h;by_cases hc:c
   ·have:=h1 hc;simp only [Rd,hc,if_true] at this ⊢;obtain ⟨a,cap,rfl,hn,hel⟩:=this;refine ⟨a,cap,rfl,hn,fun i hi=>?_⟩;obtain ⟨b,off,ha,hS,vs,hl,hcs,hr⟩:=hel i hi;exact ⟨b,off,ha,hS,vs,hl,hcs,RdL.ite1 (fun _=>hr) (fun h=>absurd trivial h)⟩
   ·have:=h2 hc;simp only [Rd,hc,if_false] at this ⊢;obtain ⟨a,cap,rfl,hn,hel⟩:=this;refine ⟨a,cap,rfl,hn,fun i hi=>?_⟩;obtain ⟨b,off,ha,hS,vs,hl,hcs,hr⟩:=hel i hi;exact ⟨b,off,ha,hS,vs,hl,hcs,RdL.ite1 (fun h=>h.elim) (fun _=>hr)⟩
  ·by_cases hc:c
   ·simpa [hc] using h1 hc
   ·simpa [hc] using h2 hc
 ·by_cases hc:c
  ·simpa only [hc,if_true] using (h1 hc).nil_tab _ _
  ·simpa only [hc,if_false] using h2 hc
 ·by_cases hc:c
  ·simpa only [hc,if_true] using h1 hc
  ·simpa only [hc,if_false] using (h2 hc).nil_tab _ _
 ·exact Rd.ite1 h1 h2
def iteL (c:Prop) [Decidable c] (l m:List D):List D :=
 match Nat.beq l.length m.length with
 | true=>zipI (D.ite c) l m
 | false=>if c then l else m
theorem RdL.zipI2 {M:Mi} {im:Bool} {c:Prop} [Decidable c]:∀ {l m:List D} {vs:List Value},l.length=m.length->(c->RdL M im l vs)->(¬c->RdL M im m vs)->RdL M im (Sx.zipI (D.ite c) l m) vs
 | [],[],vs,_,h1,h2=>by
   by_cases hc:c
   ·simpa [Sx.zipI] using h1 hc
   ·simpa [Sx.zipI] using h2 hc
 | d :: l,e :: m,[],_,h1,h2=>by
   by_cases hc:c
   ·have:=h1 hc;simp [RdL] at this
   ·have:=h2 hc;simp [RdL] at this
 | d :: l,e :: m,v :: vs,hl,h1,h2=>by
   simp only [Sx.zipI,RdL];simp only [RdL] at h1 h2;refine ⟨?_,Rd.ite (fun hc=>(h1 hc).2.1) (fun hc=>(h2 hc).2.1),RdL.zipI2 (by simpa using hl) (fun hc=>(h1 hc).2.2) (fun hc=>(h2 hc).2.2)⟩;by_cases hc:c
   ·exact (h1 hc).1
   ·exact (h2 hc).1
 | [],_ :: _,_,hl,_,_=>by simp at hl
 | _ :: _,[],_,hl,_,_=>by simp at hl
theorem RdL.ite {M:Mi} {im:Bool} {c:Prop} [Decidable c] {l m:List D} {vs:List Value} (h1:c->RdL M im l vs) (h2:¬c->RdL M im m vs):RdL M im (iteL c l m) vs:=by
 unfold iteL;split
 ·rename_i h;exact RdL.zipI2 (nbq h) h1 h2
 ·by_cases hc:c
  ·simpa [hc] using h1 hc
  ·simpa [hc] using h2 hc
def setL:List D->Nat->List D->List D
 | l,_,[]=>l| [],_,_ :: _=>[]| _ :: l,0,v :: vs=>v :: setL l 0 vs| d :: l,k+1,v :: vs=>d :: setL l k (v :: vs)
def setV:List Value->Nat->List Value->List Value
 | l,_,[]=>l| [],_,_ :: _=>[]| _ :: l,0,v :: vs=>v :: setV l 0 vs| d :: l,k+1,v :: vs=>d :: setV l k (v :: vs)
theorem RdL.set {M:Mi} {im:Bool}:∀ {l:List D} {vs:List Value} {k:Nat} {m:List D} {us:List Value},RdL M im l vs->RdL M im m us->RdL M im (setL l k m) (setV vs k us)
 | l,vs,k,[],[],h,_=>by simpa [setL,setV] using h
 | [],[],k,_ :: _,_ :: _,_,_=>by simp [setL,setV,RdL]
 | d :: l,v :: vs,0,e :: m,u :: us,h,h'=>by
   simp only [RdL,setL,setV] at h h' ⊢;exact ⟨h'.1,h'.2.1,RdL.set h.2.2 h'.2.2⟩
 | d :: l,v :: vs,k+1,e :: m,u :: us,h,h'=>by
   have h0:=h;simp only [RdL] at h0;simp only [setL,setV,RdL];exact ⟨h0.1,h0.2.1,RdL.set h0.2.2 h'⟩
 | _,_,_,[],_ :: _,_,h'=>by simp [RdL] at h'
 | _,_,_,_ :: _,[],_,h'=>by simp [RdL] at h'
 | [],_ :: _,_,_ :: _,_ :: _,h,_=>by simp [RdL] at h
 | _ :: _,[],_,_ :: _,_ :: _,h,_=>by simp [RdL] at h
theorem length_setV:∀ (l:List Value) (k:Nat) (m:List Value),(setV l k m).length=l.length
 | l,_,[]=>by simp [setV]
 | [],_,_ :: _=>by simp [setV]
 | _ :: l,0,v :: vs=>by simp [setV,length_setV l 0 vs]
 | d :: l,k+1,v :: vs=>by simp [setV,length_setV l k (v :: vs)]
theorem get_setV:∀ (l:List Value) (k:Nat) (m:List Value) (i:Nat),i<l.length->(setV l k m)[i]? = if k<=i/\i<k+m.length then m[i - k]? else l[i]?
 | l,k,[],i,hi=>by simp only [setV,List.length_nil,Nat.add_zero];rw [if_neg (by omega)]
 | [],_,_ :: _,i,hi=>by simp at hi
 | x :: l,0,v :: vs,0,hi=>by simp [setV]
 | x :: l,0,v :: vs,i+1,hi=>by
   simp only [setV,List.getElem?_cons_succ,zle,true_and,Nat.zero_add,List.length_cons,Nat.sub_zero,Nat.add_lt_add_iff_right];rw [get_setV l 0 vs i (by simpa using hi)];simp
 | x :: l,k+1,v :: vs,0,hi=>by simp [setV]
 | x :: l,k+1,v :: vs,i+1,hi=>by
   simp only [setV,List.getElem?_cons_succ];rw [get_setV l k (v :: vs) i (by simpa using hi)]
   have:i+1 - (k+1)=i - k:=by omega
   rw [this];by_cases h:k<=i/\i<k+(v :: vs).length
   ·rw [if_pos h,if_pos (by simp at h ⊢;omega)]
   ·rw [if_neg h,if_neg (by simp at h ⊢;omega)]
def D.cell:D->Bool
 | .any | .val _ | .agg _ | .vec .. | .tup _ | .ftab .. | .foar .. | .ffam .. | .fbox _ | .fmapd ..=>false| _=>true
theorem Rd.cell {M:Mi} {im:Bool} {d:D} {v:Value} (h:Rd M im d v) (hc:d.cell=true):v.oneCell' = true/\v.cells = #[v]:=by
 cases d<;>simp only [D.cell,bft] at hc<;>simp only [Rd] at h
 all_goals first
  | (subst h;exact ⟨rfl,rfl⟩)
  | (obtain ⟨a,cap,rfl,_⟩:=h;exact ⟨rfl,rfl⟩)
  | (obtain ⟨b,off,rfl,_⟩:=h;exact ⟨rfl,rfl⟩)
  | (obtain ⟨cs,rfl,_⟩:=h;exact ⟨rfl,rfl⟩)
  | (obtain ⟨_,_,b,_,rfl⟩:=h;exact ⟨rfl,rfl⟩)
  | (obtain ⟨_,_,_,a,l,c,rfl⟩:=h;exact ⟨rfl,rfl⟩)
end Sx
namespace Sx
open Go
def Keep (M:Mi) (w:World):Prop:=∀ b,b<M.h.size->w.heap[b]? = M.h[b]?
def Yld (Kp:World->Prop) (P:Program) (M:Mi) (x:Sem Value) (K:D->Prop):Prop:=∃ d v,K d/\Rd M false d v/\∀ w,Kp w->x.run P w = .ok v w
theorem Yld.mk {Kp:World->Prop} {P:Program} {M:Mi} {x:Sem Value} {K:D->Prop} (d:D) (v:Value) (hk:K d) (hr:Rd M false d v) (h:∀ w,Kp w->x.run P w = .ok v w):Yld Kp P M x K:=⟨d,v,hk,hr,h⟩
theorem cell?_at (w:World) (b off:Nat):w.cell? ⟨b,off,none⟩=cellAt w.heap b off:=by
 unfold World.cell? cellAt
 cases w.heap[b]? with
 | none=>rfl
 | some o=>cases o<;>simp
theorem Keep.cellAt {M:Mi} {w:World} (h:Keep M w) {b:Nat} (hb:b<M.h.size) (off:Nat):w.cell? ⟨b,off,none⟩=Sx.cellAt M.h b off:=by
 rw [cell?_at];unfold Sx.cellAt;rw [h b hb]
def bitI (op:BinOp) (k:IntKind) (x y:Int):Int :=
 match op with
 | .and=>k.wrap ((BitVec.ofInt k.bits x &&& BitVec.ofInt k.bits y).toNat)| .or=>k.wrap ((BitVec.ofInt k.bits x ||| BitVec.ofInt k.bits y).toNat)| .xor=>k.wrap ((BitVec.ofInt k.bits x ^^^ BitVec.ofInt k.bits y).toNat)| _=>k.wrap ((BitVec.ofInt k.bits x &&& ~~~BitVec.ofInt k.bits y).toNat)
def intD (op:BinOp) (k:IntKind) (x:Int) (k' : IntKind) (y:Int) (K:D->Prop):Prop :=
 match op with
 | .shl=>Vc (0<=y) (Wr k (x*2 ^ (min y.toNat k.bits)) fun n=>K (.int k n))| .shr=>Vc (0<=y) (K (.int k (x.fdiv (2 ^ (min y.toNat k.bits)))))
 | op=>match decide (k=k') with
   | false=>False
   | true=>match op with
     | .add=>Wr k (x+y) fun n=>K (.int k n)
     | .sub=>Wr k (x - y) fun n=>K (.int k n)
     | .mul=>Wr k (x*y) fun n=>K (.int k n)
     | .quo=>Vc (y≠0) (Wr k (x.tdiv y) fun n=>K (.int k n))| .rem=>Vc (y≠0) (K (.int k (x.tmod y)))| .and=>K (.int k (bitI .and k x y))| .or=>K (.int k (bitI .or k x y))| .xor=>K (.int k (bitI .xor k x y))| .andNot=>K (.int k (bitI .andNot k x y))| .eql=>K (.bool (decide (x=y)))| .neq=>K (.bool (!decide (x=y)))| .lss=>K (.bool (decide (x<y)))| .leq=>K (.bool (decide (x<=y)))| .gtr=>K (.bool (decide (y<x)))
     | .geq=>K (.bool (decide (y<=x)))| _=>False
theorem int_beq (x y:Int):(x == y)=decide (x=y):=by rw [Bool.eq_iff_iff];simp
theorem int_bne (x y:Int):(x != y) = !decide (x=y):=by rw [bne,int_beq]
theorem str_beq (x y:List UInt8):(x == y)=decide (x=y):=by rw [Bool.eq_iff_iff];simp
theorem intD_ok {Kp:World->Prop} {P:Program} {M:Mi} {K:D->Prop} {op:BinOp} {k k' : IntKind} {x y:Int} {t:Nat} (h:intD op k x k' y K):Yld Kp P M (binOp op t (.int k x) (.int k' y)) K:=by
 unfold intD at h;split at h
 ·obtain ⟨h0,h⟩:=h
  exact .mk _ _ h.out rfl fun w _=>by simp [binOp,Op.shift,Int.not_lt.2 h0]
 ·obtain ⟨h0,h⟩:=h
  exact .mk _ _ h rfl fun w _=>by simp [binOp,Op.shift,Int.not_lt.2 h0]
 ·split at h
  ·exact h.elim
  ·rename_i hk
   have hk:k=k':=by simpa using hk
   subst hk;split at h
   ·exact .mk _ _ h.out rfl fun w _=>by simp [binOp,Op.intArith]
   ·exact .mk _ _ h.out rfl fun w _=>by simp [binOp,Op.intArith]
   ·exact .mk _ _ h.out rfl fun w _=>by simp [binOp,Op.intArith]
   ·exact .mk _ _ h.2.out rfl fun w _=>by simp [binOp,Op.intDiv,h.1]
   ·exact .mk _ _ h.2 rfl fun w _=>by simp [binOp,Op.intDiv,h.1]
   ·exact .mk _ _ h rfl fun w _=>by simp [binOp,Op.intBits,bitI]
   ·exact .mk _ _ h rfl fun w _=>by simp [binOp,Op.intBits,bitI]
   ·exact .mk _ _ h rfl fun w _=>by simp [binOp,Op.intBits,bitI]
   ·exact .mk _ _ h rfl fun w _=>by simp [binOp,Op.intBits,bitI]
   ·exact .mk _ _ h rfl fun w _=>by simp [binOp,Op.intCmp,int_beq]
   ·exact .mk _ _ h rfl fun w _=>by simp [binOp,Op.intCmp,int_bne]
   ·exact .mk _ _ h rfl fun w _=>by simp [binOp,Op.intCmp]
   ·exact .mk _ _ h rfl fun w _=>by simp [binOp,Op.intCmp]
   ·exact .mk _ _ h rfl fun w _=>by simp [binOp,Op.intCmp]
   ·exact .mk _ _ h rfl fun w _=>by simp [binOp,Op.intCmp]
   ·exact h.elim
def strD (op:BinOp) (s t:List UInt8) (K:D->Prop):Prop :=
 match op with
 | .add=>Vc (s.length+t.length<=9223372036854775807) (K (.str (s ++ t)))| .eql=>K (.bool (decide (s=t)))| .neq=>K (.bool (!decide (s=t)))| .lss=>K (.bool (Op.bytesLess s t))| .leq=>K (.bool (Op.bytesLess s t || decide (s=t)))| .gtr=>K (.bool (!(Op.bytesLess s t || decide (s=t))))| .geq=>K (.bool (!Op.bytesLess s t))| _=>False
theorem ba_toList (s:List UInt8):ByteArray.toList ⟨s.toArray⟩=s:=by
 rw [ByteArray.toList_eq]
theorem strD_ok {Kp:World->Prop} {P:Program} {M:Mi} {K:D->Prop} {op:BinOp} {s u:List UInt8} {t:Nat} (h:strD op s u K):Yld Kp P M (binOp op t (.string ⟨s.toArray⟩) (.string ⟨u.toArray⟩)) K:=by
 unfold strD at h;have hs:=ba_toList s;have hu:=ba_toList u;split at h
 ·obtain ⟨h0,h⟩:=h
  refine .mk _ _ h rfl fun w _=>?_
  have:¬ (((⟨s.toArray⟩:ByteArray).size+(⟨u.toArray⟩:ByteArray).size:Nat):Int) > IntKind.i64.max:=by
   have e1:(⟨s.toArray⟩:ByteArray).size=s.length:=by simp [ByteArray.size]
   have e2:(⟨u.toArray⟩:ByteArray).size=u.length:=by simp [ByteArray.size]
   rw [e1,e2]
   have:IntKind.i64.max=9223372036854775807:=by decide
   omega
  simp only [binOp,Op.stringOp,if_neg this,Sem.run_pure]
  congr 2
 all_goals first
  | exact .mk _ _ h rfl fun w _=>by simp [binOp,Op.stringOp,hs,hu,str_beq]
  | exact h.elim
end Sx
namespace Sx
open Go
section
variable {P:Program} {M:Mi} {K:D->Prop} {Γ:Ty}
theorem run_loadCells_at (w:World) (b off:Nat) (vs:List Value) (h:∀ j,j<vs.length->w.cell? ⟨b,off+j,none⟩=vs[j]?) :
 (loadCells ⟨b,off,none⟩ vs.length).run P w = .ok vs.toArray w:=by
 have:=run_loadCells_list (P:=P) (w:=w) ⟨b,off,none⟩ vs (fun j v hv=>by
  have hj:j<vs.length:=(List.getElem?_eq_some_iff.1 hv).1
  rw [Addr.add_lit,h j hj];exact hv)
 simpa using this
def TK.isAgg:TK->Bool
 | .struct _ | .arr _ _=>true| _=>false
theorem run_isAgg {t:Nat} {k:TK} {d:TypeDesc} (hu:P.underlying t=some d) (hk:kchk P k d=true) (hko:k≠.other) (w:World):(isAgg t).run P w = .ok k.isAgg w:=by
 unfold isAgg;simp only [Sem.run_bind,run_underlying hu,Result.andThen_ok]
 cases k<;>cases d<;>simp_all [kchk,TK.isAgg]
theorem run_sizeOf {t:Nat} {i:TypeInfo} (hi:P.info? t=some i) (w:World):(Go.sizeOf t).run P w = .ok i.size w:=by
 simp [Go.sizeOf,typeInfo,hi]
theorem run_loadAt (H:TyOK P Γ) {t:Nat} {k:TK} (hk:(Γ.get t).k=k) (hko:k≠.other) (w:World) (b off:Nat) (vs:List Value)
 (hc:∀ j,j<vs.length->w.cell? ⟨b,off+j,none⟩=vs[j]?) (hl:k.isAgg=true->vs.length=(Γ.get t).size) (h1:k.isAgg=false->vs.length=1) :
 (Instr.loadAt t (.pointer (some ⟨b,off,none⟩))).run P w = .ok (if k.isAgg then .agg vs.toArray else vs.getD 0 undef) w:=by
 obtain ⟨i,d,z,hi,hu,hs,_,_,_,_,hkc⟩:=H.ok hk hko;simp only [Instr.loadAt,Instr.sureAddr,loadVar,Sem.run_bind,Sem.run_pure,Result.andThen_ok,run_isAgg hu hkc hko]
 cases hag:k.isAgg
 ·have hl1:=h1 hag
  match vs,hl1 with
  | [v],_ =>
    have:=hc 0 (by simp);simp only [Nat.add_zero,List.getElem?_cons_zero] at this;simp [load,Sem.run,this]
 ·have hl1:=hl hag;simp only [if_true,Sem.run_bind,Sem.run_pure];simp only [run_sizeOf hi,Result.andThen_ok,hs,<-hl1,run_loadCells_at w b off vs hc]
def packD (ti:TI) (l:List D) (K:D->Prop):Prop :=
 match ti.k with
 | .other=>False
 | .struct _=>takeF ti.size l fun l=>K (.agg l)
 | .arr _ _=>takeF ti.size l fun l=>K (.agg l)
 | _=>nthF l 0 K
theorem packD_of {ti:TI} {l:List D} (h:packD ti l K):ti.k≠.other/\((ti.k.isAgg=true/\ti.size<=l.length/\K (.agg (l.take ti.size)))\/(ti.k.isAgg=false/\∃ d r,l=d :: r/\K d)):=by
 unfold packD at h;split at h
 ·exact h.elim
 ·rename_i hk;have:=takeF_of _ _ _ h;exact ⟨by simp [hk],.inl ⟨by simp [hk,TK.isAgg],this.1,this.2⟩⟩
 ·rename_i hk;have:=takeF_of _ _ _ h;exact ⟨by simp [hk],.inl ⟨by simp [hk,TK.isAgg],this.1,this.2⟩⟩
 ·rename_i h1 h2 h3;obtain ⟨d,hd,hK⟩:=nthF_of _ _ _ h;refine ⟨h1,.inr ⟨?_,?_⟩⟩
  ·cases hk:ti.k<;>simp_all [TK.isAgg]
  ·match l,hd with
   | d' :: r,hd=>simp at hd;subst hd;exact ⟨d',r,rfl,hK⟩
theorem packD_ok (H:TyOK P Γ) {t:Nat} {l:List D} (h:packD (Γ.get t) l K) (b off:Nat) (vs:List Value) (im:Bool) (hr:RdL M im l vs) (hb:b<M.h.size)
 (hc:∀ j,j<vs.length->cellAt M.h b (off+j)=vs[j]?):Yld (Keep M) P M (Instr.loadAt t (.pointer (some ⟨b,off,none⟩))) K:=by
 obtain ⟨hko,h⟩:=packD_of h
 have hrf:RdL M false l vs:=by cases im;exact hr;exact hr.im _ _ _
 have hlen:=hrf.length
 rcases h with ⟨hag,hle,hK⟩ | ⟨hag,d,r,rfl,hK⟩
 ·refine .mk _ (.agg (vs.take (Γ.get t).size).toArray) hK (by simp only [Rd];exact ⟨_,rfl,hrf.take _⟩) fun w hw=>?_
  have hlv:(vs.take (Γ.get t).size).length=(Γ.get t).size:=by simp;omega
  rw [run_loadAt H rfl hko w b off (vs.take (Γ.get t).size) (fun j hj=>?_) (fun _=>hlv) (fun h0=>by rw [hag] at h0;cases h0),if_pos hag];rw [hw.cellAt hb,hc j (by simp at hj;omega),List.getElem?_take,if_pos (by simp at hj;omega)]
 ·match vs,hrf with
  | v :: us,hrf =>
    simp only [RdL] at hrf
    refine .mk d v hK hrf.2.1 fun w hw=>?_
    rw [run_loadAt H rfl hko w b off [v] (fun j hj=>?_) (fun h0=>by rw [hag] at h0;cases h0) (fun _=>rfl),if_neg (by simp [hag])]
    ·rfl
    ·have:j=0:=by simp at hj;omega
     subst this;rw [hw.cellAt hb,hc 0 (by simp)];rfl
def vecL (ti:TI) (m:Nat) (g:Nat->D) (off:Nat) (K:D->Prop):Prop :=
 match ti.k with
 | .other=>False| .struct _=>False
 | .arr _ _=>match Nat.beq off 0,Nat.beq m ti.size with
   | true,true=>K (.vec m g)| _,_=>False
 | _=>Vc (off<m) (D.force (g off) K)
def D.plain:D->D
 | .ftab ..=>.any| .foar ..=>.any| .ffam ..=>.any| .fbox _=>.any| .fmap _=>.any| .fmapd ..=>.any| .agg _=>.any| .tup _=>.any| .fn ..=>.any| d=>d
def plainL:List D->List D
 | []=>[]| d :: l=>d.plain :: plainL l
theorem Od.plain {M:Mi} {d:D} {v:Value} {F:List Nat} (h:Od M d v F):Rd M true d.plain v:=by
 cases d<;>simp only [D.plain]<;>first
  | (simp [Rd];done)
  | (simp only [Od] at h;exact h.1)
theorem OdL.plain {M:Mi}:∀ {l:List D} {vs:List Value} {F:List Nat},OdL M l vs F->RdL M true (plainL l) vs
 | [],[],_,_=>by simp [plainL,RdL]
 | d :: l,v :: vs,F,h=>by
   simp only [OdL] at h;obtain ⟨h1,F1,F2,rfl,h2,h3⟩:=h;simp only [plainL,RdL];exact ⟨h1,h2.plain,h3.plain⟩
 | [],_ :: _,_,h=>by simp [OdL] at h
 | _ :: _,[],_,h=>by simp [OdL] at h
def loadD (Γ:Ty) (sto:Nat->Box) (t:Nat) (a:D) (K:D->Prop):Prop :=
 match a with
 | .loc n off=>match sto n with
   | .var l=>packD (Γ.get t) (dropF off l) K| .vec m g=>vecL (Γ.get t) m g off K
   | .bld _ _ q=>match off with
     | 1=>packD (Γ.get t) [q] K| _=>False
   | _=>False
 | .ref l=>packD (Γ.get t) l K
 | .pel n sz i off=>match sto n with
   | .arr _ sz' k f=>match Nat.beq sz sz' with
     | true=>Vc (i<k) (packD (Γ.get t) (dropF off (f i)) K)| false=>False
   | .oar _ sz' k f=>match Nat.beq sz sz' with
     | true=>Vc (i<k) (packD (Γ.get t) (dropF off (f i)) K)| false=>False
   | .blk _ sz' _ kn f=>match Nat.beq sz sz' with
     | true=>Vc (i<kn) (packD (Γ.get t) (dropF off (f i)) K)| false=>False
   | .fam _ sz' k f=>match Nat.beq sz sz' with
     | true=>Vc (i<k) (packD (Γ.get t) (dropF off (plainL (f i))) K)| false=>False
   | .famx _ sz' k f i' ds=>match Nat.beq sz sz' with
     | true=>Vc (i=i') (packD (Γ.get t) (dropF off ds) K)| false=>False
   | .hot _ k f i' d=>match Nat.beq sz 1 with
     | true=>Vc (i<k) (Br (decide (i=i')=true) (packD (Γ.get t) (dropF off [d]) K) (decide (i=i')=false) (Vc (i<i') (packD (Γ.get t) (dropF off (f i)) K)))| false=>False
   | _=>False
 | _=>False
theorem cells_drop {h:Array Obj} {b off k:Nat} {vs:List Value} (hc:∀ j,j<vs.length->cellAt h b (off+j)=vs[j]?):∀ j,j<(vs.drop k).length->cellAt h b (off+k+j)=(vs.drop k)[j]?:=by
 intro j hj;have:=hc (k+j) (by simp at hj;omega);rw [List.getElem?_drop,<-this,Nat.add_assoc]
theorem cells_block {h:Array Obj} {b:Nat} {cs:Array Value} {ty:Nat} {fr:Nat × Nat} (hb:h[b]? = some (.cells cs ty fr)) (off:Nat):∀ j,j<(cs.toList.drop off).length->cellAt h b (off+j)=(cs.toList.drop off)[j]?:=by
 intro j _;rw [List.getElem?_drop];unfold cellAt;rw [hb];simp
theorem OwnsH.cells {h:Array Obj} {e sz k:Nat} {v:Value} {xs:List Value} (H:OwnsH h e sz v k xs) {b:Nat} (hb:v.ownBlock=some b):∀ j,j<xs.length->cellAt h b j=xs[j]?:=by
 rcases H.2 with ⟨rfl,_⟩ | ⟨g,cap,cur,rfl,hg,_,_,_,ht⟩
 ·simp [Value.ownBlock] at hb
 ·simp only [Value.ownBlock,Option.some.injEq] at hb;subst hb;intro j hj;rw [<-ht] at hj ⊢;simp only [List.length_take] at hj;unfold cellAt;rw [hg,List.getElem?_take,if_pos (by omega)];simp
theorem OwnsH.hoff {h:Array Obj} {e sz k:Nat} {v:Value} {xs:List Value} (H:OwnsH h e sz v k xs):Sx.hoff v=0:=by
 rcases H.2 with ⟨rfl,_⟩ | ⟨g,cap,cur,rfl,_⟩<;>rfl
theorem OwnsO.cells {h:Array Obj} {e sz k:Nat} {v:Value} {xs:List Value} (H:OwnsO h e sz v k xs) {b:Nat} (hb:v.ownBlock=some b):∀ j,j<xs.length->cellAt h b (Sx.hoff v+j)=xs[j]?:=by
 rcases H.2 with ⟨rfl,_⟩ | ⟨g,o,cap,cur,rfl,hg,_,_,_,ht⟩
 ·simp [Value.ownBlock] at hb
 ·simp only [Value.ownBlock,Option.some.injEq] at hb;subst hb;intro j hj;rw [<-ht] at hj ⊢;simp only [List.length_take] at hj;simp only [cellAt,hg,Sx.hoff];rw [List.getElem?_take,if_pos (by omega),List.getElem?_drop];simp
theorem arr_cellsO {xs:List Value} {h:Array Obj} {b o sz i k:Nat} (hx:xs.length=k*sz) (hi:i<k) (hc:∀ j,j<xs.length->cellAt h b (o+j)=xs[j]?) :
 ((xs.drop (i*sz)).take sz).length=sz/\∀ j,j<((xs.drop (i*sz)).take sz).length->cellAt h b (o+i*sz+j)=((xs.drop (i*sz)).take sz)[j]?:=by
 have h1:i*sz+sz<=k*sz:=by rw [<-Nat.succ_mul];exact Nat.mul_le_mul_right _ hi
 have hl:((xs.drop (i*sz)).take sz).length=sz:=by simp;omega
 refine ⟨hl,fun j hj=>?_⟩;rw [hl] at hj;rw [List.getElem?_take,if_pos hj,List.getElem?_drop,Nat.add_assoc];exact hc _ (by omega)
theorem arr_cells {xs:List Value} {h:Array Obj} {b sz i k:Nat} (hx:xs.length=k*sz) (hi:i<k) (hc:∀ j,j<xs.length->cellAt h b j=xs[j]?) :
 ((xs.drop (i*sz)).take sz).length=sz/\∀ j,j<((xs.drop (i*sz)).take sz).length->cellAt h b (i*sz+j)=((xs.drop (i*sz)).take sz)[j]?:=by
 have h1:i*sz+sz<=k*sz:=by rw [<-Nat.succ_mul];exact Nat.mul_le_mul_right _ hi
 have hl:((xs.drop (i*sz)).take sz).length=sz:=by simp;omega
 refine ⟨hl,fun j hj=>?_⟩;rw [hl] at hj;rw [List.getElem?_take,if_pos hj,List.getElem?_drop];exact hc _ (by omega)
theorem loadD_ok (H:TyOK P Γ) {Pc:Program} {c:Cx Pc} {sto:Nat->Box} (HM:Mem c M sto) {t:Nat} {a:D} {v:Value} (h:loadD Γ sto t a K) (hv:Rd M false a v):Yld (Keep M) P M (Instr.loadAt t v) K:=by
 unfold loadD at h;split at h
 ·rename_i n off;simp only [Rd] at hv;obtain ⟨_,hn,b,hρ,rfl⟩:=hv;split at h
  ·rename_i l hs;have hb:=HM.box n hn;rw [hs] at hb;obtain ⟨b',cs,ty,h1,h2,h3⟩:=hb;rw [hρ] at h1;cases h1;rw [dropF_eq] at h;exact packD_ok H h b off (cs.toList.drop off) false (h3.drop off) (get?_lt h2) (cells_block h2 off)
  ·rename_i m g hs;have hb:=HM.box n hn;rw [hs] at hb;obtain ⟨b',cs,ty,h1,h2,h3,h4⟩:=hb;rw [hρ] at h1;cases h1;unfold vecL at h;have hlt:=get?_lt h2;split at h
   ·exact h.elim
   ·exact h.elim
   ·rename_i hk;split at h
    ·rename_i e1 e2;have e1:=nbq e1;have e2:=nbq e2;subst e1
     refine .mk _ (.agg cs) h (by simp only [Rd];exact ⟨cs,rfl,h3,h4⟩) fun w hw=>?_
     rw [run_loadAt H hk (by simp) w b 0 cs.toList (fun j hj=>?_) (fun _=>by simp;omega) (fun h0=>by simp [TK.isAgg] at h0)]
     ·simp [TK.isAgg]
     ·rw [hw.cellAt hlt];have:=cells_block h2 0 j (by simpa using hj);simpa using this
    ·exact h.elim
   ·rename_i hk1 hk2 hk3;obtain ⟨hm,h⟩:=h;rw [force_eq] at h
    have hoff:off<cs.size:=by omega
    have hget:cs[off]? = some cs[off]:=by simp [hoff]
    have hrd:=h4 off cs[off] hget
    have hna:(Γ.get t).k.isAgg=false:=by cases hk:(Γ.get t).k<;>simp_all [TK.isAgg]
    refine .mk _ cs[off] h hrd.2 fun w hw=>?_
    rw [run_loadAt H rfl hk1 w b off [cs[off]] (fun j hj=>?_) (fun h0=>by rw [hna] at h0;cases h0) (fun _=>rfl),if_neg (by simp [hna])]
    ·rfl
    ·have:j=0:=by simp at hj;omega
     subst this;rw [hw.cellAt hlt];unfold cellAt;rw [h2];simp [hoff]
  ·rename_i ty u q hs;have hb:=HM.box n hn;rw [hs] at hb;obtain ⟨b',x,h1,h2,h3,h4⟩:=hb;rw [hρ] at h1;cases h1;split at h
   ·exact packD_ok H h b 1 [x] false (by simp only [RdL];exact ⟨h3,h4,trivial⟩) (get?_lt h2) (fun j hj=>by
     obtain rfl:j=0:=by simpa using hj
     unfold cellAt
     rw [h2];simp)
   ·exact h.elim
  ·exact h.elim
 ·rename_i l;simp only [Rd] at hv;obtain ⟨b,off,rfl,hS,vs,hc,hr⟩:=hv;exact packD_ok H h b off vs true hr (HM.Slt b hS) hc
 ·rename_i n sz i off;simp only [Rd] at hv;obtain ⟨_,hn,b,hρ,rfl⟩:=hv;split at h
  ·rename_i e sz' k f hs;have hb:=HM.box n hn;rw [hs] at hb;obtain ⟨xs,h1,h2,h3,h4⟩:=hb;split at h
   ·rename_i e1;have e1:=nbq e1;subst e1;obtain ⟨hi,h⟩:=h;rw [hρ] at h2;obtain ⟨cur,hblk⟩:=h1.block h2.symm;have hcs:=arr_cells h1.1 hi (h1.cells h2.symm);rw [dropF_eq] at h;rw [h1.hoff,Nat.zero_add];exact packD_ok H h b (i*sz+off) _ true ((h3 i hi).drop off) (get?_lt hblk) (cells_drop hcs.2)
   ·exact h.elim
  ·rename_i e sz' k f hs;have hb:=HM.box n hn;rw [hs] at hb;obtain ⟨xs,h1,h2,h3,h4⟩:=hb;split at h
   ·rename_i e1;have e1:=nbq e1;subst e1;obtain ⟨hi,h⟩:=h;rw [hρ] at h2;obtain ⟨cur,hblk⟩:=h1.block h2.symm;have hcs:=arr_cellsO h1.1 hi (h1.cells h2.symm);rw [dropF_eq] at h;rw [<-Nat.add_assoc];exact packD_ok H h b (hoff (M.hv n)+i*sz+off) _ true ((h3 i hi).drop off) (get?_lt hblk) (cells_drop hcs.2)
   ·exact h.elim
  ·rename_i e sz' cap kn f hs;have hb:=HM.box n hn;rw [hs] at hb;obtain ⟨h0,b',cs,h1,h2,h3,h4,h5,h6⟩:=hb;rw [hρ] at h1;cases h1;split at h
   ·rename_i e1;have e1:=nbq e1;subst e1;obtain ⟨hi,h⟩:=h;have hcb:=cells_block h2 0;simp only [List.drop_zero,Nat.zero_add] at hcb;have hcs:=arr_cells (xs:=cs.toList) (k:=cap) (by simpa using h3) (Nat.lt_of_lt_of_le hi h4) hcb;rw [dropF_eq] at h;rw [h0,Nat.zero_add];exact packD_ok H h b (i*sz+off) _ true ((h6 i hi).drop off) (get?_lt h2) (cells_drop hcs.2)
   ·exact h.elim
  ·rename_i e sz' k f hs;have hb:=HM.box n hn;rw [hs] at hb;obtain ⟨xs,Fs,h1,h2,h3,h4,_⟩:=hb;split at h
   ·rename_i e1;have e1:=nbq e1;subst e1;obtain ⟨hi,h⟩:=h;rw [hρ] at h2;obtain ⟨cur,hblk⟩:=h1.block h2.symm;have hcs:=arr_cells h1.1 hi (h1.cells h2.symm);rw [dropF_eq] at h;rw [h1.hoff,Nat.zero_add];exact packD_ok H h b (i*sz+off) _ true ((h3 i hi).plain.drop off) (get?_lt hblk) (cells_drop hcs.2)
   ·exact h.elim
  ·rename_i e sz' k f i' ds hs;have hb:=HM.box n hn;rw [hs] at hb;obtain ⟨xs,Fs,h1,h2,h3,h4,h5,h6,h7,h8,h9,h10⟩:=hb;split at h
   ·rename_i e1;have e1:=nbq e1;subst e1;obtain ⟨hi,h⟩:=h;subst hi;rw [hρ] at h2;obtain ⟨cur,hblk⟩:=h1.block h2.symm;have hcs:=arr_cells h1.1 h8 (h1.cells h2.symm);rw [dropF_eq] at h;rw [h1.hoff,Nat.zero_add];exact packD_ok H h b (i*sz+off) _ false (h10.drop off) (get?_lt hblk) (cells_drop hcs.2)
   ·exact h.elim
  ·rename_i e k f i' d hs;have hb:=HM.box n hn;rw [hs] at hb;obtain ⟨xs,h1,h2,h3,h4,h5⟩:=hb;split at h
   ·rename_i e1;have e1:=nbq e1;subst e1;obtain ⟨hi,h⟩:=h;rw [hρ] at h2;obtain ⟨cur,hblk⟩:=h1.block h2.symm;have hcs:=arr_cells h1.1 hi (h1.cells h2.symm);rw [h1.hoff,Nat.zero_add];by_cases hii:i=i'
    ·have hq:=h.l (decide_eq_true hii);clear h;subst hii;rw [dropF_eq] at hq;exact packD_ok H hq b (i*1+off) _ false ((h4 hi).drop off) (get?_lt hblk) (cells_drop hcs.2)
    ·obtain ⟨hlt,hq⟩:=h.r (decide_eq_false hii);rw [dropF_eq] at hq;exact packD_ok H hq b (i*1+off) _ true ((h3 i hi hlt).drop off) (get?_lt hblk) (cells_drop hcs.2)
   ·exact h.elim
  ·exact h.elim
 ·exact h.elim
end
end Sx
namespace Sx
open Go
section
variable {Kp:World->Prop} {P:Program} {M:Mi} {K:D->Prop} {Γ:Ty}
def nth3:List (Nat × Nat × Nat)->Nat->(Nat->Nat->Nat->Prop)->Prop
 | [],_,_=>False| (o,s,t) :: _,0,K=>K o s t| _ :: l,k+1,K=>nth3 l k K
theorem nth3_of:∀ (l:List (Nat × Nat × Nat)) (k:Nat) (K:Nat->Nat->Nat->Prop),nth3 l k K->∃ o s t,l[k]? = some (o,s,t)/\K o s t
 | [],_,_,h=>by simp [nth3] at h
 | (o,s,t) :: _,0,K,h=>⟨o,s,t,rfl,h⟩
 | _ :: l,k+1,K,h=>by simpa using nth3_of l k K (by simpa [nth3] using h)
theorem struct_field {fs:List (Nat × Nat × Nat)} {d:TypeDesc} (h:kchk P (.struct fs) d=true) {k o s t:Nat} (hk:fs[k]? = some (o,s,t)) :
 ∃ (fields:Array Field) (f:Field) (j:TypeInfo),d = .struct fields/\fields[k]? = some f/\f.offset=o/\f.type=t/\P.info? t=some j/\j.size=s/\s≠0:=by
 cases d<;>simp only [kchk,bft] at h
 rename_i fields;simp only [bat,List.all_eq_true] at h
 have hm:((o,s,t),k) ∈ fs.zipIdx:=by rw [List.mem_zipIdx_iff_getElem?];exact hk
 have h1:=h.2 _ hm;simp only at h1
 cases hf:fields[k]? with
 | none=>simp [hf] at h1
 | some f =>
   simp only [hf,bat,beq_iff_eq,bne_iff_ne] at h1;obtain ⟨⟨⟨a,b⟩,c⟩,e⟩:=h1
   cases hj:P.info? f.type with
   | none=>simp [hj] at e
   | some j =>
     simp only [hj,beq_iff_eq] at e;exact ⟨fields,f,j,rfl,hf,a,c,by rw [<-c];exact hj,e,b⟩
def faddrD (Γ:Ty) (t:Nat) (a:D) (f:Nat) (K:D->Prop):Prop :=
 match (Γ.get t).k with
 | .struct fs=>nth3 fs f fun o _ _=>match a with
   | .loc n off=>K (.loc n (off+o))| .ref l=>K (.ref (dropF o l))| .pel n sz i off=>K (.pel n sz i (off+o))| _=>False
 | _=>False
theorem run_fieldAt (H:TyOK P Γ) {t:Nat} {fs:List (Nat × Nat × Nat)} (hk:(Γ.get t).k = .struct fs) {f o s u:Nat} (hf:fs[f]? = some (o,s,u)) (b off:Nat) (w:World) :
 (Instr.fieldAt t (.pointer (some ⟨b,off,none⟩)) f).run P w = .ok (.pointer (some ⟨b,off+o,none⟩)) w:=by
 obtain ⟨i,d,z,hi,hu,_,_,_,_,_,hkc⟩:=H.ok hk (by simp);obtain ⟨fields,fl,j,rfl,h1,h2,h3,h4,h5,h6⟩:=struct_field hkc hf;simp only [Instr.fieldAt,Sem.run_bind,run_underlying hu,Result.andThen_ok,h1,Instr.sureAddr,Sem.run_pure,fieldPlace,h3,run_sizeOf h4,h5,if_neg h6,h2,Addr.add_lit]
theorem faddrD_ok (H:TyOK P Γ) {t f:Nat} {a:D} {v:Value} (h:faddrD Γ t a f K) (hv:Rd M false a v):Yld Kp P M (Instr.fieldAt t v f) K:=by
 unfold faddrD at h;split at h
 ·rename_i fs hk;obtain ⟨o,s,u,hf,h⟩:=nth3_of _ _ _ h;split at h
  ·simp only [Rd] at hv;obtain ⟨hi,hn,b,hρ,rfl⟩:=hv
   exact .mk _ _ h (by simp only [Rd];exact ⟨hi,hn,b,hρ,rfl⟩) fun w _=>run_fieldAt H hk hf _ _ w
  ·rename_i l;simp only [Rd] at hv;obtain ⟨b,off,rfl,hS,vs,hc,hr⟩:=hv
   exact .mk _ _ h (by simp only [Rd,dropF_eq];exact ⟨b,off+o,rfl,hS,vs.drop o,cells_drop hc,hr.drop o⟩) fun w _=>run_fieldAt H hk hf _ _ w
  ·simp only [Rd] at hv;obtain ⟨hi,hn,b,hρ,rfl⟩:=hv
   exact .mk _ _ h (by simp only [Rd];exact ⟨hi,hn,b,hρ,rfl⟩) fun w _=>by rw [run_fieldAt H hk hf _ _ w];simp only [Nat.add_assoc]
  ·exact h.elim
 ·exact h.elim
theorem Ty.known (H:TyOK P Γ) {e:Nat} (h:(Γ.get e).size≠0):∃ i,P.info? e=some i/\i.size=(Γ.get e).size:=by
 rcases H e with h' | h'
 ·exact absurd h'.2 h
 ·obtain ⟨i,d,z,hi,_,hs,_⟩:=h'.ex;exact ⟨i,hi,hs⟩
def szB (Γ:Ty) (e sz:Nat):Bool:=match Nat.beq (Γ.get e).size sz,Nat.beq sz 0 with
 | true,false=>true| _,_=>false
theorem szB_of (H:TyOK P Γ) {e sz:Nat} (h:szB Γ e sz=true):(Γ.get e).size=sz/\sz≠0/\∃ i,P.info? e=some i/\i.size=sz:=by
 unfold szB at h;split at h
 ·rename_i h1 h2;have h1:=nbq h1;have h2:=Nat.ne_of_beq_eq_false h2;obtain ⟨i,hi,hs⟩:=Ty.known H (e:=e) (by omega);exact ⟨h1,h2,i,hi,by omega⟩
 ·cases h
def iaddrD (Γ:Ty) (sto:Nat->Box) (t:Nat) (a i:D) (K:D->Prop):Prop :=
 match (Γ.get t).k with
 | .slice e=>match a,i with
   | .tab sz n f,.int _ k=>match szB Γ e sz with
     | true=>Vc (0<=k/\k<n) (K (.ref (f k.toNat)))| false=>False
   | .own m,.int _ k=>match sto m with
     | .arr _ sz n _=>match szB Γ e sz with
       | true=>Vc (0<=k/\k<n) (K (.pel m sz k.toNat 0))| false=>False
     | .oar _ sz n _=>match szB Γ e sz with
       | true=>Vc (0<=k/\k<n) (K (.pel m sz k.toNat 0))| false=>False
     | .fam _ sz n _=>match szB Γ e sz with
       | true=>Vc (0<=k/\k<n) (K (.pel m sz k.toNat 0))| false=>False
     | .famx _ sz n _ _ _=>match szB Γ e sz with
       | true=>Vc (0<=k/\k<n) (K (.pel m sz k.toNat 0))| false=>False
     | .hot _ n _ _ _=>match szB Γ e 1 with
       | true=>Vc (0<=k/\k<n) (K (.pel m 1 k.toNat 0))| false=>False
     | _=>False
   | .rsl m sz off ln _,.int _ k=>match sto m with
     | .blk _ sz' _ _ _=>match szB Γ e sz,Nat.beq sz sz' with
       | true,true=>Vc (0<=k/\k<ln) (K (.pel m sz (off+k.toNat) 0))| _,_=>False
     | _=>False
   | _,_=>False
 | .arr len e=>match szB Γ e (Γ.get e).size with
   | true=>match a,i with
     | .loc n off,.int _ k=>Vc (0<=k/\k<len) (K (.loc n (off+k.toNat*(Γ.get e).size)))| .ref l,.int _ k=>Vc (0<=k/\k<len) (K (.ref (dropF (k.toNat*(Γ.get e).size) l)))| _,_=>False
   | false=>False
 | _=>False
theorem run_indexAt_slice (H:TyOK P Γ) {t e sz:Nat} (hk:(Γ.get t).k = .slice e) (hs:szB Γ e sz=true) (b off n cap:Nat) (kk:IntKind) (k:Int) (h0:0<=k) (h1:k<n) (w:World) :
 (Instr.indexAt t (.slice (some ⟨b,off,none⟩) n cap) (.int kk k)).run P w = .ok (.pointer (some ⟨b,off+k.toNat*sz,none⟩)) w:=by
 obtain ⟨i,d,z,hi,hu,_,_,_,_,_,hkc⟩:=H.ok hk (by simp);obtain ⟨_,_,j,hj,hjs⟩:=szB_of H hs
 cases d<;>simp only [kchk,bft] at hkc
 have hkc:=by simpa using hkc
 subst hkc;simp only [Instr.indexAt,asIntOf,Sem.run_bind,Sem.run_pure,Result.andThen_ok,run_underlying hu];simp only [h0,h1,and_self,if_true,Sem.run_bind,run_sizeOf hj,Result.andThen_ok,Sem.run_pure,hjs,Addr.add_lit]
theorem run_indexAt_arr (H:TyOK P Γ) {t e len sz:Nat} (hk:(Γ.get t).k = .arr len e) (hs:szB Γ e sz=true) (b off:Nat) (kk:IntKind) (k:Int) (h0:0<=k) (h1:k<len) (w:World) :
 (Instr.indexAt t (.pointer (some ⟨b,off,none⟩)) (.int kk k)).run P w = .ok (.pointer (some ⟨b,off+k.toNat*sz,none⟩)) w:=by
 obtain ⟨i,d,z,hi,hu,_,_,_,_,_,hkc⟩:=H.ok hk (by simp);obtain ⟨_,_,j,hj,hjs⟩:=szB_of H hs
 cases d<;>simp only [kchk,bft] at hkc
 have hkc:=by simpa using hkc
 obtain ⟨rfl,rfl⟩:=hkc;simp only [Instr.indexAt,asIntOf,Sem.run_bind,Sem.run_pure,Result.andThen_ok,run_underlying hu,Instr.sureAddr];simp only [h0,h1,and_self,if_true,Sem.run_bind,run_sizeOf hj,Result.andThen_ok,Sem.run_pure,hjs,Addr.add_lit]
theorem iaddrD_ok (H:TyOK P Γ) {Pc:Program} {c:Cx Pc} {sto:Nat->Box} (HM:Mem c M sto) {t:Nat} {a i:D} {v x:Value} (h:iaddrD Γ sto t a i K) (hv:Rd M false a v) (hx:Rd M false i x):Yld Kp P M (Instr.indexAt t v x) K:=by
 unfold iaddrD at h;split at h
 ·rename_i e hk;split at h
  ·rename_i sz n f kk k;simp only [Rd] at hx;subst hx;split at h
   ·rename_i hs;obtain ⟨⟨h0,h1⟩,h⟩:=h;simp only [Rd] at hv;obtain ⟨ad,cap,rfl,hn,hel⟩:=hv;obtain ⟨b,off,rfl,hS,vs,hl,hc,hr⟩:=hel k.toNat (by omega)
    exact .mk _ _ h (by simp only [Rd];exact ⟨b,off+k.toNat*sz,rfl,hS,vs,hc,hr⟩) fun w _=>run_indexAt_slice H hk hs b off n cap kk k h0 h1 w
   ·exact h.elim
  ·rename_i m kk k;simp only [Rd] at hx;subst hx;split at h
   ·rename_i e' sz n f hsto;split at h
    ·rename_i hs;obtain ⟨⟨h0,h1⟩,h⟩:=h;simp only [Rd] at hv;obtain ⟨_,hm,rfl,ad,l,cp,hvv⟩:=hv;have hb:=HM.box m hm;rw [hsto] at hb;obtain ⟨xs,o1,o2,o3,o4⟩:=hb
     rcases o1.2 with ⟨hnil,hn0⟩ | ⟨g,cap,cur,hg,hblk,hnc,hcm,hcs,ht⟩
     ·omega
     ·rw [hg]
      have hρ:M.ρ m=some g:=by rw [o2,hg];rfl
      exact .mk _ _ h (by simp only [Rd];exact ⟨trivial,hm,g,hρ,rfl⟩) fun w _=>by
       rw [run_indexAt_slice H hk hs g 0 n cap kk k h0 h1 w];simp [hoff,hg]
    ·exact h.elim
   ·rename_i e' sz n f hsto;split at h
    ·rename_i hs;obtain ⟨⟨h0,h1⟩,h⟩:=h;simp only [Rd] at hv;obtain ⟨_,hm,rfl,ad,l,cp,hvv⟩:=hv;have hb:=HM.box m hm;rw [hsto] at hb;obtain ⟨xs,o1,o2,o3,o4⟩:=hb
     rcases o1.2 with ⟨hnil,hn0⟩ | ⟨g,o,cap,cur,hg,hblk,hnc,hcm,hcs,ht⟩
     ·omega
     ·rw [hg]
      have hρ:M.ρ m=some g:=by rw [o2,hg];rfl
      exact .mk _ _ h (by simp only [Rd];exact ⟨trivial,hm,g,hρ,rfl⟩) fun w _=>by
       rw [run_indexAt_slice H hk hs g o n cap kk k h0 h1 w];simp [hoff,hg]
    ·exact h.elim
   ·rename_i e' sz n f hsto;split at h
    ·rename_i hs;obtain ⟨⟨h0,h1⟩,h⟩:=h;simp only [Rd] at hv;obtain ⟨_,hm,rfl,ad,l,cp,hvv⟩:=hv;have hb:=HM.box m hm;rw [hsto] at hb;obtain ⟨xs,Fs,o1,o2,_⟩:=hb
     rcases o1.2 with ⟨hnil,hn0⟩ | ⟨g,cap,cur,hg,hblk,hnc,hcm,hcs,ht⟩
     ·omega
     ·rw [hg]
      have hρ:M.ρ m=some g:=by rw [o2,hg];rfl
      exact .mk _ _ h (by simp only [Rd];exact ⟨trivial,hm,g,hρ,rfl⟩) fun w _=>by
       rw [run_indexAt_slice H hk hs g 0 n cap kk k h0 h1 w];simp [hoff,hg]
    ·exact h.elim
   ·rename_i e' sz n f i' ds hsto;split at h
    ·rename_i hs;obtain ⟨⟨h0,h1⟩,h⟩:=h;simp only [Rd] at hv;obtain ⟨_,hm,rfl,ad,l,cp,hvv⟩:=hv;have hb:=HM.box m hm;rw [hsto] at hb;obtain ⟨xs,Fs,o1,o2,_⟩:=hb
     rcases o1.2 with ⟨hnil,hn0⟩ | ⟨g,cap,cur,hg,hblk,hnc,hcm,hcs,ht⟩
     ·omega
     ·rw [hg]
      have hρ:M.ρ m=some g:=by rw [o2,hg];rfl
      exact .mk _ _ h (by simp only [Rd];exact ⟨trivial,hm,g,hρ,rfl⟩) fun w _=>by
       rw [run_indexAt_slice H hk hs g 0 n cap kk k h0 h1 w];simp [hoff,hg]
    ·exact h.elim
   ·rename_i e' n f i' d' hsto;split at h
    ·rename_i hs;obtain ⟨⟨h0,h1⟩,h⟩:=h;simp only [Rd] at hv;obtain ⟨_,hm,rfl,ad,l,cp,hvv⟩:=hv;have hb:=HM.box m hm;rw [hsto] at hb;obtain ⟨xs,o1,o2,_⟩:=hb
     rcases o1.2 with ⟨hnil,hn0⟩ | ⟨g,cap,cur,hg,hblk,hnc,hcm,hcs,ht⟩
     ·omega
     ·rw [hg]
      have hρ:M.ρ m=some g:=by rw [o2,hg];rfl
      exact .mk _ _ h (by simp only [Rd];exact ⟨trivial,hm,g,hρ,rfl⟩) fun w _=>by
       rw [run_indexAt_slice H hk hs g 0 n cap kk k h0 h1 w];simp [hoff,hg]
    ·exact h.elim
   ·exact h.elim
  ·rename_i m sz off ln cp kk k;simp only [Rd] at hx;subst hx;split at h
   ·rename_i e' sz' cap kn f hsto;split at h
    ·rename_i hs e1;have e1:=nbq e1;subst e1;obtain ⟨⟨h0,h1⟩,h⟩:=h;simp only [Rd] at hv;obtain ⟨_,hm,b,hρ,rfl⟩:=hv;have hb:=HM.box m hm;rw [hsto] at hb;have hz:=hb.1
     exact .mk _ _ h (by simp only [Rd];exact ⟨trivial,hm,b,hρ,rfl⟩) fun w _=>by
      rw [run_indexAt_slice H hk hs b (off*sz) ln cp kk k h0 h1 w,hz,Nat.zero_add,Nat.add_zero,Nat.add_mul]
    ·exact h.elim
   ·exact h.elim
  ·exact h.elim
 ·rename_i len e hk;split at h
  ·rename_i hs;split at h
   ·rename_i n off kk k;simp only [Rd] at hx hv;subst hx;obtain ⟨hi,hn,b,hρ,rfl⟩:=hv
    exact .mk _ _ h.2 (by simp only [Rd];exact ⟨hi,hn,b,hρ,rfl⟩) fun w _=>run_indexAt_arr H hk hs b off kk k h.1.1 h.1.2 w
   ·rename_i l kk k;simp only [Rd] at hx hv;subst hx;obtain ⟨b,off,rfl,hS,vs,hc,hr⟩:=hv
    exact .mk _ _ h.2 (by simp only [Rd,dropF_eq];exact ⟨b,off+k.toNat*(Γ.get e).size,rfl,hS,vs.drop _,cells_drop hc,hr.drop _⟩) fun w _=>run_indexAt_arr H hk hs b off kk k h.1.1 h.1.2 w
   ·exact h.elim
  ·exact h.elim
 ·exact h.elim
theorem ba_get (s:List UInt8) (k:Nat) (h:k<s.length):(⟨s.toArray⟩:ByteArray)[k]? = some (s.getD k 0):=by
 have e1:(⟨s.toArray⟩:ByteArray).size=s.length:=by simp [ByteArray.size]
 rw [getElem?_pos (⟨s.toArray⟩:ByteArray) k (by omega)]
 congr 1
 show s.toArray[k]=_
 simp [List.getD,h]
def arrIxD (len:Nat) (a i:D) (K:D->Prop):Prop:=match a,i with
 | .vec n g,.int _ k=>Vc (0<=k/\k<len/\k<n) (D.force (g k.toNat) K)| .agg l,.int _ k=>Vc (0<=k/\k<len) (nthF l k.toNat K)| _,_=>False
def arrSxD (ti:TI) (len:Nat) (a i:D) (K:D->Prop):Prop:=match a,i with
 | .agg l,.int _ k=>Vc (0<=k/\k<len) (Lf (fun j:Nat=>k=j) fun j=>packD ti (dropF (j*ti.size) l) K)| _,_=>False
def indexD (Γ:Ty) (t:Nat) (a i:D) (K:D->Prop):Prop :=
 match (Γ.get t).k with
 | .str=>match a,i with
   | .str s,.int _ k=>Vc (0<=k/\k<s.length) (K (.int .u8 (s.getD k.toNat 0).toNat))| _,_=>False
 | .arr len e=>match szB Γ e 1,(Γ.get e).k with
   | true,.other=>False| true,.struct _=>False| true,.arr ..=>False| true,_=>arrIxD len a i K| false,.struct _=>arrSxD (Γ.get e) len a i K| false,_=>False
 | _=>False
theorem run_part_one (H:TyOK P Γ) {e:Nat} (hne:(Γ.get e).k≠.other) (hna:(Γ.get e).k.isAgg=false) (cs:Array Value) (j:Nat) (x:Value) (hx:cs[j]? = some x) (w:World):(part e cs j).run P w = .ok x w:=by
 obtain ⟨i,d,z,hi,hu,_,_,_,_,_,hkc⟩:=H.ok (t:=e) rfl hne;simp only [part,Sem.run_bind,run_isAgg hu hkc hne,hna,Result.andThen_ok,bft,if_false,hx,Sem.run_pure]
theorem run_index_arr (H:TyOK P Γ) {t e len:Nat} (hk:(Γ.get t).k = .arr len e) (hs:szB Γ e 1=true) (hne:(Γ.get e).k≠.other) (hna:(Γ.get e).k.isAgg=false) (cs:Array Value) (kk:IntKind) (k:Int) (h0:0<=k) (h1:k<len) (x:Value)
 (hx:cs[k.toNat]? = some x) (w:World):(Instr.index t (.agg cs) (.int kk k)).run P w = .ok x w:=by
 obtain ⟨i,d,z,hi,hu,_,_,_,_,_,hkc⟩:=H.ok hk (by simp);obtain ⟨_,_,j,hj,hjs⟩:=szB_of H hs
 cases d<;>simp only [kchk,bft] at hkc
 have hkc:=by simpa using hkc
 obtain ⟨rfl,rfl⟩:=hkc;simp only [Instr.index,asIntOf,Sem.run_bind,Sem.run_pure,Result.andThen_ok,run_underlying hu,h0,h1,and_self,if_true,run_sizeOf hj,hjs,Nat.mul_one,run_part_one H hne hna cs _ x hx]
theorem arrIxD_ok (H:TyOK P Γ) {t e len:Nat} (hk:(Γ.get t).k = .arr len e) (hs:szB Γ e 1=true) (hne:(Γ.get e).k≠.other) (hna:(Γ.get e).k.isAgg=false) {a i:D} {v x:Value}
 (h:arrIxD len a i K) (hv:Rd M false a v) (hx:Rd M false i x):Yld Kp P M (Instr.index t v x) K:=by
 unfold arrIxD at h;split at h
 ·rename_i n g kk k;simp only [Rd] at hv hx;obtain ⟨cs,rfl,hn,hel⟩:=hv;subst hx;obtain ⟨⟨h0,h1,h2⟩,h⟩:=h;rw [force_eq] at h
  have hlt:k.toNat<cs.size:=by omega
  have hget:cs[k.toNat]? = some cs[k.toNat]:=by simp [hlt]
  exact .mk _ _ h (hel _ _ hget).2 fun w _=>run_index_arr H hk hs hne hna cs kk k h0 h1 _ hget w
 ·rename_i l kk k;simp only [Rd] at hv hx;obtain ⟨cs,rfl,hr⟩:=hv;subst hx;obtain ⟨⟨h0,h1⟩,h⟩:=h;obtain ⟨d,hd,h⟩:=nthF_of _ _ _ h;have hlen:=hr.length
  have hlt:k.toNat<cs.size:=by
   have:=(List.getElem?_eq_some_iff.1 hd).1;simp at hlen;omega
  have hget:cs[k.toNat]? = some cs[k.toNat]:=by simp [hlt]
  have:=hr.get hd (show cs.toList[k.toNat]? = some cs[k.toNat] by rw [Array.getElem?_toList];exact hget)
  exact .mk _ _ h this.2 fun w _=>run_index_arr H hk hs hne hna cs kk k h0 h1 _ hget w
 ·exact h.elim
theorem indexD_ok (H:TyOK P Γ) {t:Nat} {a i:D} {v x:Value} (h:indexD Γ t a i K) (hv:Rd M false a v) (hx:Rd M false i x):Yld Kp P M (Instr.index t v x) K:=by
 unfold indexD at h;split at h
 ·rename_i hk;split at h
  ·rename_i s kk k;simp only [Rd] at hv hx;subst hv hx;obtain ⟨⟨h0,h1⟩,h⟩:=h
   refine .mk _ _ h rfl fun w _=>?_
   obtain ⟨i,d,z,hi,hu,_,_,_,_,_,hkc⟩:=H.ok hk (by simp)
   cases d<;>simp only [kchk,bft] at hkc
   have hlt:k.toNat<s.length:=by omega
   have hget:=ba_get s k.toNat hlt;simp only [Instr.index,asIntOf,Sem.run_bind,Sem.run_pure,Result.andThen_ok,run_underlying hu,h0,if_true,hget]
  ·exact h.elim
 ·rename_i len e hk;split at h
  ·exact h.elim
  ·exact h.elim
  ·exact h.elim
  ·rename_i hs h1 h2 h3;refine arrIxD_ok H hk hs h1 ?_ h hv hx
   cases hke:(Γ.get e).k<;>simp_all [TK.isAgg]
  ·rename_i fs hsz hke;unfold arrSxD at h;split at h
   ·rename_i l kk k;simp only [Rd] at hv hx;obtain ⟨cs,rfl,hr⟩:=hv;subst hx;obtain ⟨⟨h0,h1⟩,⟨j,hj,h⟩⟩:=h;subst hj;rw [dropF_eq] at h;obtain ⟨hko,h⟩:=packD_of h;obtain ⟨i',d',z',hi',hu',hs',_,_,_,_,hkc'⟩:=H.ok (t:=e) rfl hko;obtain ⟨i,d,z,hi,hu,_,_,_,_,_,hkc⟩:=H.ok hk (by simp)
    cases d<;>simp only [kchk,bft] at hkc
    have hkc:=by simpa using hkc
    obtain ⟨rfl,rfl⟩:=hkc
    rcases h with ⟨hag,hle,hK⟩ | ⟨hag,_⟩
    ·refine .mk _ (.agg (cs.extract (j*(Γ.get e).size) (j*(Γ.get e).size+(Γ.get e).size))) hK ?_ fun w _=>?_
     ·simp only [Rd];refine ⟨_,rfl,?_⟩;have:=(hr.drop (j*(Γ.get e).size)).take (Γ.get e).size;simpa [Array.toList_extract,List.extract_eq_take_drop] using this
     ·simp only [Instr.index,asIntOf,Sem.run_bind,Sem.run_pure,Result.andThen_ok,run_underlying hu,h0,h1,and_self,if_true,run_sizeOf hi',hs',part,run_isAgg hu' hkc' hko,hag,tnc]
    ·rw [hke] at hag;simp [TK.isAgg] at hag
   ·exact h.elim
  ·exact h.elim
 ·exact h.elim
end
end Sx
namespace Sx
open Go
inductive Lk where
 | i (k:IntKind) | b | s
def Lk.ok:Lk->Value->Prop
 | .i k,v=>∃ n,v = .int k n| .b,v=>∃ x,v = .bool x| .s,v=>∃ x:List UInt8,v = .string ⟨x.toArray⟩
def okL:List Lk->List Value->Prop
 | [],[]=>True| k :: l,v :: vs=>k.ok v/\okL l vs| _,_=>False
def eqV:Value->Value->Bool
 | .int _ a,.int _ b=>a == b| .bool a,.bool b=>a == b| .string a,.string b=>a.toList == b.toList| _,_=>false
def eqVs:List Value->List Value->Bool
 | x :: xs,y :: ys=>eqV x y && eqVs xs ys| _,_=>true
theorem okL.length:∀ {l:List Lk} {vs:List Value},okL l vs->l.length=vs.length
 | [],[],_=>rfl
 | _ :: l,_ :: vs,h=>by simp [okL.length h.2]
 | [],_ :: _,h=>h.elim| _ :: _,[],h=>h.elim
theorem okL.split:∀ {l m:List Lk} {vs:List Value},okL (l ++ m) vs->okL l (vs.take l.length)/\okL m (vs.drop l.length)
 | [],m,vs,h=>⟨by simp [okL],by simpa using h⟩
 | k :: l,m,v :: vs,h=>by
   have:=okL.split h.2;exact ⟨⟨h.1,this.1⟩,by simpa using this.2⟩
 | _ :: _,_,[],h=>h.elim
theorem eqVs_app:∀ {l m:List Value} {xs ys:List Value},l.length=xs.length->eqVs (l ++ m) (xs ++ ys)=(eqVs l xs && eqVs m ys)
 | [],m,[],ys,_=>by simp [eqVs]
 | a :: l,m,x :: xs,ys,h=>by
   simp only [List.cons_append,eqVs];rw [eqVs_app (by simpa using h),Bool.and_assoc]
 | [],_,_ :: _,_,h=>by simp at h
 | _ :: _,_,[],_,h=>by simp at h
def flatF (f:Nat->Option (List Lk)):List (Nat × Nat × Nat)->Nat->Option (List Lk)
 | [],_=>some []
 | (o,s,u) :: r,k=>match Nat.beq o k with
   | true=>match f u with
     | some l=>match Nat.beq l.length s with
       | true=>match flatF f r (k+s) with
         | some m=>some (l ++ m)| none=>none
       | false=>none
     | none=>none
   | false=>none
def flatG (Γ:Ty):Nat->Nat->Option (List Lk)
 | 0,_=>none
 | n+1,t=>match (Γ.get t).k with
   | .int k=>some [.i k]| .bool=>some [.b]| .str=>some [.s]| .struct fs=>flatF (flatG Γ n) fs 0| _=>none
def TK.isStr:TK->Bool
 | .struct _=>true| _=>false
def topV (Γ:Ty) (t:Nat) (xs:List Value):Value:=match (Γ.get t).k.isStr,xs with
 | true,xs=>.agg xs.toArray| false,[x]=>x| false,_=>undef
section
variable {P:Program} {Γ:Ty}
theorem flat_one {n t:Nat} {ks:List Lk} (h:flatG Γ n t=some ks) (hs:(Γ.get t).k.isStr=false):∃ k,ks = [k]/\(Γ.get t).k≠.other/\(Γ.get t).k.isAgg=false:=by
 cases n with
 | zero=>simp [flatG] at h
 | succ n =>
   unfold flatG at h;split at h
   all_goals first
    | (rename_i hk;cases h;exact ⟨_,rfl,by rw [hk];simp,by rw [hk];rfl⟩)
    | (rename_i hk;rw [hk] at hs;cases hs)
    | cases h
theorem run_part_flat (H:TyOK P Γ) {n u:Nat} {ks:List Lk} (h:flatG Γ n u=some ks) (hsz:ks.length=(Γ.get u).size) {xs:List Value} {o:Nat} (hx:okL ks ((xs.drop o).take ks.length)) (w:World) :
 (part u xs.toArray o).run P w = .ok (topV Γ u ((xs.drop o).take ks.length)) w:=by
 cases hs:(Γ.get u).k.isStr with
 | true =>
   have hko:(Γ.get u).k≠.other:=fun e=>by rw [e] at hs;cases hs
   have hag:(Γ.get u).k.isAgg=true:=by cases hk:(Γ.get u).k<;>rw [hk] at hs<;>first | rfl | cases hs
   obtain ⟨i',d',z',hi',hu',hs',_,_,_,_,hkc'⟩:=H.ok (t:=u) rfl hko;simp only [part,Sem.run_bind,run_isAgg hu' hkc' hko,hag,Result.andThen_ok,if_true,run_sizeOf hi',hs',Sem.run_pure,topV,hs,hsz]
   congr 2
   apply Array.ext';simp [List.extract_eq_take_drop]
 | false =>
   obtain ⟨k,rfl,hko,hag⟩:=flat_one h hs;have hl:=hx.length
   match hd:(xs.drop o).take [k].length with
   | []=>rw [hd] at hl;simp at hl
   | _ :: _ :: _=>rw [hd] at hl;simp at hl
   | [x] =>
     have hx0:xs.toArray[o]? = some x:=by
      rw [List.getElem?_toArray];have:=congrArg (fun l:List Value=>l[0]?) hd;simpa [List.getElem?_take,List.getElem?_drop] using this
     rw [run_part_one H hko hag xs.toArray o x hx0 w];simp [topV,hs]
structure FdOK (P:Program) (Γ:Ty) (fs:List (Nat × Nat × Nat)) (L:List Field):Prop where
 len:fs.length=L.length
 at_:∀ (i o s u:Nat),fs[i]? = some (o,s,u)->∃ f:Field,L[i]? = some f/\f.offset=o/\f.type=u/\f.name≠ "_"/\((Γ.get u).k≠.other->(Γ.get u).size=s)
theorem FdOK.tail {fs:List (Nat × Nat × Nat)} {L:List Field} {x:Nat × Nat × Nat} {f:Field} (h:FdOK P Γ (x :: fs) (f :: L)):FdOK P Γ fs L :=
 ⟨by simpa using h.len,fun i o s u hi=>by simpa using h.at_ (i+1) o s u (by simpa using hi)⟩
theorem FdOK.of (H:TyOK P Γ) {t:Nat} {fs:List (Nat × Nat × Nat)} (hk:(Γ.get t).k = .struct fs):P.underlying t=some (.struct (P.fieldsOf t))/\P.stoodInHeld t=false/\P.eqGuardType P.depth t=false/\FdOK P Γ fs (P.fieldsOf t).toList:=by
 obtain ⟨i,d,z,hi,hu,_,_,_,_,_,hkc⟩:=H.ok hk (by simp);have he:=H.eqs hk
 cases d<;>simp only [kchk,bft] at hkc
 rename_i fields
 have hf:P.fieldsOf t=fields:=by simp [Program.fieldsOf,hu]
 simp only [eqchk,hu,bat,Bool.not_eq_true',List.all_eq_true,bne_iff_ne] at he;simp only [bat,List.all_eq_true,beq_iff_eq] at hkc;refine ⟨by rw [hf];exact hu,he.1.1,he.1.2,by rw [hf,Array.length_toList];exact hkc.1,fun i o s u hi=>?_⟩
 have hm:((o,s,u),i) ∈ fs.zipIdx:=by rw [List.mem_zipIdx_iff_getElem?];exact hi
 have h1:=hkc.2 _ hm;simp only at h1
 cases hfi:fields[i]? with
 | none=>simp [hfi] at h1
 | some f =>
   simp only [hfi,bat,beq_iff_eq,bne_iff_ne] at h1;obtain ⟨⟨⟨a,b⟩,c⟩,e⟩:=h1;refine ⟨f,by rw [hf,Array.getElem?_toList];exact hfi,a,c,he.2 f (by rw [Array.mem_toList_iff];exact Array.mem_of_getElem? hfi),fun hko=>?_⟩;obtain ⟨i',d',z',hi',_,hs',_⟩:=H.ok (t:=u) rfl hko;rw [c,hi'] at e;simp only [beq_iff_eq] at e;rw [<-hs',e]
theorem flat_ne {n t:Nat} {ks:List Lk} (h:flatG Γ n t=some ks):(Γ.get t).k≠.other:=fun e=>by
 cases n with
 | zero=>simp [flatG] at h| succ n=>simp [flatG,e] at h
mutual
theorem run_equalIn_flat (H:TyOK P Γ) (d:Nat):∀ (n t:Nat) (ks:List Lk),flatG Γ n t=some ks->∀ (xs ys:List Value),okL ks xs->okL ks ys->∀ w,(Op.equalIn (d+n) t (topV Γ t xs) (topV Γ t ys)).run P w = .ok (eqVs xs ys) w
 | 0,t,ks,h,_,_,_,_,_=>by simp [flatG] at h
 | n+1,t,ks,h,xs,ys,hx,hy,w=>by
   have hko:=flat_ne h;unfold flatG at h;split at h
   ·rename_i k hk;cases h;obtain ⟨i,dd,z,hi,hu,_,_,_,_,_,hkc⟩:=H.ok hk (by simp)
    cases dd<;>simp only [kchk,bft] at hkc
    match xs,ys,hx,hy with
    | [x],[y],hx,hy =>
      obtain ⟨⟨a,rfl⟩,_⟩:=hx;obtain ⟨⟨b,rfl⟩,_⟩:=hy;simp only [topV,hk,TK.isStr,eqVs,eqV,Bool.and_true];exact run_equalIn_int w (d+n) t k _ a b hu
   ·rename_i hk;cases h;obtain ⟨i,dd,z,hi,hu,_,_,_,_,_,hkc⟩:=H.ok hk (by simp)
    cases dd<;>simp only [kchk,bft] at hkc
    match xs,ys,hx,hy with
    | [x],[y],hx,hy =>
      obtain ⟨⟨a,rfl⟩,_⟩:=hx;obtain ⟨⟨b,rfl⟩,_⟩:=hy;simp only [topV,hk,TK.isStr,eqVs,eqV,Bool.and_true];exact run_equalIn_bool' w (d+n) t a b hu
   ·rename_i hk;cases h;obtain ⟨i,dd,z,hi,hu,_,_,_,_,_,hkc⟩:=H.ok hk (by simp)
    cases dd<;>simp only [kchk,bft] at hkc
    match xs,ys,hx,hy with
    | [x],[y],hx,hy =>
      obtain ⟨⟨a,rfl⟩,_⟩:=hx;obtain ⟨⟨b,rfl⟩,_⟩:=hy;simp only [topV,hk,TK.isStr,eqVs,eqV,Bool.and_true];exact run_equalIn_string w (d+n) t _ _ hu
   ·rename_i fs hk;obtain ⟨hu,hp,_,hfd⟩:=FdOK.of H hk;simp only [topV,hk,TK.isStr];rw [show d+(n+1)=(d+n)+1 from rfl,run_equalIn_struct w (d+n) t xs.toArray ys.toArray hu hp];have:=run_eqFields_flat H d n fs (P.fieldsOf t).toList 0 ks hfd h xs ys (by simpa using hx) (by simpa using hy) w;simpa using this
   ·cases h
theorem run_eqFields_flat (H:TyOK P Γ) (d:Nat) (n:Nat):∀ (fs:List (Nat × Nat × Nat)) (L:List Field) (k:Nat) (ks:List Lk),FdOK P Γ fs L->flatF (flatG Γ n) fs k=some ks->∀ (xs ys:List Value),okL ks (xs.drop k)->okL ks (ys.drop k)->∀ w,
 (Op.eqFields (d+n) xs.toArray ys.toArray L).run P w = .ok (eqVs (xs.drop k) (ys.drop k)) w
 | [],[],k,ks,_,h,xs,ys,hx,hy,w=>by
   simp only [flatF,Option.some.injEq] at h;subst h
   match hd:xs.drop k,hx with
   | [],_=>simp [Op.eqFields,eqVs]
 | [],_ :: _,_,_,hf,_,_,_,_,_,_=>by have:=hf.len;simp at this
 | _ :: _,[],_,_,hf,_,_,_,_,_,_=>by have:=hf.len;simp at this
 | (o,s,u) :: fs,f :: L,k,ks,hf,h,xs,ys,hx,hy,w=>by
   obtain ⟨f',hf0,h1,h2,h3,h4⟩:=hf.at_ 0 o s u rfl;simp only [List.getElem?_cons_zero,Option.some.injEq] at hf0;subst hf0;simp only [flatF] at h;split at h
   case h_2=>cases h
   rename_i ho;have ho:=nbq ho;subst ho;split at h
   case h_2=>cases h
   rename_i l hl;split at h
   case h_2=>cases h
   rename_i hs;have hs:=nbq hs;split at h
   case h_2=>cases h
   rename_i m hm;cases h
   have hsz:l.length=(Γ.get u).size:=by rw [h4 (flat_ne hl)];exact hs
   obtain ⟨x1,x2⟩:=hx.split;obtain ⟨y1,y2⟩:=hy.split;have p1:=run_part_flat H hl hsz x1 w;have p2:=run_part_flat H hl hsz y1 w;have e:=run_equalIn_flat H d n u l hl _ _ x1 y1 w;have x2':=x2;have y2':=y2;rw [List.drop_drop] at x2 y2;rw [hs] at x2 y2;have r:=run_eqFields_flat H d n fs L (o+s) m hf.tail hm xs ys x2 y2 w
   have ex:xs.drop o=(xs.drop o).take l.length ++ xs.drop (o+s):=by rw [<-hs,<-List.drop_drop];exact (List.take_append_drop _ _).symm
   have ey:ys.drop o=(ys.drop o).take l.length ++ ys.drop (o+s):=by rw [<-hs,<-List.drop_drop];exact (List.take_append_drop _ _).symm
   have hlen:((xs.drop o).take l.length).length=((ys.drop o).take l.length).length:=by rw [<-x1.length,<-y1.length]
   have hg:eqVs (xs.drop o) (ys.drop o)=(eqVs ((xs.drop o).take l.length) ((ys.drop o).take l.length) && eqVs (xs.drop (o+s)) (ys.drop (o+s))):=by
    rw [<-eqVs_app hlen,<-ex,<-ey]
   simp only [Op.eqFields,h3,ne_eq,not_false_eq_true,if_true,Sem.run_bind,h2,h1,p1,p2,e,Result.andThen_ok];rw [hg]
   cases hb:eqVs ((xs.drop o).take l.length) ((ys.drop o).take l.length) with
   | false=>simp| true=>simpa using r
end
end
def eqDS:List Lk->List D->List D->(p:Prop)->Decidable p->((q:Prop)->Decidable q->Prop)->Prop
 | [],[],[],p,i,K=>K p i
 | .i k :: ks,.int k1 x :: l,.int k2 y :: m,p,i,K=>match decide (k1=k),decide (k2=k) with
   | true,true=>eqDS ks l m (p/\x=y) (@instDecidableAnd _ _ i (Int.instDecidableEq x y)) K| _,_=>False
 | .s :: ks,.str x :: l,.str y :: m,p,i,K=>eqDS ks l m (p/\x=y) (@instDecidableAnd _ _ i (instDecidableEqList x y)) K| .b :: ks,.lit x :: l,.lit y :: m,p,i,K=>eqDS ks l m (p/\x=y) (@instDecidableAnd _ _ i (instDecidableEqBool x y)) K| .b :: ks,.lit x :: l,.bool y :: m,p,i,K=>eqDS ks l m (p/\x=y) (@instDecidableAnd _ _ i (instDecidableEqBool x y)) K| .b :: ks,.bool x :: l,.lit y :: m,p,i,K=>eqDS ks l m (p/\x=y) (@instDecidableAnd _ _ i (instDecidableEqBool x y)) K
 | .b :: ks,.bool x :: l,.bool y :: m,p,i,K=>eqDS ks l m (p/\x=y) (@instDecidableAnd _ _ i (instDecidableEqBool x y)) K| _,_,_,_,_,_=>False
def eqD0:List Lk->List D->List D->((q:Prop)->Decidable q->Prop)->Prop
 | .i k :: ks,.int k1 x :: l,.int k2 y :: m,K=>match decide (k1=k),decide (k2=k) with
   | true,true=>eqDS ks l m (x=y) (Int.instDecidableEq x y) K| _,_=>False
 | .s :: ks,.str x :: l,.str y :: m,K=>eqDS ks l m (x=y) (instDecidableEqList x y) K| _,_,_,_=>False
theorem eqDS_ok {M:Mi} {im:Bool}:∀ (ks:List Lk) (l m:List D) (xs ys:List Value) (p:Prop) (i:Decidable p) (K:(q:Prop)->Decidable q->Prop),RdL M im l xs->RdL M im m ys->eqDS ks l m p i K ->
 ∃ q j,K q j/\okL ks xs/\okL ks ys/\@decide q j=(@decide p i && eqVs xs ys)
 | [],[],[],xs,ys,p,i,K,hx,hy,h=>by
   cases xs with
   | cons=>simp [RdL] at hx
   | nil=>cases ys with
     | cons=>simp [RdL] at hy| nil=>exact ⟨p,i,h,trivial,trivial,by simp [eqVs]⟩
 | .i k :: ks,.int k1 x :: l,.int k2 y :: m,v :: xs,u :: ys,p,i,K,hx,hy,h=>by
   simp only [RdL,Rd] at hx hy;obtain ⟨_,rfl,hx⟩:=hx;obtain ⟨_,rfl,hy⟩:=hy;simp only [eqDS] at h;split at h
   ·rename_i e1 e2;simp only [decide_eq_true_eq] at e1 e2;subst e1 e2;obtain ⟨q,j,hk,o1,o2,e⟩:=eqDS_ok ks l m xs ys _ _ K hx hy h;exact ⟨q,j,hk,⟨⟨x,rfl⟩,o1⟩,⟨⟨y,rfl⟩,o2⟩,by rw [e];simp [eqVs,eqV,Bool.and_assoc,int_beq]⟩
   ·exact h.elim
 | .s :: ks,.str x :: l,.str y :: m,v :: xs,u :: ys,p,i,K,hx,hy,h=>by
   simp only [RdL,Rd] at hx hy;obtain ⟨_,rfl,hx⟩:=hx;obtain ⟨_,rfl,hy⟩:=hy;simp only [eqDS] at h;obtain ⟨q,j,hk,o1,o2,e⟩:=eqDS_ok ks l m xs ys _ _ K hx hy h;exact ⟨q,j,hk,⟨⟨x,rfl⟩,o1⟩,⟨⟨y,rfl⟩,o2⟩,by rw [e];simp [eqVs,eqV,Bool.and_assoc,str_beq]⟩
 | .b :: ks,.lit x :: l,.lit y :: m,v :: xs,u :: ys,p,i,K,hx,hy,h
 | .b :: ks,.lit x :: l,.bool y :: m,v :: xs,u :: ys,p,i,K,hx,hy,h
 | .b :: ks,.bool x :: l,.lit y :: m,v :: xs,u :: ys,p,i,K,hx,hy,h
 | .b :: ks,.bool x :: l,.bool y :: m,v :: xs,u :: ys,p,i,K,hx,hy,h=>by
   simp only [RdL,Rd] at hx hy;obtain ⟨_,rfl,hx⟩:=hx;obtain ⟨_,rfl,hy⟩:=hy;simp only [eqDS] at h;obtain ⟨q,j,hk,o1,o2,e⟩:=eqDS_ok ks l m xs ys _ _ K hx hy h;refine ⟨q,j,hk,⟨⟨x,rfl⟩,o1⟩,⟨⟨y,rfl⟩,o2⟩,by rw [e];cases x<;>cases y<;>simp [eqVs,eqV]⟩
 | _ :: _,_ :: _,_ :: _,[],_,_,_,_,hx,_,_=>by simp [RdL] at hx
 | _ :: _,_ :: _,_ :: _,_ :: _,[],_,_,_,_,hy,_=>by simp [RdL] at hy
theorem eqD0_ok {M:Mi} {im:Bool} {ks:List Lk} {l m:List D} {xs ys:List Value} {K:(q:Prop)->Decidable q->Prop} (hx:RdL M im l xs) (hy:RdL M im m ys) (h:eqD0 ks l m K) :
 ∃ q j,K q j/\okL ks xs/\okL ks ys/\@decide q j=eqVs xs ys:=by
 unfold eqD0 at h;split at h
 ·rename_i k ks k1 x l k2 y m;split at h
  ·rename_i e1 e2;simp only [decide_eq_true_eq] at e1 e2;subst e1 e2
   match xs,ys,hx,hy with
   | v :: xs,u :: ys,hx,hy =>
     simp only [RdL,Rd] at hx hy;obtain ⟨_,rfl,hx⟩:=hx;obtain ⟨_,rfl,hy⟩:=hy;obtain ⟨q,j,hk,o1,o2,e⟩:=eqDS_ok ks l m xs ys _ _ K hx hy h;exact ⟨q,j,hk,⟨⟨x,rfl⟩,o1⟩,⟨⟨y,rfl⟩,o2⟩,by rw [e];simp [eqVs,eqV,int_beq]⟩
  ·exact h.elim
 ·rename_i ks x l y m
  match xs,ys,hx,hy with
  | v :: xs,u :: ys,hx,hy =>
    simp only [RdL,Rd] at hx hy;obtain ⟨_,rfl,hx⟩:=hx;obtain ⟨_,rfl,hy⟩:=hy;obtain ⟨q,j,hk,o1,o2,e⟩:=eqDS_ok ks l m xs ys _ _ K hx hy h;exact ⟨q,j,hk,⟨⟨x,rfl⟩,o1⟩,⟨⟨y,rfl⟩,o2⟩,by rw [e];simp [eqVs,eqV,str_beq]⟩
 ·exact h.elim
end Sx
namespace Sx
open Go
section
variable {Kp:World->Prop} {P:Program} {M:Mi} {K:D->Prop} {Γ:Ty} {o1 o2:Operand}
def fieldD (Γ:Ty) (t:Nat) (a:D) (f:Nat) (K:D->Prop):Prop :=
 match (Γ.get t).k with
 | .struct fs=>match a with
   | .agg l=>nth3 fs f fun o _ u=>packD (Γ.get u) (dropF o l) K
   | _=>False
 | _=>False
theorem fieldD_ok (H:TyOK P Γ) {t f:Nat} {a:D} {v:Value} (h:fieldD Γ t a f K) (hv:Rd M false a v):Yld Kp P M (Instr.field t v f) K:=by
 unfold fieldD at h;split at h
 ·rename_i fs hk;split at h
  ·rename_i l;obtain ⟨o,s,u,hf,h⟩:=nth3_of _ _ _ h;simp only [Rd] at hv;obtain ⟨cs,rfl,hr⟩:=hv;obtain ⟨i,d,z,hi,hu,_,_,_,_,_,hkc⟩:=H.ok hk (by simp);obtain ⟨fields,fl,j,rfl,h1,h2,h3,h4,h5,h6⟩:=struct_field hkc hf;rw [dropF_eq] at h;obtain ⟨hko,h⟩:=packD_of h;obtain ⟨i',d',z',hi',hu',hs',_,_,_,_,hkc'⟩:=H.ok (t:=u) rfl hko
   have hrun:∀ w x,(part u cs o).run P w = .ok x w->(Instr.field t (.agg cs) f).run P w = .ok x w:=fun w x hx=>by
    simp only [Instr.field,Sem.run_bind,run_underlying hu,Result.andThen_ok,h1,asAgg,Sem.run_pure,h2,h3,hx]
   have hrd:=hr.drop o
   rcases h with ⟨hag,hle,hK⟩ | ⟨hag,d,r,hdr,hK⟩
   ·refine .mk _ (.agg (cs.extract o (o+(Γ.get u).size))) hK ?_ fun w _=>hrun w _ ?_
    ·simp only [Rd];refine ⟨_,rfl,?_⟩;have:=hrd.take (Γ.get u).size;simpa [Array.toList_extract,List.extract_eq_take_drop] using this
    ·simp only [part,Sem.run_bind,run_isAgg hu' hkc' hko,hag,Result.andThen_ok,if_true,run_sizeOf hi',hs',Sem.run_pure]
   ·rw [hdr] at hrd
    match hc:cs.toList.drop o,hrd with
    | x :: us,hrd =>
      simp only [RdL] at hrd
      have hx:cs[o]? = some x:=by
       rw [<-Array.getElem?_toList];have:=congrArg (fun l:List Value=>l[0]?) hc;simpa using this
      refine .mk d x hK hrd.2.1 fun w _=>hrun w _ ?_
      exact run_part_one H hko hag cs o x hx w
  ·exact h.elim
 ·exact h.elim
def lenD (Γ:Ty) (sto:Nat->Box) (t:Nat) (a:D) (K:D->Prop):Prop :=
 match (Γ.get t).k with
 | .slice _=>match a with
   | .tab _ n _=>K (.int .i64 n)| .nil=>K (.int .i64 0)
   | .own m=>match sto m with
     | .arr _ _ n _=>K (.int .i64 n)| .oar _ _ n _=>K (.int .i64 n)| .sar _ _ n _=>K (.int .i64 n)| .fam _ _ n _=>K (.int .i64 n)| .famx _ _ n _ _ _=>K (.int .i64 n)| .hot _ n _ _ _=>K (.int .i64 n)| _=>False
   | .rsl _ _ _ ln _=>K (.int .i64 ln)| _=>False
 | .str=>match a with
   | .str s=>K (.int .i64 s.length)| _=>False
 | _=>False
theorem lenD_ok (H:TyOK P Γ) {Pc:Program} {c:Cx Pc} {sto:Nat->Box} (HM:Mem c M sto) {t ty:Nat} {a:D} {v:Value} (h:lenD Γ sto t a K) (hv:Rd M false a v):Yld Kp P M (Builtin.len_ #[t] ty #[v]) K:=by
 unfold lenD at h;split at h
 ·rename_i e hk;obtain ⟨i,d,z,hi,hu,_,_,_,_,_,hkc⟩:=H.ok hk (by simp)
  cases d<;>simp only [kchk,bft] at hkc
  have run:∀ (ad:Option Addr) (n cap:Nat) (w:World),(Builtin.len_ #[t] ty #[.slice ad n cap]).run P w = .ok (.int .i64 n) w:=fun ad n cap w=>by
   simp [Builtin.len_,run_underlying hu,goInt]
  split at h
  ·simp only [Rd] at hv;obtain ⟨ad,cap,rfl,_⟩:=hv
   exact .mk _ _ h rfl fun w _=>run _ _ _ w
  ·simp only [Rd] at hv;subst hv
   exact .mk _ _ h rfl fun w _=>run _ _ _ w
  ·rename_i m;split at h
   ·rename_i e' sz n f hs;simp only [Rd] at hv;obtain ⟨_,hm,rfl,ad,l,cp,hvv⟩:=hv;have hb:=HM.box m hm;rw [hs] at hb;obtain ⟨xs,o1,_⟩:=hb
    have:∃ ad cap,M.hv m = .slice ad n cap:=by
     rcases o1.2 with ⟨hnil,hn0⟩ | ⟨g,cap,cur,hg,_⟩
     ·exact ⟨none,0,by rw [hnil,hn0]⟩
     ·exact ⟨_,_,hg⟩
    obtain ⟨ad',cap,he⟩:=this;rw [he]
    exact .mk _ _ h rfl fun w _=>run _ _ _ w
   ·rename_i e' sz n f hs;simp only [Rd] at hv;obtain ⟨_,hm,rfl,ad,l,cp,hvv⟩:=hv;have hb:=HM.box m hm;rw [hs] at hb;obtain ⟨xs,o1,_⟩:=hb
    have:∃ ad cap,M.hv m = .slice ad n cap:=by
     rcases o1.2 with ⟨hnil,hn0⟩ | ⟨g,o,cap,cur,hg,_⟩
     ·exact ⟨none,0,by rw [hnil,hn0]⟩
     ·exact ⟨_,_,hg⟩
    obtain ⟨ad',cap,he⟩:=this;rw [he]
    exact .mk _ _ h rfl fun w _=>run _ _ _ w
   ·rename_i e' sz n f hs;simp only [Rd] at hv;obtain ⟨_,hm,rfl,ad,l,cp,hvv⟩:=hv;have hb:=HM.box m hm;rw [hs] at hb
    have:∃ ad cap,M.hv m = .slice ad n cap:=by
     rcases hb with ⟨xs,o1,_⟩ | ⟨_,⟨a0,h⟩,_⟩
     ·rcases o1.2 with ⟨hnil,hn0⟩ | ⟨g,cap,cur,hg,_⟩
      ·exact ⟨none,0,by rw [hnil,hn0]⟩
      ·exact ⟨_,_,hg⟩
     ·exact ⟨_,_,h⟩
    obtain ⟨ad',cap,he⟩:=this;rw [he]
    exact .mk _ _ h rfl fun w _=>run _ _ _ w
   ·rename_i e' sz n f hs;simp only [Rd] at hv;obtain ⟨_,hm,rfl,ad,l,cp,hvv⟩:=hv;have hb:=HM.box m hm;rw [hs] at hb;obtain ⟨xs,Fs,o1,_⟩:=hb
    have:∃ ad cap,M.hv m = .slice ad n cap:=by
     rcases o1.2 with ⟨hnil,hn0⟩ | ⟨g,cap,cur,hg,_⟩
     ·exact ⟨none,0,by rw [hnil,hn0]⟩
     ·exact ⟨_,_,hg⟩
    obtain ⟨ad',cap,he⟩:=this;rw [he]
    exact .mk _ _ h rfl fun w _=>run _ _ _ w
   ·rename_i e' sz n f i' ds hs;simp only [Rd] at hv;obtain ⟨_,hm,rfl,ad,l,cp,hvv⟩:=hv;have hb:=HM.box m hm;rw [hs] at hb;obtain ⟨xs,Fs,o1,_⟩:=hb
    have:∃ ad cap,M.hv m = .slice ad n cap:=by
     rcases o1.2 with ⟨hnil,hn0⟩ | ⟨g,cap,cur,hg,_⟩
     ·exact ⟨none,0,by rw [hnil,hn0]⟩
     ·exact ⟨_,_,hg⟩
    obtain ⟨ad',cap,he⟩:=this;rw [he]
    exact .mk _ _ h rfl fun w _=>run _ _ _ w
   ·rename_i e' n f i' d' hs;simp only [Rd] at hv;obtain ⟨_,hm,rfl,ad,l,cp,hvv⟩:=hv;have hb:=HM.box m hm;rw [hs] at hb;obtain ⟨xs,o1,_⟩:=hb
    have:∃ ad cap,M.hv m = .slice ad n cap:=by
     rcases o1.2 with ⟨hnil,hn0⟩ | ⟨g,cap,cur,hg,_⟩
     ·exact ⟨none,0,by rw [hnil,hn0]⟩
     ·exact ⟨_,_,hg⟩
    obtain ⟨ad',cap,he⟩:=this;rw [he]
    exact .mk _ _ h rfl fun w _=>run _ _ _ w
   ·exact h.elim
  ·simp only [Rd] at hv;obtain ⟨_,_,b,_,rfl⟩:=hv
   exact .mk _ _ h rfl fun w _=>run _ _ _ w
  ·exact h.elim
 ·rename_i hk;obtain ⟨i,d,z,hi,hu,_,_,_,_,_,hkc⟩:=H.ok hk (by simp)
  cases d<;>simp only [kchk,bft] at hkc
  split at h
  ·rename_i s;simp only [Rd] at hv;subst hv
   refine .mk _ _ h rfl fun w _=>?_
   have e1:(⟨s.toArray⟩:ByteArray).size=s.length:=by simp [ByteArray.size]
   simp [Builtin.len_,run_underlying hu,goInt,e1]
  ·exact h.elim
 ·exact h.elim
def optD (o:Option D) (d:Int) (K:Int->Prop):Prop :=
 match o with
 | none=>K d| some (.int _ k)=>K k| _=>False
def sliceD (Γ:Ty) (t:Nat) (a:D) (lo hi:Option D) (K:D->Prop):Prop :=
 match (Γ.get t).k with
 | .str=>match a with
   | .str s=>optD lo 0 fun l=>optD hi s.length fun h=>Vc (0<=l/\l<=h/\h<=s.length) (K (.str ((s.take h.toNat).drop l.toNat)))
   | _=>False
 | .slice e=>match a with
   | .tab sz n f=>match szB Γ e sz with
     | true=>optD lo 0 fun l=>optD hi n fun h=>Vc (0<=l/\l<=h/\h<=n) (K (.tab sz (h.toNat - l.toNat) fun i=>f (l.toNat+i)))
     | false=>False
   | .nil=>match szB Γ e (Γ.get e).size with
     | true=>optD lo 0 fun l=>optD hi 0 fun h=>Vc (l=0/\h=0) (K .nil)
     | false=>False
   | _=>False
 | .arr n e=>match a with
   | .loc b 0=>match szB Γ e (Γ.get e).size with
     | true=>optD lo 0 fun l=>optD hi n fun h=>Vc (0<=l/\l<=h/\h<=n/\l<n) (K (.rsl b (Γ.get e).size l.toNat (h.toNat - l.toNat) (n - l.toNat)))
     | false=>False
   | _=>False
 | _=>False
def BndOK (o:Option D) (x:Option Value) (d:Int) (k:Int):Prop:=(o=none/\x=none/\k=d)\/∃ kk,o=some (.int kk k)/\x=some (.int kk k)
theorem optD_of {o:Option D} {x:Option Value} {d:Int} {K:Int->Prop} (h:optD o d K) (hx:∀ y,o=some y->∃ v,x=some v/\Rd M false y v) (hn:o=none->x=none):∃ k,K k/\BndOK o x d k:=by
 unfold optD at h;split at h
 ·exact ⟨d,h,.inl ⟨rfl,hn rfl,rfl⟩⟩
 ·rename_i kk k;obtain ⟨v,rfl,hr⟩:=hx _ rfl;simp only [Rd] at hr;subst hr;exact ⟨k,h,.inr ⟨kk,rfl,rfl⟩⟩
 ·exact h.elim
theorem run_bound (k:IntKind) (i:Int) (y:Nat) (code:BoundsCode) (h0:0<=i) (h1:i<=y) (w:World):(Instr.sliceBound (.int k i) y code).run P w = .ok i.toNat w:=run_sliceBound w k i y code h0 h1
theorem run_bounds {lo hi:Option D} {xl xh:Option Value} {isS:Bool} {len cap:Nat} {l h:Int} (hl:BndOK lo xl 0 l) (hh:BndOK hi xh len h) (h0:0<=l) (h1:l<=h) (h2:h<=len) (hc:len<=cap) (w:World) :
 (Instr.sliceBounds isS len cap xl xh none).run P w = .ok (l.toNat,h.toNat,cap) w:=by
 have e1:((h.toNat:Nat):Int)=h:=Int.toNat_of_nonneg (by omega)
 have hlb:∀ (k:IntKind) (code:BoundsCode),(Instr.sliceBound (.int k l) h.toNat code).run P w = .ok l.toNat w:=fun k code=>run_bound k l h.toNat code h0 (by omega) w
 have hhb:∀ (k:IntKind) (code:BoundsCode),(Instr.sliceBound (.int k h) cap code).run P w = .ok h.toNat w:=fun k code=>run_bound k h cap code (by omega) (by omega) w
 rcases hl with ⟨rfl,rfl,rfl⟩ | ⟨kl,rfl,rfl⟩<;>rcases hh with ⟨rfl,rfl,rfl⟩ | ⟨kh,rfl,rfl⟩
 ·simp [Instr.sliceBounds]
 ·simp [Instr.sliceBounds,hhb]
 ·simp only [tnc] at hlb;simp [Instr.sliceBounds,hlb]
 ·simp [Instr.sliceBounds,hhb,hlb]
theorem ba_extract (s:List UInt8) (l h:Nat):(⟨s.toArray⟩:ByteArray).extract l h=⟨((s.take h).drop l).toArray⟩:=by
 apply ByteArray.ext;simp [ByteArray.data_extract,List.drop_take]
theorem run_bounds3 {lo hi mx:Option D} {xl xh xm:Option Value} {len cap:Nat} {l h m:Int} (hl:BndOK lo xl 0 l) (hh:BndOK hi xh len h) (hm:BndOK mx xm cap m) (h0:0<=l) (h1:l<=h) (h2:h<=m) (h3:m<=cap) (hmh:mx=none\/hi≠none) (w:World) :
 (Instr.sliceBounds true len cap xl xh xm).run P w = .ok (l.toNat,h.toNat,m.toNat) w:=by
 have e1:((h.toNat:Nat):Int)=h:=Int.toNat_of_nonneg (by omega);have e2:((m.toNat:Nat):Int)=m:=Int.toNat_of_nonneg (by omega)
 have hlb:∀ (k:IntKind) (code:BoundsCode),(Instr.sliceBound (.int k l) h.toNat code).run P w = .ok l.toNat w:=fun k code=>run_bound k l h.toNat code h0 (by omega) w
 have hhb:∀ (k:IntKind) (code:BoundsCode),(Instr.sliceBound (.int k h) m.toNat code).run P w = .ok h.toNat w:=fun k code=>run_bound k h m.toNat code (by omega) (by omega) w
 have hmb:∀ (k:IntKind) (code:BoundsCode),(Instr.sliceBound (.int k m) cap code).run P w = .ok m.toNat w:=fun k code=>run_bound k m cap code (by omega) (by omega) w
 rcases hl with ⟨rfl,rfl,rfl⟩ | ⟨kl,rfl,rfl⟩<;>rcases hh with ⟨rfl,rfl,rfl⟩ | ⟨kh,rfl,rfl⟩<;>rcases hm with ⟨rfl,rfl,rfl⟩ | ⟨km,rfl,rfl⟩
 all_goals try simp only [tnc] at hlb
 all_goals try simp only [tnc] at hhb
 all_goals first
  | (rcases hmh with h | h<;>first | (cases h;done) | exact absurd rfl h)
  | simp [Instr.sliceBounds,hlb,hhb,hmb]
def rcutD (Γ:Ty) (t n sz off ln cp:Nat) (lo hi mx:Option D) (K:D->Prop):Prop :=
 match (Γ.get t).k with
 | .slice e=>match szB Γ e sz with
   | true=>optD lo 0 fun l=>optD hi ln fun h=>optD mx cp fun m =>
    Vc (0<=l/\l<=h/\h<=m/\m<=cp) (Br (decide (l<m)=true) (K (.rsl n sz (off+l.toNat) (h.toNat - l.toNat) (m.toNat - l.toNat))) (decide (l<m)=false) (K (.tab sz 0 fun _=>[])))
   | false=>False
 | _=>False
theorem rcutD_ok (H:TyOK P Γ) {t n sz off ln cp:Nat} {v:Value} {lo hi mx:Option D} {xl xh xm:Option Value} {K:D->Prop} (h:rcutD Γ t n sz off ln cp lo hi mx K) (hv:Rd M false (.rsl n sz off ln cp) v)
 (hl:∀ y,lo=some y->∃ x,xl=some x/\Rd M false y x) (hl' : lo=none->xl=none) (hh:∀ y,hi=some y->∃ x,xh=some x/\Rd M false y x) (hh' : hi=none->xh=none)
 (hm:∀ y,mx=some y->∃ x,xm=some x/\Rd M false y x) (hm' : mx=none->xm=none) (hmh:mx=none\/hi≠none) :
 Yld Kp P M (Instr.sliceAt t v xl xh xm) K:=by
 unfold rcutD at h;split at h
 case h_2=>exact h.elim
 rename_i e hk;obtain ⟨i,d,z,hi',hu,_,_,_,_,_,hkc⟩:=H.ok hk (by simp)
 cases d<;>simp only [kchk,bft] at hkc
 rename_i e'
 have hkc:=by simpa using hkc
 subst hkc;split at h
 case h_2=>exact h.elim
 rename_i hs;obtain ⟨_,_,j,hj,hjs⟩:=szB_of H hs;simp only [Rd] at hv;obtain ⟨_,hn,b,hρ,rfl⟩:=hv;obtain ⟨l,h,bl⟩:=optD_of h hl hl';obtain ⟨hh2,h,bh⟩:=optD_of h hh hh';obtain ⟨m,h,bm⟩:=optD_of h hm hm';obtain ⟨⟨h0,h1,h2,h3⟩,h⟩:=h
 have hb:=fun w=>run_bounds3 (P:=P) bl bh bm h0 h1 h2 h3 hmh w
 have hrun:∀ w,(Instr.sliceAt t (.slice (some ⟨b,off*sz,none⟩) ln cp) xl xh xm).run P w = .ok (.slice (if m.toNat=l.toNat then some ⟨b,off*sz,none⟩ else (some (⟨b,off*sz,none⟩:Addr)).map (·.add (l.toNat*sz))) (hh2.toNat - l.toNat) (m.toNat - l.toNat)) w:=fun w=>by
  simp only [Instr.sliceAt,Sem.run_bind,run_underlying hu,Result.andThen_ok,Instr.slice,hb,Sem.run_pure,run_sizeOf hj,hjs]
 by_cases hlm:l<m
 ·refine .mk _ _ (h.1 (decide_eq_true hlm)) ?_ fun w _=>hrun w
  simp only [Rd];refine ⟨trivial,hn,b,hρ,?_⟩;rw [if_neg (by omega)];simp [Addr.add_lit,Nat.add_mul]
 ·refine .mk _ _ (h.2 (decide_eq_false hlm)) ?_ fun w _=>hrun w
  simp only [Rd];refine ⟨_,_,by rw [show hh2.toNat - l.toNat=0 by omega],zle _,fun i hi=>absurd hi (Nat.not_lt_zero i)⟩
theorem sliceD_ok (H:TyOK P Γ) {t:Nat} {a:D} {v:Value} {lo hi:Option D} {xl xh:Option Value} (h:sliceD Γ t a lo hi K) (hv:Rd M false a v)
 (hl:∀ y,lo=some y->∃ x,xl=some x/\Rd M false y x) (hl' : lo=none->xl=none) (hh:∀ y,hi=some y->∃ x,xh=some x/\Rd M false y x) (hh' : hi=none->xh=none) :
 Yld Kp P M (Instr.sliceAt t v xl xh none) K:=by
 unfold sliceD at h;split at h
 ·rename_i hk;obtain ⟨i,d,z,hi',hu,_,_,_,_,_,hkc⟩:=H.ok hk (by simp)
  cases d<;>simp only [kchk,bft] at hkc
  split at h
  ·rename_i s;simp only [Rd] at hv;subst hv;obtain ⟨l,h,bl⟩:=optD_of h hl hl';obtain ⟨hh2,h,bh⟩:=optD_of h hh hh';obtain ⟨⟨h0,h1,h2⟩,h⟩:=h
   refine .mk _ _ h rfl fun w _=>?_
   have e1:(⟨s.toArray⟩:ByteArray).size=s.length:=by simp [ByteArray.size]
   have hb:=run_bounds (P:=P) (isS:=false) bl bh h0 h1 h2 (Nat.le_refl _) w;simp only [Instr.sliceAt,Sem.run_bind,run_underlying hu,Result.andThen_ok,Instr.slice,e1,ba_extract];simp only [Option.isSome_none,bft,if_false,Sem.run_bind,Sem.run_pure,Result.andThen_ok,hb]
  ·exact h.elim
 ·rename_i e hk;obtain ⟨i,d,z,hi',hu,_,_,_,_,_,hkc⟩:=H.ok hk (by simp)
  cases d<;>simp only [kchk,bft] at hkc
  rename_i e'
  have hkc:=by simpa using hkc
  subst hkc;split at h
  ·rename_i sz n f;split at h
   ·rename_i hs;obtain ⟨_,_,j,hj,hjs⟩:=szB_of H hs;simp only [Rd] at hv;obtain ⟨ad,cap,rfl,hn,hel⟩:=hv;obtain ⟨l,h,bl⟩:=optD_of h hl hl';obtain ⟨hh2,h,bh⟩:=optD_of h hh hh';obtain ⟨⟨h0,h1,h2⟩,h⟩:=h
    have hb:=fun w=>run_bounds (P:=P) (isS:=true) bl bh h0 h1 h2 hn w
    refine .mk _ (.slice (if cap=l.toNat then ad else ad.map (·.add (l.toNat*sz))) (hh2.toNat - l.toNat) (cap - l.toNat)) h ?_ fun w _=>?_
    ·simp only [Rd];refine ⟨_,_,rfl,by omega,fun i hi=>?_⟩;obtain ⟨b,off,rfl,hS,vs,hlen,hc,hr⟩:=hel (l.toNat+i) (by omega)
     have hne:¬ cap=l.toNat:=by omega
     refine ⟨b,off+l.toNat*sz,?_,hS,vs,hlen,?_,hr⟩
     ·rw [if_neg hne];simp [Addr.add_lit]
     ·have:off+l.toNat*sz+i*sz=off+(l.toNat+i)*sz:=by rw [Nat.add_mul];omega
      rw [this];exact hc
    ·simp only [Instr.sliceAt,Sem.run_bind,run_underlying hu,Result.andThen_ok,Instr.slice,hb,Sem.run_pure,run_sizeOf hj,hjs]
   ·exact h.elim
  ·simp only [Rd] at hv;subst hv;split at h
   case h_2=>exact h.elim
   rename_i hs;obtain ⟨_,_,j,hj,hjs⟩:=szB_of H hs;obtain ⟨l,h,bl⟩:=optD_of h hl hl';obtain ⟨m,h,bh⟩:=optD_of h hh hh';obtain ⟨⟨e1,e2⟩,hK⟩:=h;subst e1 e2
   have hb:=fun w=>run_bounds (P:=P) (isS:=true) (len:=0) (cap:=0) bl bh (by omega) (by omega) (by omega) (by omega) w
   refine .mk _ _ hK rfl fun w _=>?_
   simp only [Instr.sliceAt,Sem.run_bind,run_underlying hu,Result.andThen_ok,Instr.slice,hb,Sem.run_pure,run_sizeOf hj];simp
  ·exact h.elim
 ·rename_i n e hk;obtain ⟨i,d,z,hi',hu,_,_,_,_,_,hkc⟩:=H.ok hk (by simp)
  cases d<;>simp only [kchk,bft] at hkc
  simp only [bat,beq_iff_eq] at hkc;obtain ⟨rfl,rfl⟩:=hkc;split at h
  ·rename_i m;split at h
   case h_2=>exact h.elim
   rename_i hs;obtain ⟨_,_,j,hj,hjs⟩:=szB_of H hs;simp only [Rd] at hv;obtain ⟨_,hm,b,hρ,rfl⟩:=hv;obtain ⟨l,h,bl⟩:=optD_of h hl hl';obtain ⟨hh2,h,bh⟩:=optD_of h hh hh';obtain ⟨⟨h0,h1,h2,h3⟩,h⟩:=h
   have hb:=fun w=>run_bounds (P:=P) (isS:=false) bl bh h0 h1 h2 (Nat.le_refl _) w
   refine .mk _ (.slice (some ⟨b,l.toNat*(Γ.get e).size,none⟩) (hh2.toNat - l.toNat) (n - l.toNat)) h ?_ fun w _=>?_
   ·simp only [Rd];exact ⟨trivial,hm,b,hρ,rfl⟩
   ·have hne:¬ n=l.toNat:=by omega
    simp only [Instr.sliceAt,Sem.run_bind,run_underlying hu,Result.andThen_ok,hb,Sem.run_pure,run_sizeOf hj,hjs,Instr.sureAddr,if_neg hne];simp [Addr.add_lit]
  ·exact h.elim
 ·exact h.elim
def nilEqD (n:Nat) (neg:Bool) (K:D->Prop):Prop:=match neg with
 | true=>NilB n fun b=>K (.bool !b)
 | false=>NilB n fun b=>K (.bool b)
theorem nilEqD_of {n:Nat} {neg:Bool} {K:D->Prop} (h:nilEqD n neg K) (b:Bool) (hb:b=true->n=0):K (.bool (if neg then !b else b)):=by cases neg<;>exact h.ok b hb
def negD (neg b:Bool) (K:D->Prop):Prop:=match neg with
 | true=>K (.bool !b)| false=>K (.bool b)
theorem negD_of {neg b:Bool} {K:D->Prop} (h:negD neg b K):K (.bool (if neg then !b else b)):=by cases neg<;>exact h
def eqD (Γ:Ty) (sto:Nat->Box) (t:Nat) (neg:Bool) (a b:D) (K:D->Prop):Prop :=
 match (Γ.get t).k with
 | .bool=>match a,b with
   | .lit x,.lit y=>negD neg (x == y) K| .lit x,.bool y=>negD neg (x == y) K| .bool x,.lit y=>negD neg (x == y) K| .bool x,.bool y=>negD neg (x == y) K| _,_=>False
 | .slice _=>match a,b with
   | .nil,.nil=>match neg with | true=>K (.lit false) | false=>K (.lit true)
   | .tab _ n _,.nil=>nilEqD n neg K| .nil,.tab _ n _=>nilEqD n neg K
   | .own m,.nil=>match sto m with | .arr _ _ n _=>nilEqD n neg K | _=>False
   | _,_=>False
 | .struct _=>match a,b with
   | .agg l,.agg m=>match flatG Γ 6 t with
     | some ks=>eqD0 ks l m fun q i=>negD neg (@decide q i) K
     | none=>False
   | _,_=>False
 | _=>False
theorem run_eqs (H:TyOK P Γ) {t:Nat} {fs:List (Nat × Nat × Nat)} (hk:(Γ.get t).k = .struct fs) {ks:List Lk} (hf:flatG Γ 6 t=some ks) {xs ys:Array Value} (hx:okL ks xs.toList) (hy:okL ks ys.toList) (neg:Bool) (w:World) :
 (do eqGuard (if neg then .neq else .eql) t o1 o2 (.agg xs) (.agg ys);binOp (if neg then .neq else .eql) t (.agg xs) (.agg ys):Sem Value).run P w = .ok (.bool (if neg then !eqVs xs.toList ys.toList else eqVs xs.toList ys.toList)) w:=by
 obtain ⟨_,_,hg,_⟩:=FdOK.of H hk
 have he:(Op.equal t (.agg xs) (.agg ys)).run P w = .ok (eqVs xs.toList ys.toList) w:=by
  have:=run_equalIn_flat H 9994 6 t ks hf _ _ hx hy w;simpa [topV,hk,TK.isStr,Op.equal,Op.maxDepth] using this
 have hgr:(eqGuard (if neg then .neq else .eql) t o1 o2 (.agg xs) (.agg ys)).run P w = .ok () w:=by
  cases neg<;>simp [eqGuard,hg]
 simp only [Sem.run_bind,hgr,Result.andThen_ok];cases neg
 ·simp [binOp,he]
 ·simp [binOp,he]
theorem run_eqv {t:Nat} {neg r:Bool} {v x:Value} (hv:∀ cs,v≠.agg cs) (hv' : v≠.nilIface) (hb:∀ op w,op = .eql\/op = .neq->(binOp op t v x).run P w=((Op.equal t v x).run P w).andThen fun b w=>.ok (.bool (if op = .eql then b else !b)) w)
 (h:∀ (d:Nat) (w:World),(Op.equalIn (d+1) t v x).run P w = .ok r w) (w:World) :
 (do eqGuard (if neg then .neq else .eql) t o1 o2 v x;binOp (if neg then .neq else .eql) t v x:Sem Value).run P w = .ok (.bool (if neg then !r else r)) w:=by
 have he:(Op.equal t v x).run P w = .ok r w:=h 9999 w
 have hg:(eqGuard (if neg then .neq else .eql) t o1 o2 v x).run P w = .ok () w:=by
  cases v<;>simp only [ne_eq,reduceCtorEq,not_true_eq_false] at hv'<;>cases neg<;>simp [eqGuard]
  all_goals exact absurd rfl (hv _)
 simp only [Sem.run_bind,hg,Result.andThen_ok];cases neg
 ·simp only [bft,if_false];rw [hb .eql w (.inl rfl),he];rfl
 ·simp only [if_true];rw [hb .neq w (.inr rfl),he];rfl
theorem ownsH_len {h:Array Obj} {e sz n:Nat} {v:Value} {xs:List Value} (o1:OwnsH h e sz v n xs):∃ ad cap,v = .slice ad n cap/\(ad=none->n=0):=by
 rcases o1.2 with ⟨hnil,hn0⟩ | ⟨g,cap,cur,hg,_⟩
 ·exact ⟨none,0,by rw [hnil,hn0],fun _=>hn0⟩
 ·exact ⟨_,_,hg,fun h=>by cases h⟩
theorem ownsO_len {h:Array Obj} {e sz n:Nat} {v:Value} {xs:List Value} (o1:OwnsO h e sz v n xs):∃ ad cap,v = .slice ad n cap/\(ad=none->n=0):=by
 rcases o1.2 with ⟨hnil,hn0⟩ | ⟨g,o,cap,cur,hg,_⟩
 ·exact ⟨none,0,by rw [hnil,hn0],fun _=>hn0⟩
 ·exact ⟨_,_,hg,fun h=>by cases h⟩
theorem eqD_ok (H:TyOK P Γ) {Pc:Program} {c:Cx Pc} {sto:Nat->Box} (HM:Mem c M sto) {t:Nat} {neg:Bool} {a b:D} {v x:Value} (h:eqD Γ sto t neg a b K) (hv:Rd M false a v) (hx:Rd M false b x) :
 Yld Kp P M (do eqGuard (if neg then .neq else .eql) t o1 o2 v x;binOp (if neg then .neq else .eql) t v x) K:=by
 unfold eqD at h;split at h
 ·rename_i hk;obtain ⟨i,d,z,hi',hu,_,_,_,_,_,hkc⟩:=H.ok hk (by simp)
  cases d<;>simp only [kchk,bft] at hkc
  split at h
  all_goals first
   | exact h.elim
   | (simp only [Rd] at hv hx
      subst hv hx
      exact .mk _ _ (negD_of h) rfl fun w _=>run_eqv (by simp) (by simp) (fun op w hop=>by rcases hop with rfl | rfl<;>simp [binOp]) (fun d w=>by simp only [Op.equalIn,Sem.run_bind,run_underlying hu,Result.andThen_ok,Sem.run_pure]) w)
 ·rename_i e hk;obtain ⟨i,d,z,hi',hu,_,_,_,_,_,hkc⟩:=H.ok hk (by simp)
  cases d<;>simp only [kchk,bft] at hkc
  have run1:∀ (ad:Option Addr) (n cap:Nat) (w:World),(do eqGuard (if neg then .neq else .eql) t o1 o2 (.slice ad n cap) (.slice none 0 0);binOp (if neg then .neq else .eql) t (.slice ad n cap) (.slice none 0 0):Sem Value).run P w = .ok (.bool (if neg then !ad.isNone else ad.isNone)) w :=
   fun ad n cap w=>run_eqv (by simp) (by simp) (fun op w hop=>by rcases hop with rfl | rfl<;>simp [binOp]) (fun d w=>by cases ad<;>simp [Op.equalIn,run_underlying hu]) w
  have run2:∀ (ad:Option Addr) (n cap:Nat) (w:World),(do eqGuard (if neg then .neq else .eql) t o1 o2 (.slice none 0 0) (.slice ad n cap);binOp (if neg then .neq else .eql) t (.slice none 0 0) (.slice ad n cap):Sem Value).run P w = .ok (.bool (if neg then !ad.isNone else ad.isNone)) w :=
   fun ad n cap w=>run_eqv (by simp) (by simp) (fun op w hop=>by rcases hop with rfl | rfl<;>simp [binOp]) (fun d w=>by cases ad<;>simp [Op.equalIn,run_underlying hu]) w
  have tabn:∀ {sz n:Nat} {f:Nat->List D} {v:Value},Rd M false (.tab sz n f) v->∃ ad cap,v = .slice ad n cap/\(ad=none->n=0):=by
   intro sz n f v hv;simp only [Rd] at hv;obtain ⟨ad,cap,rfl,hn,hel⟩:=hv;refine ⟨ad,cap,rfl,fun hnone=>?_⟩
   rcases Nat.eq_zero_or_pos n with h0 | h0
   ·exact h0
   ·obtain ⟨b,off,hb,_⟩:=hel 0 h0;rw [hnone] at hb;cases hb
  split at h
  ·simp only [Rd] at hv hx;subst hv hx;cases neg
   ·exact .mk _ (.bool true) h rfl fun w _=>run1 _ _ _ w
   ·exact .mk _ (.bool false) h rfl fun w _=>run1 _ _ _ w
  ·simp only [Rd] at hx;subst hx;obtain ⟨ad,cap,rfl,hz⟩:=tabn hv
   exact .mk _ _ (nilEqD_of h ad.isNone (fun hn=>hz (by simpa using hn))) rfl fun w _=>run1 _ _ _ w
  ·simp only [Rd] at hv;subst hv;obtain ⟨ad,cap,rfl,hz⟩:=tabn hx
   exact .mk _ _ (nilEqD_of h ad.isNone (fun hn=>hz (by simpa using hn))) rfl fun w _=>run2 _ _ _ w
  ·rename_i m;split at h
   ·rename_i e' sz n f hs;simp only [Rd] at hv hx;subst hx;obtain ⟨_,hm,rfl,_⟩:=hv;have hb:=HM.box m hm;rw [hs] at hb;obtain ⟨xs,o1,_⟩:=hb;obtain ⟨ad,cap,he,hz⟩:=ownsH_len o1;rw [he]
    exact .mk _ _ (nilEqD_of h ad.isNone (fun hn=>hz (by simpa using hn))) rfl fun w _=>run1 _ _ _ w
   ·exact h.elim
  ·exact h.elim
 ·rename_i fs hk;split at h
  ·rename_i l m;split at h
   ·rename_i ks hf;simp only [Rd] at hv hx;obtain ⟨xs,rfl,hv⟩:=hv;obtain ⟨ys,rfl,hx⟩:=hx;obtain ⟨q,i,hK,o1,o2,e⟩:=eqD0_ok hv hx h;have hK:=negD_of hK;rw [e] at hK
    exact .mk _ _ hK rfl fun w _=>run_eqs H hk hf o1 o2 neg w
   ·exact h.elim
  ·exact h.elim
 ·exact h.elim
end
end Sx
namespace Sx
open Go
section
variable {Kp:World->Prop} {P:Program} {M:Mi} {K:D->Prop} {Γ:Ty} {o1 o2:Operand}
def utf8 (n:Int):List UInt8:=(Utf8.encode n).data.toList
def convD (Γ:Ty) (src dst:Nat) (a:D) (K:D->Prop):Prop :=
 match (Γ.get src).k,(Γ.get dst).k with
 | .int _,.int k=>match a with
   | .int _ n=>Wr k n fun n=>K (.int k n)
   | _=>False
 | .int _,.str=>match a with
   | .int _ n=>K (.str (utf8 n))| _=>False
 | .str,.str=>match a with
   | .str s=>K (.str s)| _=>False
 | _,_=>False
theorem convD_ok (H:TyOK P Γ) {src dst:Nat} {a:D} {v:Value} (h:convD Γ src dst a K) (hv:Rd M false a v):Yld Kp P M (convert src dst v) K:=by
 unfold convD at h;split at h
 ·rename_i k0 k hs hd;obtain ⟨i,d,z,_,hu,_,_,_,_,_,hkc⟩:=H.ok hs (by simp);obtain ⟨i',d',z',_,hu',_,_,_,_,_,hkc'⟩:=H.ok hd (by simp)
  cases d<;>simp only [kchk,bft] at hkc
  cases d'<;>simp only [kchk,bft] at hkc'
  have hkc':=by simpa using hkc'
  subst hkc';split at h
  ·simp only [Rd] at hv;subst hv
   exact .mk _ _ h.out rfl fun w _=>by simp [convert,run_underlying hu,run_underlying hu',Conv.intToInt]
  ·exact h.elim
 ·rename_i k0 hs hd;obtain ⟨i,d,z,_,hu,_,_,_,_,_,hkc⟩:=H.ok hs (by simp);obtain ⟨i',d',z',_,hu',_,_,_,_,_,hkc'⟩:=H.ok hd (by simp)
  cases d<;>simp only [kchk,bft] at hkc
  cases d'<;>simp only [kchk,bft] at hkc'
  split at h
  ·simp only [Rd] at hv;subst hv
   exact .mk _ _ h rfl fun w _=>by simp [convert,run_underlying hu,run_underlying hu',Conv.intToString,utf8]
  ·exact h.elim
 ·rename_i hs hd;obtain ⟨i,d,z,_,hu,_,_,_,_,_,hkc⟩:=H.ok hs (by simp);obtain ⟨i',d',z',_,hu',_,_,_,_,_,hkc'⟩:=H.ok hd (by simp)
  cases d<;>simp only [kchk,bft] at hkc
  cases d'<;>simp only [kchk,bft] at hkc'
  split at h
  ·simp only [Rd] at hv;subst hv
   exact .mk _ _ h rfl fun w _=>by simp [convert,run_underlying hu,run_underlying hu']
  ·exact h.elim
 ·exact h.elim
def unD (op:UnOp) (a:D) (K:D->Prop):Prop :=
 match op,a with
 | .not,.lit b=>match b with | true=>K (.lit false) | false=>K (.lit true)
 | .not,.bool b=>K (.bool !b)
 | .neg,.int k n=>Wr k (0 - n) fun n=>K (.int k n)
 | _,_=>False
theorem unD_ok {op:UnOp} {a:D} {v:Value} (h:unD op a K) (hv:Rd M false a v):Yld Kp P M (Op.unary op v) K:=by
 unfold unD at h;split at h
 ·simp only [Rd] at hv;subst hv;split at h
  ·exact .mk _ _ h rfl fun w _=>by simp [Op.unary]
  ·exact .mk _ _ h rfl fun w _=>by simp [Op.unary]
 ·simp only [Rd] at hv;subst hv
  exact .mk _ _ h rfl fun w _=>by simp [Op.unary]
 ·simp only [Rd] at hv;subst hv
  exact .mk _ _ h.out rfl fun w _=>by simp [Op.unary,Op.intArith]
 ·exact h.elim
def binD (Γ:Ty) (sto:Nat->Box) (op:BinOp) (t:Nat) (a b:D) (K:D->Prop):Prop :=
 match a,b with
 | .int k x,.int k' y=>intD op k x k' y K| .str s,.str u=>strD op s u K
 | a,b=>match op with
   | .eql=>eqD Γ sto t false a b K| .neq=>eqD Γ sto t true a b K| _=>False
theorem Yld.of_eq {x y:Sem Value} (h:Yld Kp P M x K) (he:∀ w,y.run P w=x.run P w):Yld Kp P M y K:=by
 obtain ⟨d,v,a,b,c⟩:=h;exact ⟨d,v,a,b,fun w hw=>(he w).trans (c w hw)⟩
theorem binD_ok (H:TyOK P Γ) {Pc:Program} {c:Cx Pc} {sto:Nat->Box} (HM:Mem c M sto) {op:BinOp} {t:Nat} {a b:D} {v x:Value} (h:binD Γ sto op t a b K) (hv:Rd M false a v) (hx:Rd M false b x) :
 Yld Kp P M (do eqGuard op t o1 o2 v x;binOp op t v x) K:=by
 unfold binD at h;split at h
 ·simp only [Rd] at hv hx;subst hv hx
  refine (intD_ok (t:=t) h).of_eq fun w=>?_
  simp only [Sem.run_bind]
  have:∀ k x k' y,(eqGuard op t o1 o2 (.int k x) (.int k' y)).run P w = .ok () w:=fun k x k' y=>by cases op<;>simp [eqGuard]
  rw [this];rfl
 ·simp only [Rd] at hv hx;subst hv hx
  refine (strD_ok (t:=t) h).of_eq fun w=>?_
  simp only [Sem.run_bind]
  have:∀ x y,(eqGuard op t o1 o2 (.string x) (.string y)).run P w = .ok () w:=fun x y=>by cases op<;>simp [eqGuard]
  rw [this];rfl
 ·split at h
  ·have:=eqD_ok (Kp:=Kp) (o1:=o1) (o2:=o2) H HM h hv hx;simpa using this
  ·have:=eqD_ok (Kp:=Kp) (o1:=o1) (o2:=o2) H HM h hv hx;simpa using this
  ·exact h.elim
def buildD (fs:List (Nat × Nat × Nat)) (sz:Nat):List (Nat × D)->List D->(List D->Prop)->Prop
 | [],acc,K=>K acc
 | (i,d) :: r,acc,K=>nth3 fs i fun o s _=>D.force d fun d=>match d with
   | .agg l=>match Nat.beq l.length s,Nat.ble (o+s) sz with
     | true,true=>buildD fs sz r (setL acc o l) K| _,_=>False
   | d=>match d.cell,Nat.beq s 1,Nat.ble (o+s) sz with
     | true,true,true=>buildD fs sz r (setL acc o [d]) K| _,_,_=>False
def RdP (M:Mi):List (Nat × D)->List (Nat × Value)->Prop
 | [],[]=>True| (i,d) :: l,(j,v) :: m=>i=j/\Rd M false d v/\RdP M l m| _,_=>False
theorem foldl_set (vs:List Value):∀ (cs:Array Value) (off j:Nat),off+j+vs.length<=cs.size ->
 ((vs.zipIdx j).foldl (fun cs (x:Value × Nat)=>cs.setIfInBounds (off+x.2) x.1) cs).toList=setV cs.toList (off+j) vs:=by
 induction vs with
 | nil=>intro cs off j _;simp [setV]
 | cons v vs ih =>
   intro cs off j h;simp only [List.length_cons] at h;simp only [List.zipIdx_cons,List.foldl_cons];rw [ih _ off (j+1) (by simp;omega)];simp only [Array.toList_setIfInBounds]
   have key:∀ (l:List Value) (k:Nat),k+vs.length<l.length->setV (l.set k v) (k+1) vs=setV l k (v :: vs):=by
    intro l
    induction l with
    | nil=>intro k hk;simp at hk
    | cons x l ih2 =>
      intro k hk
      match k with
      | 0 =>
        simp only [List.set_cons_zero,Nat.zero_add]
        match vs with
        | []=>simp [setV]| u :: us=>simp [setV]
      | k+1 =>
        simp only [List.set_cons_succ,setV];rw [<-ih2 k (by simp at hk;omega)]
        match vs with
        | []=>simp [setV]| u :: us=>simp [setV]
   exact key cs.toList (off+j) (by simp;omega)
theorem fill_ok {sz:Nat} {fs:List (Nat × Nat × Nat)} (place:Nat->Option (Nat × Nat)) (hpl:∀ (i o s u:Nat),fs[i]? = some (o,s,u)->place i=some (o,s)) :
 ∀ (ps:List (Nat × D)) (qs:List (Nat × Value)) (acc:List D) (cs:Array Value) (K:List D->Prop),buildD fs sz ps acc K->RdP M ps qs->RdL M false acc cs.toList ->
   sz=cs.size->∃ l cs',K l/\Instr.fill place cs qs=some cs'/\RdL M false l cs'.toList
 | [],[],acc,cs,K,h,_,hr,_=>⟨acc,cs,h,rfl,hr⟩
 | (i,d) :: ps,(j,v) :: qs,acc,cs,K,h,hp,hr,hb=>by
   simp only [RdP] at hp;obtain ⟨rfl,hv,hp⟩:=hp;simp only [buildD] at h;replace h:=nth3_of _ _ _ h;obtain ⟨o,s,u,hf,h⟩:=h;rw [force_eq] at h
   have step:∀ (l:List D),RdL M false l v.cells.toList->l.length=s->o+s<=sz->buildD fs sz ps (setL acc o l) K->∃ l cs',K l/\Instr.fill place cs ((i,v) :: qs)=some cs'/\RdL M false l cs'.toList:=by
    intro l hl hs hle0 h
    have hvs:v.cells.size=s:=by have:=hl.length;simp at this;omega
    have hle:o+v.cells.size<=cs.size:=by rw [hvs,<-hb];exact hle0
    have e1:(v.cells.zipIdx.foldl (fun cs (x:Value × Nat)=>cs.setIfInBounds (o+x.2) x.1) cs).toList=setV cs.toList o v.cells.toList:=by
     rw [<-Array.foldl_toList,Array.toList_zipIdx];exact foldl_set v.cells.toList cs o 0 (by simpa using hle)
    have e2:(v.cells.zipIdx.foldl (fun cs (x:Value × Nat)=>cs.setIfInBounds (o+x.2) x.1) cs).size=cs.size:=by
     have:=congrArg List.length e1;rw [length_setV] at this;simpa using this
    obtain ⟨l',cs',hK,hfill,hl'⟩:=fill_ok place hpl ps qs _ _ K h hp (by rw [e1];exact hr.set hl) (by rw [e2];exact hb);refine ⟨l',cs',hK,?_,hl'⟩;simp only [Instr.fill,hpl i o s u hf];rw [if_neg (by simp only [ne_eq,Bool.or_eq_true,decide_eq_true_eq,not_or,Nat.not_lt,Decidable.not_not];exact ⟨hvs,hle⟩)];exact hfill
   split at h
   ·rename_i l;simp only [Rd] at hv;obtain ⟨cs1,rfl,hl⟩:=hv;split at h
    ·rename_i he hb;exact step _ hl (nbq he) (Nat.le_of_ble_eq_true hb) h
    ·exact h.elim
   ·split at h
    ·rename_i hc he hb;obtain ⟨h1,h2⟩:=hv.cell hc;refine step [_] ?_ (by simpa using (nbq he).symm) (Nat.le_of_ble_eq_true hb) h;rw [h2];simp only [RdL];exact ⟨h1,hv,trivial⟩
    ·exact h.elim
 | [],_ :: _,_,_,_,_,hp,_,_=>by simp [RdP] at hp
 | _ :: _,[],_,_,_,_,hp,_,_=>by simp [RdP] at hp
theorem mapM_get {α β:Type} {g:α->Option β}:∀ (l:List α) (m:List β),l.length=m.length->(∀ (i:Nat) (x:α),l[i]? = some x->g x=m[i]?)->l.mapM g=some m
 | [],[],_,_=>rfl
 | x :: l,y :: m,hl,h=>by
   have h0:g x=some y:=by simpa using h 0 x rfl
   have:=mapM_get l m (by simpa using hl) fun i x hx=>by simpa using h (i+1) x (by simpa using hx)
   simp [List.mapM_cons,h0,this]
 | [],_ :: _,hl,_=>by simp at hl
 | _ :: _,[],hl,_=>by simp at hl
def arrSeq:Nat->List (Nat × D)->Bool
 | _,[]=>true
 | k,(i,d) :: l=>match Nat.beq i k,d.cell with
   | true,true=>arrSeq (k+1) l| _,_=>false
def nthA:List (Nat × D)->Nat->D
 | [],_=>.any| (_,d) :: _,0=>d| _ :: l,k+1=>nthA l k
def aggZ (d:D) (K:List D->Prop):Prop:=match d with
 | .agg l=>K l| _=>False
def arrFs:Nat->Nat->Nat->Nat->List (Nat × Nat × Nat)
 | 0,_,_,_=>[]| n+1,sz,e,o=>(o,sz,e) :: arrFs n sz e (o+sz)
theorem arrFs_at:∀ (n sz e o:Nat) (i o' s u:Nat),(arrFs n sz e o)[i]? = some (o',s,u)->o' = o+i*sz/\s=sz
 | 0,_,_,_,i,_,_,_,h=>by simp [arrFs] at h
 | n+1,sz,e,o,0,_,_,_,h=>by
   simp only [arrFs,List.getElem?_cons_zero,Option.some.injEq,Prod.mk.injEq] at h;obtain ⟨rfl,rfl,rfl⟩:=h;simp
 | n+1,sz,e,o,i+1,_,_,_,h=>by
   simp only [arrFs,List.getElem?_cons_succ] at h;obtain ⟨h1,h2⟩:=arrFs_at n sz e (o+sz) i _ _ _ h;refine ⟨?_,h2⟩;rw [h1,Nat.add_mul];omega
def buildW (Γ:Ty) (t:Nat) (ps:List (Nat × D)) (K:D->Prop):Prop :=
 match (Γ.get t).k with
 | .struct fs=>aggZ (Γ.get t).zero fun z=>buildD fs (Γ.get t).size ps z fun l=>K (.agg l)
 | .arr len e=>match ps with
   | []=>match szB Γ e 1,(Γ.get t).zero with
     | true,.vec n g=>K (.vec n g)| _,_=>False
   | _ :: _=>match szB Γ e 1,Nat.beq ps.length len,Nat.beq (Γ.get t).size len,arrSeq 0 ps with
     | true,true,true,true=>K (.vec len fun i=>nthA ps i)
     | false,_,_,_=>match (Γ.get e).k with
       | .struct _=>aggZ (Γ.get t).zero fun z=>buildD (arrFs len (Γ.get e).size e 0) (Γ.get t).size ps z fun l=>K (.agg l)
       | _=>False
     | _,_,_,_=>False
 | _=>False
theorem fill_seqA:∀ (ps:List (Nat × D)) (qs:List (Nat × Value)) (k:Nat) (cs:Array Value),arrSeq k ps=true->RdP M ps qs->k+ps.length=cs.size ->
 ∃ cs' : Array Value,Instr.fill (fun i=>some (i*1,1)) cs qs=some cs'/\cs'.size=cs.size/\(∀ i,i<k->cs'[i]? = cs[i]?)/\∀ i x,k<=i->cs'[i]? = some x->x.oneCell' = true/\Rd M false (nthA ps (i - k)) x
 | [],[],k,cs,_,_,hk=>⟨cs,rfl,rfl,fun _ _=>rfl,fun i x hi hx=>by
  have:=(Array.getElem?_eq_some_iff.1 hx).1
  simp at hk;omega⟩
 | (i,d) :: ps,(j,v) :: qs,k,cs,hs,hp,hk=>by
   simp only [RdP] at hp;obtain ⟨rfl,hv,hp⟩:=hp;simp only [arrSeq] at hs;split at hs
   case h_2=>cases hs
   rename_i hi hc;have hi:=nbq hi;subst hi;obtain ⟨v1,v2⟩:=hv.cell hc;simp only [List.length_cons] at hk;obtain ⟨cs',h1,h2,h3,h4⟩:=fill_seqA ps qs (i+1) (cs.setIfInBounds i v) hs hp (by simp;omega);refine ⟨cs',?_,by rw [h2];simp,fun q hq=>?_,fun q x hq hx=>?_⟩
   ·simp only [Instr.fill,v2];rw [if_neg (by simp;omega)];simpa using h1
   ·rw [h3 q (by omega),Array.getElem?_setIfInBounds_ne (by omega)]
   ·by_cases e:q=i
    ·subst e;rw [h3 q (by omega)] at hx
     have hlt:q<cs.size:=by omega
     simp [hlt] at hx;subst hx;rw [Nat.sub_self];exact ⟨v1,hv⟩
    ·have:=h4 q x (by omega) hx;rw [show q - i=(q - (i+1))+1 by omega];exact this
 | [],_ :: _,_,_,_,hp,_=>by simp [RdP] at hp
 | _ :: _,[],_,_,_,hp,_=>by simp [RdP] at hp
theorem buildW_ok (H:TyOK P Γ) {t:Nat} {ps:List (Nat × D)} {qs:Array (Nat × Value)} (h:buildW Γ t ps K) (hp:RdP M ps qs.toList):Yld Kp P M (Instr.build t qs) K:=by
 unfold buildW at h;split at h
 ·rename_i fs hk;obtain ⟨i,d,z,hi,hu,hs,_,hz,hzc,hzk,hkc⟩:=H.ok hk (by simp);unfold aggZ at h;split at h
  ·rename_i l hzd
   cases d<;>simp only [kchk,bft] at hkc
   rename_i fields
   have hkc0:kchk P (.struct fs) (.struct fields)=true:=by simp only [kchk];exact hkc
   simp only [bat,beq_iff_eq] at hkc;rw [hzd] at hzk;have hzr:Rd M false (.agg l) z:=zchk_rd hzk;simp only [Rd] at hzr;obtain ⟨zc,rfl,hzl⟩:=hzr
   have hmap:fields.toList.mapM (fun f=>(P.info? f.type).map fun i=>(f.offset,i.size))=some (fs.map fun x=>(x.1,x.2.1)):=by
    refine mapM_get _ _ (by simp [hkc.1]) fun k f hf=>?_
    have hlt:k<fs.length:=by
     have:=(List.getElem?_eq_some_iff.1 hf).1;simp at this;omega
    obtain ⟨o,s,u,hx⟩:∃ o s u,fs[k]=(o,s,u):=⟨_,_,_,rfl⟩
    have hk2:fs[k]? = some (o,s,u):=by rw [<-hx];simp [hlt]
    obtain ⟨fields',f',j,he,h1,h2,h3,h4,h5,h6⟩:=struct_field hkc0 hk2;cases he;rw [Array.getElem?_toList] at hf;rw [hf] at h1;cases h1;simp [h3,h4,h5,h2,hk2]
   have hzs:zc.size=(Γ.get t).size:=hzc;obtain ⟨l',cs',hK,hfill,hl'⟩:=fill_ok (M:=M) (fun i=>(fs.map fun x=>(x.1,x.2.1)).toArray[i]?) (fun i o s u hf=>by simp [hf]) ps qs.toList l zc _ h hp hzl hzs.symm
   refine .mk _ (.agg cs') hK (by simp only [Rd];exact ⟨cs',rfl,hl'⟩) fun w _=>run_build w t qs cs' ?_
   simp only [Program.built,hi,hu,hz,hmap];exact hfill
  ·exact h.elim
 ·rename_i len e hk;split at h
  ·split at h
   ·rename_i n g hsz hzd;obtain ⟨i,d,z,hi,hu,hs,_,hz,hzc,hzk,hkc⟩:=H.ok hk (by simp)
    cases d<;>simp only [kchk,bft] at hkc
    have hkc:=by simpa using hkc
    obtain ⟨rfl,rfl⟩:=hkc;obtain ⟨_,_,j,hj,hjs⟩:=szB_of H hsz;rw [hzd] at hzk;have hzr:Rd M false (.vec n g) z:=zchk_rd hzk
    have hq:qs.toList = []:=by
     cases hqs:qs.toList with
     | nil=>rfl
     | cons a b=>rw [hqs] at hp;simp [RdP] at hp
    have hzr2:=hzr;simp only [Rd] at hzr;obtain ⟨zc,rfl,hzl,_⟩:=hzr
    refine .mk _ (.agg zc) h hzr2 fun w _=>run_build w t qs zc ?_
    simp only [Program.built,hi,hu,hz,hj,hjs,hq];rfl
   ·exact h.elim
  rename_i p0 ps0;generalize p0 :: ps0=ps at *;split at h
  ·rename_i hsz hl hts hseq;have hl:=nbq hl;have hts:=nbq hts;obtain ⟨i,d,z,hi,hu,hs,_,hz,hzc,hzk,hkc⟩:=H.ok hk (by simp)
   cases d<;>simp only [kchk,bft] at hkc
   have hkc:=by simpa using hkc
   obtain ⟨rfl,rfl⟩:=hkc;obtain ⟨_,_,j,hj,hjs⟩:=szB_of H hsz;obtain ⟨cs',h1,h2,_,h4⟩:=fill_seqA (M:=M) ps qs.toList 0 z.cells hseq hp (by rw [hzc];omega)
   refine .mk _ (.agg cs') h (by simp only [Rd];exact ⟨cs',rfl,by omega,fun i x hx=>by simpa using h4 i x (zle _) hx⟩) fun w _=>run_build w t qs cs' ?_
   simp only [Program.built,hi,hu,hz,hj,hjs];exact h1
  ·rename_i hsz;split at h
   ·rename_i fs hke;unfold aggZ at h;split at h
    ·rename_i l hzd;obtain ⟨i,d,z,hi,hu,hs,_,hz,hzc,hzk,hkc⟩:=H.ok hk (by simp)
     cases d<;>simp only [kchk,bft] at hkc
     have hkc:=by simpa using hkc
     obtain ⟨rfl,rfl⟩:=hkc;obtain ⟨i',d',z',hi',hu',hs',_⟩:=H.ok hke (by simp);rw [hzd] at hzk;have hzr:Rd M false (.agg l) z:=zchk_rd hzk;simp only [Rd] at hzr;obtain ⟨zc,rfl,hzl⟩:=hzr;have hzs:zc.size=(Γ.get t).size:=hzc
     obtain ⟨l',cs',hK,hfill,hl'⟩:=fill_ok (M:=M) (fun i=>some (i*(Γ.get e).size,(Γ.get e).size)) (fun i o s u hf=>by
      obtain ⟨h1,h2⟩:=arrFs_at _ _ _ _ _ _ _ _ hf
      rw [h1,h2,Nat.zero_add]) ps qs.toList l zc _ h hp hzl hzs.symm
     refine .mk _ (.agg cs') hK (by simp only [Rd];exact ⟨cs',rfl,hl'⟩) fun w _=>run_build w t qs cs' ?_
     simp only [Program.built,hi,hu,hz,hi',hs'];exact hfill
    ·exact h.elim
   ·exact h.elim
  ·exact h.elim
 ·exact h.elim
def constD:Value->D
 | .int k n=>.int k n| .bool b=>.lit b| .string s=>.str s.data.toList| .slice none 0 0=>.nil| .pointer none=>.null| .nilFunc=>.nilfn| _=>.any
theorem constD_rd (v:Value):Rd M false (constD v) v:=by
 unfold constD
 split<;>simp [Rd]
def evD (env:Nat->D):Operand->D
 | .tmp t=>env t| .const v=>constD v| .func f=>.fn f []| .global _=>.any
theorem evD_rd {env:Nat->D} {a:Act} (h:∀ t,Rd M false (env t) (a.tmps.getD t undef)) (x:Operand):Rd M false (evD env x) (a.eval x):=by
 cases x with
 | tmp t=>exact h t| const v=>exact constD_rd v
 | func f=>simp only [evD,Act.eval,Rd];exact ⟨#[],rfl,by simp [RdL]⟩
 | global g=>simp [evD,Rd]
def pickD (c a b:D) (K:D->Prop):Prop :=
 match c with
 | .lit true=>D.force a K| .lit false=>D.force b K
 | .bool c=>match a,b with
   | .lit x,.lit y=>K (.bool (bif c then x else y))| .lit x,.bool y=>K (.bool (bif c then x else y))| .bool x,.lit y=>K (.bool (bif c then x else y))| .bool x,.bool y=>K (.bool (bif c then x else y))| _,_=>False
 | _=>False
def mapPs (env:Nat->D):List (Nat × Operand)->List (Nat × D)
 | []=>[]| (i,x) :: l=>(i,evD env x) :: mapPs env l
def mapEv (env:Nat->D):List Operand->List D
 | []=>[]| x :: l=>evD env x :: mapEv env l
def cellL:List D->Bool
 | []=>true
 | d :: l=>match d.cell with | true=>cellL l | false=>false
def extD (mx:Bool) (k:IntKind) (x:Int):List D->(D->Prop)->Prop
 | [],K=>K (.int k x)
 | .int _ y :: l,K=>match mx with
   | true=>extD mx k (max x y) l K| false=>extD mx k (min x y) l K
 | _ :: _,_=>False
def extsD (mx:Bool):List D->(D->Prop)->Prop
 | .int k x :: l,K=>extD mx k x l K| _,_=>False
theorem extD_ok {M:Mi} {P:Program} (mx:Bool) (k:IntKind):∀ (l:List D) (vs:List Value) (x:Int) (K:D->Prop),RdT M false l vs->extD mx k x l K ->
 ∃ z,K (.int k z)/\∀ w,(vs.foldlM (if mx then Builtin.max2 else Builtin.min2) (.int k x)).run P w = .ok (.int k z) w
 | [],[],x,K,_,h=>⟨x,h,fun w=>by simp⟩
 | d :: l,v :: vs,x,K,hr,h=>by
   simp only [RdT] at hr
   cases d<;>simp only [extD] at h
   rename_i k' y;simp only [Rd] at hr;obtain ⟨rfl,hr⟩:=hr;cases mx
   ·obtain ⟨z,hk,hz⟩:=extD_ok false k l vs _ K hr h;refine ⟨z,hk,fun w=>?_⟩;have:=hz w;rw [List.foldlM_cons]
    have e:(if y<x then y else x)=min x y:=by rw [Int.min_def];split<;>split<;>omega
    simpa [Builtin.min2,e] using this
   ·obtain ⟨z,hk,hz⟩:=extD_ok true k l vs _ K hr h;refine ⟨z,hk,fun w=>?_⟩;have:=hz w;rw [List.foldlM_cons]
    have e:(if y > x then y else x)=max x y:=by rw [Int.max_def];split<;>split<;>omega
    simpa [Builtin.max2,e] using this
 | [],_ :: _,_,_,h,_=>by simp [RdT] at h
 | _ :: _,[],_,_,h,_=>by simp [RdT] at h
def pureW (Γ:Ty) (sto:Nat->Box) (env:Nat->D) (o:Op) (K:D->Prop):Prop :=
 match o with
 | .move x=>D.force (evD env x) K| .assign x=>D.force (evD env x) K| .pick c a b=>pickD (evD env c) (evD env a) (evD env b) K| .load t x=>loadD Γ sto t (evD env x) K| .fieldAddr t x f=>faddrD Γ t (evD env x) f K| .indexAddr t x i=>iaddrD Γ sto t (evD env x) (evD env i) K| .index t x i=>indexD Γ t (evD env x) (evD env i) K| .field t x f=>fieldD Γ t (evD env x) f K| .binOp op t x y _=>binD Γ sto op t (evD env x) (evD env y) K
 | .unOp op _ x=>unD op (evD env x) K| .convert s d x=>convD Γ s d (evD env x) K
 | .nilCheck x=>match evD env x with
   | .loc n o=>K (.loc n o)| .ref l=>K (.ref l)| .pel n s i o=>K (.pel n s i o)| .fn f c=>K (.fn f c)| _=>False
 | .extract x i=>match evD env x with
   | .tup l=>nthF l i K| _=>False
 | .build t ps=>buildW Γ t (mapPs env ps.toList) K
 | .slice t x lo hi mx=>match evD env x with
   | .rsl n sz off ln cp=>match mx,hi with
     | some _,none=>False| _,_=>rcutD Γ t n sz off ln cp (lo.map (evD env)) (hi.map (evD env)) (mx.map (evD env)) K
   | _=>match mx with
     | none=>sliceD Γ t (evD env x) (lo.map (evD env)) (hi.map (evD env)) K| some _=>False
 | .makeFunc fn first caps=>match fn,first.toList with
   | .func f,[]=>forceL (mapEv env caps.toList) fun l=>match cellL l with
     | true=>K (.fn f l)| false=>False
   | _,_=>False
 | .call ⟨.builtin .len,args,tys⟩=>match args.toList,tys.toList with
   | [x],[t]=>lenD Γ sto t (evD env x) K| _,_=>False
 | .call ⟨.builtin .max,args,_⟩=>extsD true (mapEv env args.toList) K| .call ⟨.builtin .min,args,_⟩=>extsD false (mapEv env args.toList) K| _=>False
end
end Sx
namespace Sx
open Go
section
variable {Kp:World->Prop} {P:Program} {M:Mi} {K:D->Prop} {Γ:Ty}
theorem mapPs_rd {env:Nat->D} {a:Act} (h:∀ t,Rd M false (env t) (a.tmps.getD t undef)):∀ (l:List (Nat × Operand)),RdP M (mapPs env l) (l.map fun (i,x)=>(i,a.eval x))
 | []=>by simp [mapPs,RdP]
 | (i,x) :: l=>by simp only [mapPs,List.map_cons,RdP];exact ⟨trivial,evD_rd h x,mapPs_rd h l⟩
theorem mapEv_rd {env:Nat->D} {a:Act} (h:∀ t,Rd M false (env t) (a.tmps.getD t undef)):∀ (l:List Operand),RdT M false (mapEv env l) (l.map a.eval)
 | []=>by simp [mapEv,RdT]
 | x :: l=>by simp only [mapEv,List.map_cons,RdT];exact ⟨evD_rd h x,mapEv_rd h l⟩
theorem RdT.cells {im:Bool}:∀ {l:List D} {vs:List Value},RdT M im l vs->cellL l=true->RdL M im l vs
 | [],[],_,_=>by simp [RdL]
 | d :: l,v :: vs,h,hc=>by
   simp only [RdT] at h;simp only [cellL] at hc;split at hc
   ·rename_i h1;simp only [RdL];exact ⟨(h.1.cell h1).1,h.1,RdT.cells h.2 hc⟩
   ·cases hc
 | [],_ :: _,h,_=>by simp [RdT] at h
 | _ :: _,[],h,_=>by simp [RdT] at h
theorem RdT.get {im:Bool}:∀ {l:List D} {vs:List Value},RdT M im l vs->∀ {i:Nat} {d:D},l[i]? = some d->∃ v,vs[i]? = some v/\Rd M im d v
 | d :: l,v :: vs,h,0,_,hd=>by
   simp only [RdT] at h;simp at hd;subst hd;exact ⟨v,rfl,h.1⟩
 | d :: l,v :: vs,h,i+1,_,hd=>by
   simp only [RdT] at h;simpa using RdT.get h.2 (i:=i) (by simpa using hd)
 | [],[],_,_,_,hd=>by simp at hd
 | [],_ :: _,h,_,_,_=>by simp [RdT] at h
 | _ :: _,[],h,_,_,_=>by simp [RdT] at h
def YldO (Kp:World->Prop) (P:Program) (M:Mi) (x:Sem Next) (K:D->Prop):Prop:=∃ d v,K d/\Rd M false d v/\∀ w,Kp w->x.run P w = .ok (.value v) w
def isLoad:Op->Bool
 | .load ..=>true| _=>false
theorem Yld.op {x:Sem Value} {y:Sem Next} (h:Yld Kp P M x K) (hy:∀ w,y.run P w=(x.run P w).andThen fun v w=>.ok (.value v) w):YldO Kp P M y K:=by
 obtain ⟨d,v,a,b,c⟩:=h;exact ⟨d,v,a,b,fun w hw=>by rw [hy,c w hw];rfl⟩
theorem YldO.val {d:D} {v:Value} {y:Sem Next} (hk:K d) (hr:Rd M false d v) (hy:∀ w,y.run P w = .ok (.value v) w):YldO Kp P M y K:=⟨d,v,hk,hr,fun w _=>hy w⟩
theorem pickD_ok {c a b:D} {x y z:Value} (h:pickD c a b K) (hx:Rd M false c x) (hy:Rd M false a y) (hz:Rd M false b z):∃ d v,K d/\Rd M false d v/\∃ t,x = .bool t/\v=if t then y else z:=by
 unfold pickD at h;split at h
 ·simp only [Rd] at hx;rw [force_eq] at h;exact ⟨_,y,h,hy,true,hx,rfl⟩
 ·simp only [Rd] at hx;rw [force_eq] at h;exact ⟨_,z,h,hz,false,hx,rfl⟩
 ·rename_i t;simp only [Rd] at hx;split at h
  all_goals first
   | exact h.elim
   | (simp only [Rd] at hy hz
      subst hy hz
      exact ⟨_,_,h,by simp only [Rd];cases t<;>rfl,t,hx,rfl⟩)
 ·exact h.elim
theorem pureW_ok (H:TyOK P Γ) {Pc:Program} {c:Cx Pc} {sto:Nat->Box} (HM:Mem c M sto) {env:Nat->D} {a:Act} (he:∀ t,Rd M false (env t) (a.tmps.getD t undef)) (o:Oper)
 (hl:isLoad o.op=true->∀ w,Kp w->Keep M w) (h:pureW Γ sto env o.op K):YldO Kp P M (execOp a.eval o) K:=by
 have ev:=fun x=>evD_rd (M:=M) (env:=env) (a:=a) he x
 unfold pureW at h;split at h
 ·rename_i x ho;rw [force_eq] at h;exact .val h (ev x) fun w=>by simp [execOp,ho]
 ·rename_i x ho;rw [force_eq] at h;exact .val h (ev x) fun w=>by simp [execOp,ho]
 ·rename_i x y z ho;obtain ⟨d,v,hk,hr,t,ht,hv⟩:=pickD_ok h (ev x) (ev y) (ev z)
  exact .val hk hr fun w=>by simp [execOp,ho,ht,asBool,hv]
 ·rename_i t x ho;obtain ⟨d,v,h1,h2,h3⟩:=loadD_ok H HM h (ev x);exact ⟨d,v,h1,h2,fun w hw=>by simp [execOp,ho,h3 w (hl (by rw [ho];rfl) w hw)]⟩
 ·rename_i t x f ho;exact (faddrD_ok H h (ev x)).op fun w=>by simp [execOp,ho]
 ·rename_i t x i ho;exact (iaddrD_ok H HM h (ev x) (ev i)).op fun w=>by simp [execOp,ho]
 ·rename_i t x i ho;exact (indexD_ok H h (ev x) (ev i)).op fun w=>by simp [execOp,ho]
 ·rename_i t x f ho;exact (fieldD_ok H h (ev x)).op fun w=>by simp [execOp,ho]
 ·rename_i op t x y t' ho;exact (binD_ok (o1:=x) (o2:=y) H HM h (ev x) (ev y)).op fun w=>by simp only [execOp,ho,Sem.run_bind,Sem.run_pure]
 ·rename_i op t x ho;exact (unD_ok h (ev x)).op fun w=>by simp [execOp,ho]
 ·rename_i s d x ho;exact (convD_ok H h (ev x)).op fun w=>by simp [execOp,ho]
 ·rename_i x ho;have hx:=ev x;split at h
  ·rename_i n off e;rw [e] at hx
   refine .val h hx fun w=>?_
   simp only [Rd] at hx;obtain ⟨_,_,b,_,hv⟩:=hx;simp [execOp,ho,hv]
  ·rename_i l e;rw [e] at hx
   refine .val h hx fun w=>?_
   simp only [Rd] at hx;obtain ⟨b,off,hv,_⟩:=hx;simp [execOp,ho,hv]
  ·rename_i n s i off e;rw [e] at hx
   refine .val h hx fun w=>?_
   simp only [Rd] at hx;obtain ⟨_,_,b,_,hv⟩:=hx;simp [execOp,ho,hv]
  ·rename_i f cs e;rw [e] at hx
   refine .val h hx fun w=>?_
   simp only [Rd] at hx;obtain ⟨b,hv,_⟩:=hx;simp [execOp,ho,hv]
  ·exact h.elim
 ·rename_i x i ho;have hx:=ev x;split at h
  ·rename_i l e;rw [e] at hx;simp only [Rd] at hx;obtain ⟨cs,hv,hr⟩:=hx;obtain ⟨d,hd,hK⟩:=nthF_of _ _ _ h;obtain ⟨v,hv',hrd⟩:=hr.get hd;rw [Array.getElem?_toList] at hv'
   exact .val hK hrd fun w=>by simp [execOp,ho,hv,Instr.extract,hv']
  ·exact h.elim
 ·rename_i t ps ho
  refine (buildW_ok (qs:=ps.map fun (i,x)=>(i,a.eval x)) H h ?_).op fun w=>by simp [execOp,ho]
  have:=mapPs_rd he ps.toList;simpa using this
 ·rename_i t x lo hi mx ho
  have mp:∀ (o:Option Operand),(∀ y,o.map (evD env)=some y->∃ u,o.map a.eval=some u/\Rd M false y u)/\(o.map (evD env)=none->o.map a.eval=none):=fun o=>by
   cases o with
   | none=>simp| some y=>simpa using ev y
  split at h
  ·rename_i n sz off ln cp hx;have hxv:=ev x;rw [hx] at hxv;split at h
   ·exact h.elim
   ·rename_i hne
    exact (rcutD_ok H h hxv (mp lo).1 (mp lo).2 (mp hi).1 (mp hi).2 (mp mx).1 (mp mx).2 (by
     cases mx with
     | none=>simp
     | some y=>cases hi with
       | none=>exact absurd rfl (hne y rfl)
       | some z=>simp)).op fun w=>by simp [execOp,ho]
  ·split at h
   ·exact (sliceD_ok (xl:=lo.map a.eval) (xh:=hi.map a.eval) H h (ev x) (mp lo).1 (mp lo).2 (mp hi).1 (mp hi).2).op fun w=>by simp [execOp,ho]
   ·exact h.elim
 ·rename_i fn first caps ho;split at h
  ·rename_i f hfirst;rw [forceL_eq] at h;split at h
   ·rename_i hc;have hr:=(mapEv_rd he caps.toList).cells hc
    have hf:first = #[]:=by apply Array.ext';simpa using hfirst
    subst hf
    refine .val (d:=.fn f (mapEv env caps.toList)) (v:=.func (.func f) #[] (caps.map a.eval)) h ?_ fun w=>by simp [execOp,ho,Instr.makeFunc]
    simp only [Rd];exact ⟨_,rfl,by simpa using hr⟩
   ·exact h.elim
  ·exact h.elim
 ·rename_i args tys ho;split at h
  ·rename_i x t hargs htys
   have ha:args = #[x]:=by apply Array.ext';simpa using hargs
   have ht:tys = #[t]:=by apply Array.ext';simpa using htys
   subst ha ht
   refine (lenD_ok (ty:=o.type) H HM h (ev x)).op fun w=>by simp [execOp,ho,resolve,invoke,builtin]
  ·exact h.elim
 ·rename_i args tys ho;have hr:=mapEv_rd he args.toList;unfold extsD at h;split at h
  ·rename_i k x l hl;rw [hl] at hr
   cases hv:args.toList.map a.eval with
   | nil=>rw [hv] at hr;simp [RdT] at hr
   | cons v vs =>
     rw [hv] at hr;simp only [RdT,Rd] at hr;obtain ⟨rfl,hr⟩:=hr;obtain ⟨z,hk,hz⟩:=extD_ok (P:=P) true k l vs x _ hr h
     refine .val (d:=.int k z) (v:=.int k z) hk (by simp [Rd]) fun w=>?_
     have hz:=hz w;simp only [if_true] at hz;simp [execOp,ho,resolve,invoke,builtin,Builtin.max_,hv,hz]
  ·exact h.elim
 ·rename_i args tys ho;have hr:=mapEv_rd he args.toList;unfold extsD at h;split at h
  ·rename_i k x l hl;rw [hl] at hr
   cases hv:args.toList.map a.eval with
   | nil=>rw [hv] at hr;simp [RdT] at hr
   | cons v vs =>
     rw [hv] at hr;simp only [RdT,Rd] at hr;obtain ⟨rfl,hr⟩:=hr;obtain ⟨z,hk,hz⟩:=extD_ok (P:=P) false k l vs x _ hr h
     refine .val (d:=.int k z) (v:=.int k z) hk (by simp [Rd]) fun w=>?_
     have hz:=hz w;simp only [bft,if_false] at hz;simp [execOp,ho,resolve,invoke,builtin,Builtin.min_,hv,hz]
  ·exact h.elim
 ·exact h.elim
end
end Sx
namespace Sx
open Go
def memN (k:Nat):List Nat->Bool
 | []=>false
 | m :: l=>match Nat.beq k m with
   | true=>true| false=>memN k l
theorem memN_iff {k:Nat}:∀ {l:List Nat},memN k l=true ↔ k ∈ l
 | []=>by simp [memN]
 | m :: l=>by
   simp only [memN,beq_eq,List.mem_cons];by_cases e:k=m
   ·simp [e]
   ·simp only [e,decide_false,false_or];exact memN_iff
structure Nt where
 n:Nat
 ios:List Nat
structure St where
 env:Nat->D
 sto:Nat->Box
 nxt:Nat
def St.on (st:St) (f:(Nat->D)->(Nat->Box)->Nat->Prop):Prop:=match st with
 | ⟨e,s,k⟩=>f e s k
structure RelM {Pc:Program} (c:Cx Pc) (nt:Nt) (M:Mi) (st:St) (a:Act) (w:World):Prop where
 h:M.h=w.heap
 nx:M.nx=st.nxt
 mem:Mem c M st.sto
 env:∀ t,Rd M false (st.env t) (a.tmps.getD t undef)
 sz:a.tmps.size=nt.n/\∀ t,memN t nt.ios=true->a.tmps.getD t undef=c.tm t
 defs:a.defers=c.dm
 os:w.os=c.w0.os
 tape:w.tape=c.w0.tape
 output:w.output=c.w0.output
section
variable {P:Program} {Γ:Ty} {c:Cx P} {nt:Nt} {M:Mi} {st:St} {a:Act} {w:World}
theorem RelM.keep (R:RelM c nt M st a w):Keep M w:=fun b _=>by rw [R.h]
theorem getD_set (l:Array Value) (t d:Nat) (v:Value) (hd:d<l.size):(l.setIfInBounds d v).getD t undef=if t=d then v else l.getD t undef:=by
 by_cases e:t=d
 ·subst e;simp [Array.getD,hd]
 ·simp only [e,if_false,Array.getD];by_cases h:t<l.size
  ·simp [h,Ne.symm e]
  ·simp [h]
theorem RelM.put (R:RelM c nt M st a w) {d:D} {v:Value} (hr:Rd M false d v) {t:Nat} (ht:t<nt.n) (hio:memN t nt.ios=false):RelM c nt M ⟨upd st.env t d,st.sto,st.nxt⟩ (a.put (some t) v) w:=by
 refine ⟨R.h,R.nx,R.mem,fun u=>?_,?_,R.defs,R.os,R.tape,R.output⟩
 ·show Rd M false (upd st.env t d u) ((a.tmps.setIfInBounds t v).getD u undef)
  rw [getD_set _ _ _ _ (by rw [R.sz.1];exact ht)];by_cases e:u=t
  ·subst e;rw [upd_self,if_pos rfl];exact hr
  ·rw [upd_ne _ _ e,if_neg e];exact R.env u
 ·refine ⟨by simp [Act.put,R.sz.1],fun u hu=>?_⟩
  show (a.tmps.setIfInBounds t v).getD u undef=c.tm u
  have e:u≠t:=fun e=>by subst e;rw [hio] at hu;cases hu
  rw [getD_set _ _ _ _ (by rw [R.sz.1];exact ht),if_neg e];exact R.sz.2 u hu
theorem RelM.go {M' : Mi} {w' : World} {sto' : Nat->Box} {nx' : Nat} (R:RelM c nt M st a w) (hle:M.Le M' false) (hm:Mem c M' sto') (hh:M'.h=w'.heap) (hn:M'.nx=nx')
 (h1:w'.os=w.os) (h2:w'.tape=w.tape) (h3:w'.output=w.output):RelM c nt M' ⟨st.env,sto',nx'⟩ a w' :=
 ⟨hh,hn,hm,fun t=>Rd.mono hle _ _ (R.env t),R.sz,R.defs,h1.trans R.os,h2.trans R.tape,h3.trans R.output⟩
def boxD (d:D) (K:Box->Prop):Prop :=
 match d with
 | .agg l=>K (.var l)| .vec n g=>K (.vec n g)
 | d=>match d.cell with
   | true=>K (.var [d])| false=>False
theorem boxD_of {d:D} {K:Box->Prop} {v:Value} (h:boxD d K) (hv:Rd M false d v) :
 ∃ bx,K bx/\bx≠.dead/\∀ (M' : Mi) (n b ty:Nat),M.Le M' false->M'.ρ n=some b->M'.h[b]? = some (.cells v.cells ty (0,0))->BoxOK M' n bx:=by
 unfold boxD at h;split at h
 ·simp only [Rd] at hv;obtain ⟨cs,rfl,hr⟩:=hv;exact ⟨_,h,by simp,fun M' n b ty hle hρ hb=>⟨b,cs,ty,hρ,hb,RdL.mono hle _ _ hr⟩⟩
 ·simp only [Rd] at hv;obtain ⟨cs,rfl,hs,hr⟩:=hv;exact ⟨_,h,by simp,fun M' n b ty hle hρ hb=>⟨b,cs,ty,hρ,hb,hs,fun i x hx=>⟨(hr i x hx).1,Rd.mono hle _ _ (hr i x hx).2⟩⟩⟩
 ·split at h
  ·rename_i hc;obtain ⟨h1,h2⟩:=hv.cell hc;refine ⟨_,h,by simp,fun M' n b ty hle hρ hb=>⟨b,#[v],ty,hρ,by rw [<-h2];exact hb,?_⟩⟩;simp only [RdL];exact ⟨h1,Rd.mono hle _ _ hv,trivial⟩
  ·exact h.elim
theorem RelM.box (R:RelM c nt M st a w) {v:Value} {bx:Box} (ty:Nat)
 (hb:∀ (M' : Mi) (n b:Nat),M.Le M' false->M'.ρ n=some b->M'.h[b]? = some (.cells v.cells ty (0,0))->BoxOK M' n bx) :
 ∃ M',RelM c nt M' ⟨st.env,upd st.sto st.nxt bx,st.nxt+1⟩ a (w.alloc (.cells v.cells ty))/\Rd M' false (.loc st.nxt 0) (.pointer (some ⟨w.heap.size,0,none⟩))/\M.Le M' false:=by
 have hsz:M.h.size=w.heap.size:=by rw [R.h]
 have key:=R.mem.new (.cells v.cells ty) (.pointer none) bx (hb _ _ M.h.size ?_ (by simp [Mi.give,upd_self]) (by simp [Mi.give]))
 ·obtain ⟨hm,hle⟩:=key;refine ⟨_,R.go hle (by rw [<-R.nx];exact hm) (by simp only [Mi.give,R.h];rfl) (by simp [Mi.give,R.nx]) rfl rfl rfl,?_,hle⟩;simp only [Rd,Mi.give,<-R.nx];exact ⟨trivial,Nat.lt_succ_self _,w.heap.size,by rw [upd_self,hsz],rfl⟩
 ·refine ⟨fun _ h=>h,fun b hb=>?_,fun _=>Nat.le_succ _,fun _ n hn=>upd_ne _ _ (Nat.ne_of_lt hn),fun _ n hn=>upd_ne _ _ (Nat.ne_of_lt hn),fun _ n hn=>upd_ne _ _ (Nat.ne_of_lt hn)⟩;have:=R.mem.Slt b hb;simp only [Mi.give];rw [Array.getElem?_push,if_neg (by omega)]
theorem RelM.boxH (R:RelM c nt M st a w) {v:Value} {bx:Box} (ty:Nat)
 (hb:∀ (M' : Mi) (n b:Nat),M.Le M' false->hoff (M'.hv n)=0->M'.ρ n=some b->M'.h[b]? = some (.cells v.cells ty (0,0))->BoxOK M' n bx) :
 ∃ M',RelM c nt M' ⟨st.env,upd st.sto st.nxt bx,st.nxt+1⟩ a (w.alloc (.cells v.cells ty))/\Rd M' false (.loc st.nxt 0) (.pointer (some ⟨w.heap.size,0,none⟩))/\M.Le M' false:=by
 have hsz:M.h.size=w.heap.size:=by rw [R.h]
 have key:=R.mem.new (.cells v.cells ty) (.pointer none) bx (hb _ _ M.h.size ?_ (by simp [Mi.give,upd_self,hoff]) (by simp [Mi.give,upd_self]) (by simp [Mi.give]))
 ·obtain ⟨hm,hle⟩:=key;refine ⟨_,R.go hle (by rw [<-R.nx];exact hm) (by simp only [Mi.give,R.h];rfl) (by simp [Mi.give,R.nx]) rfl rfl rfl,?_,hle⟩;simp only [Rd,Mi.give,<-R.nx];exact ⟨trivial,Nat.lt_succ_self _,w.heap.size,by rw [upd_self,hsz],rfl⟩
 ·refine ⟨fun _ h=>h,fun b hb=>?_,fun _=>Nat.le_succ _,fun _ n hn=>upd_ne _ _ (Nat.ne_of_lt hn),fun _ n hn=>upd_ne _ _ (Nat.ne_of_lt hn),fun _ n hn=>upd_ne _ _ (Nat.ne_of_lt hn)⟩;have:=R.mem.Slt b hb;simp only [Mi.give];rw [Array.getElem?_push,if_neg (by omega)]
theorem setV_eq:∀ (l:List Value) (k:Nat) (m:List Value),k+m.length<=l.length->setV l k m=l.take k ++ m ++ l.drop (k+m.length)
 | l,k,[],_=>by simp [setV]
 | [],_,_ :: _,h=>by simp at h
 | x :: l,0,v :: vs,h=>by
   have:=setV_eq l 0 vs (by simpa using h);simp only [setV,this];simp
 | x :: l,k+1,v :: vs,h=>by
   have:=setV_eq l k (v :: vs) (by simp at h ⊢;omega)
   have e:k+1+(v :: vs).length=k+(v :: vs).length+1:=by omega
   rw [e];simp only [setV,this,List.take_succ_cons,List.drop_succ_cons,List.cons_append]
theorem run_storeAt (H:TyOK P Γ) {t:Nat} {sz:Nat} (hs:szB Γ t sz=true) (w:World) (b off:Nat) (cur:Array Value) (ty:Nat) (hb:w.heap[b]? = some (.cells cur ty (0,0))) (v:Value) (hv:v.cells.size=sz)
 (hle:off+v.cells.size<=cur.size) (h1:∀ u ∈ v.cells.toList,u.oneCell' = true) :
 (Instr.storeAt t (.pointer (some ⟨b,off,none⟩)) v).run P w = .ok () (w.setRow b (setV cur.toList off v.cells.toList).toArray):=by
 obtain ⟨_,_,i,hi,his⟩:=szB_of H hs;have hrun:=run_storeCells_at (P:=P) b off ty v.cells.toList 0 cur w hb (by simpa using hle) h1;simp only [Instr.storeAt,Instr.sureAddr,storeVar,Sem.run_bind,Sem.run_pure,Result.andThen_ok,run_sizeOf hi,his];rw [if_neg (by simp [hv])];simp only [Nat.add_zero] at hrun;rw [setV_eq _ _ _ (by simpa using hle)];simpa using hrun
theorem RelM.store (R:RelM c nt M st a w) {n b:Nat} {bx:Box} (hd:st.sto n≠.dead) (hX:(st.sto n).isFam=bx.isFam) (hρ:M.ρ n=some b) {cur cs:Array Value} {ty:Nat} (hb:M.h[b]? = some (.cells cur ty (0,0)))
 (hbx:∀ (M' : Mi),M.Le M' false->M'.ρ n=some b->M'.hv n=M.hv n->M'.h[b]? = some (.cells cs ty (0,0))->BoxOK M' n bx) :
 ∃ M',RelM c nt M' ⟨st.env,upd st.sto n bx,st.nxt⟩ a (w.setRow b cs):=by
 have hb' : w.heap[b]? = some (.cells cur ty (0,0)):=by rw [<-R.h];exact hb
 have hn:=setRow_heap w b cur cs ty (0,0) hb'
 have hsz:(w.setRow b cs).heap.size=w.heap.size:=by simp [World.setRow]
 have ho:∀ k,k≠b->(w.setRow b cs).heap[k]? = M.h[k]?:=fun k hk=>by rw [setRow_other w b k cs hk,R.h]
 have hle:M.Le { M with h:=(w.setRow b cs).heap } false:=⟨fun _ h=>h,fun k hk=>ho k (fun e=>R.mem.sep n b hd hρ (e ▸ hk)),fun _=>Nat.le_refl _,fun _ _ _=>rfl,fun _ _ _=>rfl,fun _ _ _=>rfl⟩;obtain ⟨hm,hle⟩:=R.mem.set hd hρ (w.setRow b cs).heap (by rw [hsz,R.h]) ho bx (hbx _ hle hρ rfl hn) hX;exact ⟨_,R.go hle hm rfl R.nx rfl rfl rfl⟩
theorem RelM.storeL (R:RelM c nt M st a w) {n b:Nat} {bx:Box} (hd:st.sto n≠.dead) (hX:(st.sto n).isFam=bx.isFam) (hρ:M.ρ n=some b) {cur cs:Array Value} {ty:Nat} (hb:M.h[b]? = some (.cells cur ty (0,0)))
 (hbx:∀ (M' : Mi),M.Le M' false->M'.ρ n=some b->M'.hv n=M.hv n->M'.h[b]? = some (.cells cs ty (0,0))->BoxOK M' n bx) :
 ∃ M',RelM c nt M' ⟨st.env,upd st.sto n bx,st.nxt⟩ a (w.setRow b cs)/\M.Le M' false:=by
 have hb' : w.heap[b]? = some (.cells cur ty (0,0)):=by rw [<-R.h];exact hb
 have hn:=setRow_heap w b cur cs ty (0,0) hb'
 have hsz:(w.setRow b cs).heap.size=w.heap.size:=by simp [World.setRow]
 have ho:∀ k,k≠b->(w.setRow b cs).heap[k]? = M.h[k]?:=fun k hk=>by rw [setRow_other w b k cs hk,R.h]
 have hle:M.Le { M with h:=(w.setRow b cs).heap } false:=⟨fun _ h=>h,fun k hk=>ho k (fun e=>R.mem.sep n b hd hρ (e ▸ hk)),fun _=>Nat.le_refl _,fun _ _ _=>rfl,fun _ _ _=>rfl,fun _ _ _=>rfl⟩;obtain ⟨hm,hle⟩:=R.mem.set hd hρ (w.setRow b cs).heap (by rw [hsz,R.h]) ho bx (hbx _ hle hρ rfl hn) hX;exact ⟨_,R.go hle hm rfl R.nx rfl rfl rfl,hle⟩
def cellsD (d:D) (K:List D->Prop):Prop :=
 match d with
 | .agg l=>K l
 | d=>match d.cell with
   | true=>K [d]| false=>False
theorem cellsD_of {d:D} {K:List D->Prop} {v:Value} (h:cellsD d K) (hv:Rd M false d v):∃ l,K l/\RdL M false l v.cells.toList:=by
 unfold cellsD at h;split at h
 ·simp only [Rd] at hv;obtain ⟨cs,rfl,hr⟩:=hv;exact ⟨_,h,hr⟩
 ·split at h
  ·rename_i hc;obtain ⟨h1,h2⟩:=hv.cell hc;refine ⟨_,h,?_⟩;rw [h2];simp only [RdL];exact ⟨h1,hv,trivial⟩
  ·exact h.elim
def D.immB:D->Bool
 | .int .. | .lit _ | .bool _ | .str _ | .nil | .tab .. | .ref _ | .null | .nilfn | .mapb _ | .val _=>true| _=>false
def immL:List D->Bool
 | []=>true
 | d :: l=>match d.immB with | true=>immL l | false=>false
theorem Rd.immB {d:D} {v:Value} {im:Bool} (h:d.immB=true) (hv:Rd M im d v):Rd M true d v:=by
 cases d<;>simp only [D.immB,bft] at h<;>simpa only [Rd] using hv
theorem RdL.immL {im:Bool}:∀ {l:List D} {vs:List Value},Sx.immL l=true->RdL M im l vs->RdL M true l vs
 | [],[],_,_=>by simp [RdL]
 | d :: l,v :: vs,h,hv=>by
   simp only [Sx.immL] at h;split at h
   ·rename_i h1;simp only [RdL] at hv ⊢;exact ⟨hv.1,Rd.immB h1 hv.2.1,RdL.immL h hv.2.2⟩
   ·cases h
 | [],_ :: _,_,hv=>by simp [RdL] at hv
 | _ :: _,[],_,hv=>by simp [RdL] at hv
def storeD (Γ:Ty) (st:St) (t:Nat) (p:D) (d:D) (K:St->Prop):Prop :=
 match p with
 | .loc n off=>match st.sto n with
   | .var l=>D.force d fun d=>cellsD d fun m=>match szB Γ t m.length,Nat.ble (off+m.length) l.length with
     | true,true=>st.on fun e_ s_ k_=>K ⟨e_,upd s_ n (.var (setL l off m)),k_⟩
     | _,_=>False
   | .vec m g=>D.force d fun d=>match d with
     | .vec m' g'=>match Nat.beq off 0,Nat.beq m m',szB Γ t m with
       | true,true,true=>st.on fun e_ s_ k_=>K ⟨e_,upd s_ n (.vec m g'),k_⟩
       | _,_,_=>False
     | d=>match d.cell,szB Γ t 1 with
       | true,true=>Vc (off<m) (st.on fun e_ s_ k_=>K ⟨e_,upd s_ n (.vec m fun i=>D.ite (i=off) d (g i)),k_⟩)| _,_=>False
   | .bld ty u _=>match off with
     | 1=>D.force d fun d=>match d.cell,szB Γ t 1 with
       | true,true=>st.on fun e_ s_ k_=>K ⟨e_,upd s_ n (.bld ty u d),k_⟩
       | _,_=>False
     | _=>False
   | _=>False
 | .pel n sz i off=>match st.sto n with
   | .arr e sz' k f=>D.force d fun d=>cellsD d fun m=>match Nat.beq sz sz',szB Γ t m.length,Nat.ble (off+m.length) sz,immL m with
     | true,true,true,true=>Vc (i<k) (st.on fun e_ s_ k_=>K ⟨e_,upd s_ n (.arr e sz' k fun j=>iteL (j=i) (setL (f i) off m) (f j)),k_⟩)| _,_,_,_=>False
   | .blk e sz' cap kn f=>D.force d fun d=>cellsD d fun m=>match Nat.beq sz sz',szB Γ t m.length,Nat.ble (off+m.length) sz,immL m with
     | true,true,true,true=>Vc (i<kn) (st.on fun e_ s_ k_=>K ⟨e_,upd s_ n (.blk e sz' cap kn fun j=>iteL (j=i) (setL (f i) off m) (f j)),k_⟩)| _,_,_,_=>False
   | _=>False
 | _=>False
theorem storeD_ok (H:TyOK P Γ) (R:RelM c nt M st a w) {t:Nat} {p d:D} {x v:Value} {K:St->Prop} (h:storeD Γ st t p d K) (hp:Rd M false p x) (hv:Rd M false d v) :
 ∃ st' M' w',K st'/\RelM c nt M' st' a w'/\(Instr.storeAt t x v).run P w = .ok () w':=by
 unfold storeD at h;split at h
 ·rename_i n off;simp only [Rd] at hp;obtain ⟨_,hn,b,hρ,rfl⟩:=hp;have hb:=R.mem.box n hn;split at h
  ·rename_i l hs;rw [hs] at hb;obtain ⟨b',cs,ty,h1,h2,h3⟩:=hb;rw [hρ] at h1;cases h1;rw [force_eq] at h;obtain ⟨m,h,hm⟩:=cellsD_of h hv;split at h
   ·rename_i hsz hble;have hble:=Nat.le_of_ble_eq_true hble;have hml:=hm.length;have hll:=h3.length
    have hw:w.heap[b]? = some (.cells cs ty (0,0)):=by rw [<-R.h];exact h2
    have hvs:v.cells.size=m.length:=by simpa using hml.symm
    obtain ⟨M',R'⟩:=R.store (by rw [hs];simp) (by rw [hs];rfl) hρ (cs:=(setV cs.toList off v.cells.toList).toArray) h2 (bx:=.var (setL l off m)) fun M' hle hρ' _ hb' =>
     ⟨b,_,ty,hρ',hb',by simpa using (RdL.mono hle _ _ h3).set (RdL.mono hle _ _ hm)⟩
    exact ⟨_,M',_,h,R',run_storeAt H hsz w b off cs ty hw v hvs (by simp at hll;omega) (hm.one)⟩
   ·exact h.elim
  ·rename_i m g hs;rw [hs] at hb;obtain ⟨b',cs,ty,h1,h2,h3,h4⟩:=hb;rw [hρ] at h1;cases h1
   have hw:w.heap[b]? = some (.cells cs ty (0,0)):=by rw [<-R.h];exact h2
   rw [force_eq] at h;split at h
   ·rename_i m' g';split at h
    ·rename_i e1 e2 hsz;have e1:=nbq e1;have e2:=nbq e2;subst e1 e2;simp only [Rd] at hv;obtain ⟨cs',rfl,hs',hr'⟩:=hv
     obtain ⟨M',R'⟩:=R.store (by rw [hs];simp) (by rw [hs];rfl) hρ (cs:=(setV cs.toList 0 (Value.agg cs').cells.toList).toArray) h2 (bx:=.vec m g') fun M' hle hρ' _ hb'=>by
      have hfull:(setV cs.toList 0 cs'.toList)=cs'.toList:=by
       rw [setV_eq _ _ _ (by simp;omega)];simp [ddl,h3,hs']
      refine ⟨b,_,ty,hρ',hb',by simp [length_setV,h3],fun i y hy=>?_⟩
      have hy' : cs'[i]? = some y:=by
       have:(setV cs.toList 0 cs'.toList).toArray[i]? = some y:=hy;rw [hfull] at this;simpa using this
      exact ⟨(hr' i y hy').1,Rd.mono hle _ _ (hr' i y hy').2⟩
     exact ⟨_,M',_,h,R',run_storeAt H hsz w b 0 cs ty hw (.agg cs') hs' (by simp [Value.cells];omega) (fun u hu=>by
      obtain ⟨i,hi⟩:=List.mem_iff_getElem?.1 hu
      exact (hr' i u (by simpa [Value.cells] using hi)).1)⟩
    ·exact h.elim
   ·split at h
    ·rename_i hc hsz;obtain ⟨hoff,h⟩:=h;obtain ⟨v1,v2⟩:=hv.cell hc
     obtain ⟨M',R'⟩:=R.store (by rw [hs];simp) (by rw [hs];rfl) hρ (cs:=(setV cs.toList off v.cells.toList).toArray) h2 (bx:=.vec m fun i=>D.ite (i=off) d (g i)) fun M' hle hρ' _ hb'=>by
      refine ⟨b,_,ty,hρ',hb',by simp [length_setV,h3],fun i y hy=>?_⟩
      have hy' : (setV cs.toList off [v])[i]? = some y:=by rw [v2] at hy;simpa using hy
      have hi:i<cs.toList.length:=by
       have:=(List.getElem?_eq_some_iff.1 hy').1
       rwa [length_setV] at this
      rw [get_setV _ _ _ _ hi] at hy';by_cases e:i=off
      ·subst e;rw [if_pos (by simp)] at hy';simp at hy';subst hy';exact ⟨v1,Rd.ite (fun _=>Rd.mono hle _ _ hv) (fun h=>absurd rfl h)⟩
      ·rw [if_neg (by simp;omega)] at hy';have:=h4 i y (by simpa using hy');exact ⟨this.1,Rd.ite (fun h=>absurd h e) (fun _=>Rd.mono hle _ _ this.2)⟩
     exact ⟨_,M',_,h,R',run_storeAt H hsz w b off cs ty hw v (by rw [v2];rfl) (by rw [v2];simp;omega) (by rw [v2];simpa using v1)⟩
    ·exact h.elim
  ·rename_i ty u q hs;rw [hs] at hb;obtain ⟨b',z,h1,h2,h3,h4⟩:=hb;rw [hρ] at h1;cases h1
   have hw:w.heap[b]? = some (.cells #[bif u then .pointer (some ⟨b,0,none⟩) else .pointer none,z] ty (0,0)):=by rw [<-R.h];exact h2
   split at h
   ·rw [force_eq] at h;split at h
    ·rename_i hc hsz;obtain ⟨v1,v2⟩:=hv.cell hc
     obtain ⟨M',R'⟩:=R.store (by rw [hs];simp) (by rw [hs];rfl) hρ (cs:=(setV [bif u then .pointer (some ⟨b,0,none⟩) else .pointer none,z] 1 v.cells.toList).toArray) h2 (bx:=.bld ty u d) fun M' hle hρ' _ hb' =>
      ⟨b,v,hρ',by rw [hb',v2];rfl,v1,Rd.mono hle _ _ hv⟩
     exact ⟨_,M',_,h,R',run_storeAt H hsz w b 1 _ ty hw v (by rw [v2];rfl) (by rw [v2];simp) (by rw [v2];simpa using v1)⟩
    ·exact h.elim
   ·exact h.elim
  ·exact h.elim
 ·rename_i n sz i off;simp only [Rd] at hp;obtain ⟨_,hn,b,hρ,rfl⟩:=hp;have hb:=R.mem.box n hn;split at h
  ·rename_i e sz' k f hs;rw [hs] at hb;obtain ⟨xs,o1,o2,o3,o4⟩:=hb;rw [force_eq] at h;obtain ⟨m,h,hm⟩:=cellsD_of h hv;split at h
   ·rename_i e1 hsz hble him;have e1:=nbq e1;subst e1;have hble:=Nat.le_of_ble_eq_true hble;obtain ⟨hi,h⟩:=h;have hml:=hm.length
    have hvs:v.cells.size=m.length:=by simpa using hml.symm
    rcases o1.2 with ⟨hnil,hn0⟩ | ⟨g,cap,cur,hg,hblk,hnc,hcm,hcs,ht⟩
    ·omega
    rw [hρ,hg] at o2;simp only [Value.ownBlock,Option.some.injEq] at o2;subst o2
    have hw:w.heap[b]? = some (.cells cur e (0,0)):=by rw [<-R.h];exact hblk
    have hik:i*sz+sz<=k*sz:=by rw [<-Nat.succ_mul];exact Nat.mul_le_mul_right _ hi
    have hkc:k*sz<=cap*sz:=Nat.mul_le_mul_right _ hnc
    have hcl:cur.toList.length=cap*sz:=by simpa using hcs
    have hvl:v.cells.toList.length=m.length:=by simpa using hvs
    obtain ⟨M',R'⟩:=R.store (by rw [hs];simp) (by rw [hs];rfl) hρ (cs:=(setV cur.toList (i*sz+off) v.cells.toList).toArray) hblk (bx:=.arr e sz k fun j=>iteL (j=i) (setL (f i) off m) (f j)) fun M' hle hρ' hv' hb'=>by
     refine ⟨(setV cur.toList (i*sz+off) v.cells.toList).take (k*sz),⟨by rw [List.length_take,length_setV];omega,.inr ⟨b,cap,_,by rw [hv'];exact hg,hb',hnc,hcm,by simp [length_setV,hcs],by simp⟩⟩,by rw [hρ',hv',hg];rfl,fun j hj=>?_,fun u hu=>?_⟩
     ·have hjk:j*sz+sz<=k*sz:=by rw [<-Nat.succ_mul];exact Nat.mul_le_mul_right _ hj
      have hel:∀ q,q<sz->(((setV cur.toList (i*sz+off) v.cells.toList).take (k*sz)).drop (j*sz))[q]? = (setV cur.toList (i*sz+off) v.cells.toList)[j*sz+q]?:=fun q hq=>by
       rw [List.getElem?_drop,List.getElem?_take,if_pos (by omega)]
      by_cases hji:j=i
      ·subst hji;refine RdL.ite (fun _=>?_) (fun h=>absurd rfl h)
       have e0:(((setV cur.toList (j*sz+off) v.cells.toList).take (k*sz)).drop (j*sz)).take sz=setV ((xs.drop (j*sz)).take sz) off v.cells.toList:=by
        apply List.ext_getElem?;intro q;by_cases hq:q<sz
        ·rw [List.getElem?_take,if_pos hq,hel q hq,get_setV _ _ _ _ (by omega),get_setV _ _ _ _ (by simp [o1.1];omega)];by_cases hin:off<=q/\q<off+v.cells.toList.length
         ·rw [if_pos (by omega),if_pos hin];congr 1;omega
         ·rw [if_neg (by omega),if_neg hin,List.getElem?_take,if_pos hq,List.getElem?_drop,<-ht,List.getElem?_take,if_pos (by omega)]
        ·rw [List.getElem?_eq_none (by simp;omega),List.getElem?_eq_none (by rw [length_setV];simp;omega)]
       rw [e0];exact (RdL.mono hle.im _ _ (o3 j hj)).set (RdL.mono hle.im _ _ (hm.immL him))
      ·refine RdL.ite (fun h=>absurd h hji) (fun _=>?_)
       have e0:(((setV cur.toList (i*sz+off) v.cells.toList).take (k*sz)).drop (j*sz)).take sz=(xs.drop (j*sz)).take sz:=by
        apply List.ext_getElem?;intro q;by_cases hq:q<sz
        ·have hne:j*sz+sz<=i*sz\/i*sz+sz<=j*sz:=by
          rcases Nat.lt_or_gt_of_ne hji with h | h
          ·exact .inl (by rw [<-Nat.succ_mul];exact Nat.mul_le_mul_right _ h)
          ·exact .inr (by rw [<-Nat.succ_mul];exact Nat.mul_le_mul_right _ h)
         rw [List.getElem?_take,if_pos hq,hel q hq,get_setV _ _ _ _ (by omega),if_neg (by omega),List.getElem?_take,if_pos hq,List.getElem?_drop,<-ht,List.getElem?_take,if_pos (by omega)]
        ·rw [List.getElem?_eq_none (by simp;omega),List.getElem?_eq_none (by simp;omega)]
       rw [e0];exact RdL.mono hle.im _ _ (o3 j hj)
     ·obtain ⟨q,hq⟩:=List.mem_iff_getElem?.1 hu
      have hqk:q<k*sz:=by
       have:=(List.getElem?_eq_some_iff.1 hq).1;rw [List.length_take] at this;omega
      rw [List.getElem?_take,if_pos hqk,get_setV _ _ _ _ (by omega)] at hq;by_cases hin:i*sz+off<=q/\q<i*sz+off+v.cells.toList.length
      ·rw [if_pos hin] at hq;exact hm.one u (List.mem_of_getElem? hq)
      ·rw [if_neg hin] at hq;refine o4 u ?_;rw [<-ht];refine List.mem_of_getElem? (i:=q) ?_;rw [List.getElem?_take,if_pos hqk];exact hq
    rw [show Sx.hoff (M.hv n)=0 by rw [hg];rfl,Nat.zero_add];exact ⟨_,M',_,h,R',run_storeAt H hsz w b (i*sz+off) cur e hw v hvs (by omega) (hm.one)⟩
   ·exact h.elim
  ·rename_i e sz' cap kn f hs;rw [hs] at hb;obtain ⟨h0,b',cur,o1,hblk,hcs,hnc,hcm,o3⟩:=hb;rw [hρ] at o1;cases o1;rw [force_eq] at h;obtain ⟨m,h,hm⟩:=cellsD_of h hv;split at h
   ·rename_i e1 hsz hble him;have e1:=nbq e1;subst e1;have hble:=Nat.le_of_ble_eq_true hble;obtain ⟨hi,h⟩:=h;have hml:=hm.length
    have hvs:v.cells.size=m.length:=by simpa using hml.symm
    have hw:w.heap[b]? = some (.cells cur e (0,0)):=by rw [<-R.h];exact hblk
    have hik:i*sz+sz<=kn*sz:=by rw [<-Nat.succ_mul];exact Nat.mul_le_mul_right _ hi
    have hkc:kn*sz<=cap*sz:=Nat.mul_le_mul_right _ hnc
    have hcl:cur.toList.length=cap*sz:=by simpa using hcs
    have hvl:v.cells.toList.length=m.length:=by simpa using hvs
    obtain ⟨M',R'⟩:=R.store (by rw [hs];simp) (by rw [hs];rfl) hρ (cs:=(setV cur.toList (i*sz+off) v.cells.toList).toArray) hblk (bx:=.blk e sz cap kn fun j=>iteL (j=i) (setL (f i) off m) (f j)) fun M' hle hρ' hv' hb'=>by
     refine ⟨by rw [hv'];exact h0,b,_,hρ',hb',by simp [length_setV,hcs],hnc,hcm,fun j hj=>?_⟩
     have hjk:j*sz+sz<=kn*sz:=by rw [<-Nat.succ_mul];exact Nat.mul_le_mul_right _ hj
     have hel:∀ q,q<sz->((setV cur.toList (i*sz+off) v.cells.toList).drop (j*sz))[q]? = (setV cur.toList (i*sz+off) v.cells.toList)[j*sz+q]?:=fun q hq=>by
      rw [List.getElem?_drop]
     by_cases hji:j=i
     ·subst hji;refine RdL.ite (fun _=>?_) (fun h=>absurd rfl h)
      have e0:((setV cur.toList (j*sz+off) v.cells.toList).drop (j*sz)).take sz=setV ((cur.toList.drop (j*sz)).take sz) off v.cells.toList:=by
       apply List.ext_getElem?;intro q;by_cases hq:q<sz
       ·rw [List.getElem?_take,if_pos hq,hel q hq,get_setV _ _ _ _ (by omega),get_setV _ _ _ _ (by simp [hcs];omega)];by_cases hin:off<=q/\q<off+v.cells.toList.length
        ·rw [if_pos (by omega),if_pos hin];congr 1;omega
        ·rw [if_neg (by omega),if_neg hin,List.getElem?_take,if_pos hq,List.getElem?_drop]
       ·rw [List.getElem?_eq_none (by simp;omega),List.getElem?_eq_none (by rw [length_setV];simp;omega)]
      show RdL M' true (setL (f j) off m) (((setV cur.toList (j*sz+off) v.cells.toList).drop (j*sz)).take sz)
      rw [e0];exact (RdL.mono hle.im _ _ (o3 j hj)).set (RdL.mono hle.im _ _ (hm.immL him))
     ·refine RdL.ite (fun h=>absurd h hji) (fun _=>?_)
      have e0:((setV cur.toList (i*sz+off) v.cells.toList).drop (j*sz)).take sz=(cur.toList.drop (j*sz)).take sz:=by
       apply List.ext_getElem?;intro q;by_cases hq:q<sz
       ·have hne:j*sz+sz<=i*sz\/i*sz+sz<=j*sz:=by
         rcases Nat.lt_or_gt_of_ne hji with h | h
         ·exact .inl (by rw [<-Nat.succ_mul];exact Nat.mul_le_mul_right _ h)
         ·exact .inr (by rw [<-Nat.succ_mul];exact Nat.mul_le_mul_right _ h)
        rw [List.getElem?_take,if_pos hq,hel q hq,get_setV _ _ _ _ (by omega),if_neg (by omega),List.getElem?_take,if_pos hq,List.getElem?_drop]
       ·rw [List.getElem?_eq_none (by simp;omega),List.getElem?_eq_none (by simp;omega)]
      show RdL M' true (f j) (((setV cur.toList (i*sz+off) v.cells.toList).drop (j*sz)).take sz)
      rw [e0];exact RdL.mono hle.im _ _ (o3 j hj)
    rw [h0,Nat.zero_add];exact ⟨_,M',_,h,R',run_storeAt H hsz w b (i*sz+off) cur e hw v hvs (by omega) (hm.one)⟩
   ·exact h.elim
  ·exact h.elim
 ·exact h.elim
end
end Sx
namespace Sx
open Go
section
variable {P:Program} {Γ:Ty} {c:Cx P} {nt:Nt} {M:Mi} {st:St} {a:Act} {w:World}
theorem RelM.arr (R:RelM c nt M st a w) {cs:Array Value} {e sz k cap:Nat} {f:Nat->List D} (hk:k<=cap) (hcm:cap<=maxLen) (hcs:cs.size=cap*sz)
 (hel:∀ i,i<k->RdL M true (f i) ((cs.toList.drop (i*sz)).take sz)) (h1:∀ u ∈ cs.toList.take (k*sz),u.oneCell' = true) {w' : World} (hw:w'.heap=w.heap.push (.cells cs e)) (ho:w'.os=w.os) (htp:w'.tape=w.tape) (hout:w'.output=w.output) :
 ∃ M',RelM c nt M' ⟨st.env,upd st.sto st.nxt (.arr e sz k f),st.nxt+1⟩ a w'/\Rd M' false (.own st.nxt) (.slice (some ⟨w.heap.size,0,none⟩) k cap)/\M.Le M' false:=by
 have hsz:M.h.size=w.heap.size:=by rw [R.h]
 have hlk:k*sz<=cap*sz:=Nat.mul_le_mul_right _ hk
 have hcl:cs.toList.length=cap*sz:=by simpa using hcs
 have hle0:M.Le ((({ M with h:=M.h.push (.cells cs e) }:Mi).give (some M.h.size) (.slice (some ⟨w.heap.size,0,none⟩) k cap))) false:=by
  refine ⟨fun _ h=>h,fun b hb=>?_,fun _=>Nat.le_succ _,fun _ n hn=>upd_ne _ _ (Nat.ne_of_lt hn),fun _ n hn=>upd_ne _ _ (Nat.ne_of_lt hn),fun _ n hn=>upd_ne _ _ (Nat.ne_of_lt hn)⟩;have:=R.mem.Slt b hb;simp only [Mi.give];rw [Array.getElem?_push,if_neg (by omega)]
 have key:=R.mem.new (.cells cs e) (.slice (some ⟨w.heap.size,0,none⟩) k cap) (.arr e sz k f) (by
  refine ⟨cs.toList.take (k*sz),⟨by rw [List.length_take];omega,.inr ⟨w.heap.size,cap,cs,by simp [Mi.give,upd_self],?_,hk,hcm,hcs,rfl⟩⟩,by simp [Mi.give,upd_self,Value.ownBlock,hsz],fun i hi=>?_,h1⟩
  ·simp only [Mi.give];rw [Array.getElem?_push,if_pos (by rw [hsz])]
  ·have hi' : i*sz+sz<=k*sz:=by rw [<-Nat.succ_mul];exact Nat.mul_le_mul_right _ hi
   have e0:((cs.toList.take (k*sz)).drop (i*sz)).take sz=(cs.toList.drop (i*sz)).take sz:=by
    rw [List.drop_take,List.take_take];congr 1;omega
   rw [e0]
   exact RdL.mono hle0.im _ _ (hel i hi))
 obtain ⟨hm,hle⟩:=key;refine ⟨_,R.go hle (by rw [<-R.nx];exact hm) (by simp only [Mi.give,R.h,hw]) (by simp [Mi.give,R.nx]) ho htp hout,?_,hle⟩;simp only [Rd,Mi.give,<-R.nx];exact ⟨trivial,Nat.lt_succ_self _,by rw [upd_self],_,_,_,rfl⟩
def makeD (Γ:Ty) (st:St) (t:Nat) (l m:D) (K:D->St->Prop):Prop :=
 match (Γ.get t).k,l,m with
 | .slice e,.int _ x,.int _ y=>cellsD (Γ.get e).zero fun z=>match szB Γ e z.length,immL z with
   | true,true=>Vc (0<=x/\x<=y/\(Γ.get e).bytes*y<=281474976710656/\y<=9223372036854775807) (st.on fun e_ s_ k_=>K (.own k_) ⟨e_,upd s_ k_ (.arr e z.length x.toNat fun _=>z),k_+1⟩)| _,_=>False
 | _,_,_=>False
theorem made_el {z:Array Value} {n i:Nat} (hi:i<n):(((madeCells z (n*z.size)).toList.drop (i*z.size)).take z.size)=z.toList:=by
 apply List.ext_getElem?;intro j
 have hi' : i*z.size+z.size<=n*z.size:=by rw [<-Nat.succ_mul];exact Nat.mul_le_mul_right _ hi
 by_cases hj:j<z.size
 ·rw [List.getElem?_take,if_pos hj,List.getElem?_drop,Array.getElem?_toList]
  have h1:i*z.size+j<n*z.size:=by omega
  have h2:(i*z.size+j) % z.size=j:=by rw [Nat.mul_comm,Nat.mul_add_mod];exact Nat.mod_eq_of_lt hj
  simp only [madeCells,Array.getElem?_map];rw [Array.getElem?_range,if_pos h1];simp [h2,hj]
 ·rw [List.getElem?_eq_none (by simp;omega),List.getElem?_eq_none (by simp;omega)]
theorem makeD_ok (H:TyOK P Γ) (R:RelM c nt M st a w) {t:Nat} {l m:D} {x y:Value} {K:D->St->Prop} (h:makeD Γ st t l m K) (hx:Rd M false l x) (hy:Rd M false m y) :
 ∃ d st' v M' w',K d st'/\RelM c nt M' st' a w'/\Rd M' false d v/\(Instr.makeSlice t x y).run P w = .ok v w':=by
 unfold makeD at h;split at h
 ·rename_i e k1 x k2 y hk;simp only [Rd] at hx hy;subst hx hy;obtain ⟨i0,d0,z0,hi0,hu0,_,_,_,_,_,hkc0⟩:=H.ok hk (by simp)
  cases d0<;>simp only [kchk,bft] at hkc0
  have hkc0:=by simpa using hkc0
  subst hkc0
  have hne:(Γ.get e).size≠0\/(Γ.get e).size=0:=by omega
  rcases H e with hbad | hok
  ·exfalso;unfold cellsD at h;split at h
   ·rename_i z _;split at h
    ·rename_i hs _;have:=(szB_of H hs).1;have:=(szB_of H hs).2.1;have:=hbad.2;omega
    ·exact h.elim
   ·split at h
    ·split at h
     ·rename_i hs _;have:=(szB_of H hs).1;have:=(szB_of H hs).2.1;have:=hbad.2;omega
     ·exact h.elim
    ·exact h.elim
  ·obtain ⟨ie,de,ze,hie,hue,hse,hbe,hze,hzc,hzk,_⟩:=hok.ex;obtain ⟨z,h,hz⟩:=cellsD_of (M:=M) h (zchk_rd hzk);split at h
   ·rename_i hs him;obtain ⟨hs1,hs2,_,_,_⟩:=szB_of H hs;obtain ⟨⟨h0,hxy,hb,h63⟩,h⟩:=h
    have hzl:z.length=ze.cells.size:=by have:=hz.length;simpa using this
    have hrun:=run_make (P:=P) w t e ie ze hu0 hie hze k1 k2 x y h0 hxy (by rw [hbe];exact hb) h63
    have hss:ie.size=z.length:=by rw [hse,hs1]
    rw [hss,hzl] at hrun
    have hpos:0<ze.cells.size:=by omega
    obtain ⟨M',R',hr,hle⟩:=R.arr (cs:=madeCells ze.cells (y.toNat*ze.cells.size)) (e:=e) (sz:=z.length) (k:=x.toNat) (cap:=y.toNat) (f:=fun _=>z) (by omega) (by unfold maxLen;omega)
     (by rw [size_madeCells,hzl]) (fun i hi=>by rw [hzl,made_el (by omega)];exact (hz.immL him)) (fun u hu=>by
       obtain ⟨q,hq⟩:=List.mem_iff_getElem?.1 (List.mem_of_mem_take hu)
       have hq' : u ∈ ze.cells.toList:=by
        rw [Array.getElem?_toList] at hq;simp only [madeCells,Array.getElem?_map] at hq;obtain ⟨r,_,hr⟩:=Option.map_eq_some_iff.1 hq;rw [<-hr];have:r % ze.cells.size<ze.cells.size:=Nat.mod_lt _ hpos;simp [this]
       exact hz.one u hq') (w':=w.alloc (.cells (madeCells ze.cells (y.toNat*ze.cells.size)) e)) rfl rfl rfl rfl
    exact ⟨_,_,_,M',_,h,R',hr,hrun⟩
   ·exact h.elim
 ·exact h.elim
def srcD (sto:Nat->Box) (x:D) (K:Nat->Nat->(Nat->List D)->Prop):Prop :=
 match x with
 | .tab sz m g=>K sz m g
 | .own j=>match sto j with
   | .arr _ sz m g=>K sz m g| _=>False
 | .rsl j sz off ln _=>match sto j with
   | .blk _ sz' _ kn f=>match Nat.beq sz sz',Nat.beq sz 0 with
     | true,false=>Vc (off+ln<=kn) (K sz ln fun i=>f (off+i))| _,_=>False
   | .vec k g=>match Nat.beq sz 1 with
     | true=>Vc (off+ln<=k/\∀ i,i<off+ln->(g i).immB=true) (K 1 ln fun i=>[g (off+i)])| false=>False
   | _=>False
 | _=>False
structure Src (M:Mi) (sz m:Nat) (g:Nat->List D) (v:Value) (news:List Value):Prop where
 ex:∃ ad cap,v = .slice ad m cap/\(ad=none->m=0)/\∀ b,ad=some b->∀ (w:World),Keep M w->∀ (j:Nat) (u:Value),news[j]? = some u->w.cell? (b.add j)=some u
 len:news.length=m*sz
 el:∀ i,i<m->RdL M true (g i) ((news.drop (i*sz)).take sz)
 one:∀ u ∈ news,u.oneCell' = true
theorem list_build {α:Type} (m sz:Nat) (p:Nat->List α->Prop) (hp:∀ i,i<m->∃ vs:List α,vs.length=sz/\p i vs) :
 ∃ l:List α,l.length=m*sz/\∀ i,i<m->p i ((l.drop (i*sz)).take sz):=by
 induction m with
 | zero=>exact ⟨[],by simp,fun i hi=>absurd hi (Nat.not_lt_zero i)⟩
 | succ m ih =>
   obtain ⟨l,hl,h⟩:=ih fun i hi=>hp i (by omega)
   obtain ⟨vs,hv,hpv⟩:=hp m (by omega);refine ⟨l ++ vs,by simp [hl,hv,Nat.succ_mul],fun i hi=>?_⟩;by_cases e:i=m
   ·subst e
    have:((l ++ vs).drop (i*sz)).take sz=vs:=by rw [<-hl,List.drop_left,<-hv,List.take_length]
    rw [this];exact hpv
   ·have hi' : i<m:=by omega
    have h2:i*sz+sz<=m*sz:=by rw [<-Nat.succ_mul];exact Nat.mul_le_mul_right _ hi'
    have:((l ++ vs).drop (i*sz)).take sz=(l.drop (i*sz)).take sz:=by
     rw [List.drop_append_of_le_length (by omega),List.take_append_of_le_length (by simp;omega)]
    rw [this];exact h i hi'
theorem seg_seg {α:Type} (l:List α) (a b c d:Nat) (h:c+d<=b):(((l.drop a).take b).drop c).take d=(l.drop (a+c)).take d:=by
 rw [List.drop_take,List.take_take,List.drop_drop,Nat.min_eq_left (by omega)]
theorem blk_src {sz off k b:Nat} {e cap kn:Nat} {f:Nat->List D} {cs:Array Value} (hb:M.h[b]? = some (.cells cs e (0,0))) (hsz:cs.size=cap*sz) (hk:kn<=cap) (hel:∀ i,i<kn->RdL M true (f i) ((cs.toList.drop (i*sz)).take sz)) (hz:0<sz) (ho:off+k<=kn) :
 ∃ news:List Value,news.length=k*sz/\(∀ w,Keep M w->∀ (j:Nat) (u:Value),news[j]? = some u->w.cell? ((⟨b,off*sz,none⟩:Addr).add j)=some u)/\(∀ i,i<k->RdL M true (f (off+i)) ((news.drop (i*sz)).take sz))/\∀ u ∈ news,u.oneCell' = true:=by
 have hle:(off+k)*sz<=cap*sz:=Nat.mul_le_mul_right _ (by omega);rw [Nat.add_mul] at hle
 have hl:((cs.toList.drop (off*sz)).take (k*sz)).length=k*sz:=by simp [hsz];omega
 have el:∀ i,i<k->RdL M true (f (off+i)) ((((cs.toList.drop (off*sz)).take (k*sz)).drop (i*sz)).take sz):=fun i hi=>by
  have:i*sz+sz<=k*sz:=by rw [<-Nat.succ_mul];exact Nat.mul_le_mul_right _ hi
  rw [seg_seg _ _ _ _ _ this,<-Nat.add_mul];exact hel (off+i) (by omega)
 refine ⟨_,hl,fun w hw j u hj=>?_,el,fun u hu=>?_⟩
 ·have hjl:j<k*sz:=by rw [<-hl];exact (List.getElem?_eq_some_iff.1 hj).1
  rw [Addr.add_lit,hw.cellAt (get?_lt hb)];unfold cellAt;rw [hb];rw [List.getElem?_take,if_pos hjl,List.getElem?_drop,Array.getElem?_toList] at hj;exact hj
 ·obtain ⟨j,hj⟩:=List.mem_iff_getElem?.1 hu
  have hjl:j<k*sz:=by rw [<-hl];exact (List.getElem?_eq_some_iff.1 hj).1
  have hi:j / sz<k:=Nat.div_lt_of_lt_mul (by rw [Nat.mul_comm];exact hjl);refine (el (j / sz) hi).one u (List.mem_of_getElem? (i:=j % sz) ?_);rw [List.getElem?_take,if_pos (Nat.mod_lt _ hz),List.getElem?_drop,Nat.mul_comm (j / sz) sz,Nat.div_add_mod];exact hj
theorem srcD_of {sto:Nat->Box} (HM:Mem c M sto) {x:D} {v:Value} {K:Nat->Nat->(Nat->List D)->Prop} (h:srcD sto x K) (hv:Rd M false x v) :
 ∃ sz m g news,K sz m g/\Src M sz m g v news:=by
 unfold srcD at h;split at h
 ·rename_i sz m g;simp only [Rd] at hv;obtain ⟨ad,cap,rfl,hn,hel⟩:=hv
  cases ad with
  | none =>
    have hm:m=0:=by
     rcases Nat.eq_zero_or_pos m with h0 | h0
     ·exact h0
     ·obtain ⟨b,off,hb,_⟩:=hel 0 h0;cases hb
    subst hm;exact ⟨sz,0,g,[],h,⟨none,cap,rfl,fun _=>rfl,nofun⟩,by simp,fun i hi=>absurd hi (Nat.not_lt_zero i),nofun⟩
  | some b =>
    obtain ⟨news,hl,hp⟩:=list_build m sz (fun i vs=>∃ b' off,some b=some (⟨b',off,none⟩:Addr)/\M.S b'/\cellsAt M.h b' (off+i*sz) vs/\RdL M true (g i) vs) (fun i hi=>by
     obtain ⟨b',off,e,hS,vs,h1,h2,h3⟩:=hel i hi
     exact ⟨vs,h1,b',off,e,hS,h2,h3⟩)
    refine ⟨sz,m,g,news,h,⟨some b,cap,rfl,nofun,fun b2 hb2 w hw j u hj=>?_⟩,hl,fun i hi=>(hp i hi).choose_spec.choose_spec.2.2.2,fun u hu=>?_⟩
    ·cases hb2
     have hjl:j<m*sz:=by rw [<-hl];exact (List.getElem?_eq_some_iff.1 hj).1
     have hsz:0<sz:=by rcases Nat.eq_zero_or_pos sz with h0 | h0;(· subst h0;omega);exact h0
     have hi:j / sz<m:=Nat.div_lt_of_lt_mul (by rw [Nat.mul_comm];exact hjl);obtain ⟨b',off,e,hS,hc,_⟩:=hp (j / sz) hi;cases e;have hjm:j % sz<sz:=Nat.mod_lt _ hsz
     have hdm:j / sz*sz+j % sz=j:=by rw [Nat.mul_comm];exact Nat.div_add_mod j sz
     have hlen:((news.drop (j / sz*sz)).take sz).length=sz:=by
      have:j / sz*sz+sz<=m*sz:=by rw [<-Nat.succ_mul];exact Nat.mul_le_mul_right _ hi
      simp;omega
     have:=hc (j % sz) (by rw [hlen];exact hjm);rw [Addr.add_lit,hw.cellAt (HM.Slt b' hS)];rw [List.getElem?_take,if_pos hjm,List.getElem?_drop,hdm,hj] at this;rw [<-this,Nat.add_assoc,hdm]
    ·obtain ⟨j,hj⟩:=List.mem_iff_getElem?.1 hu
     have hjl:j<m*sz:=by rw [<-hl];exact (List.getElem?_eq_some_iff.1 hj).1
     have hsz:0<sz:=by rcases Nat.eq_zero_or_pos sz with h0 | h0;(· subst h0;omega);exact h0
     have hi:j / sz<m:=Nat.div_lt_of_lt_mul (by rw [Nat.mul_comm];exact hjl);obtain ⟨b',off,e,hS,hc,hr⟩:=hp (j / sz) hi;refine hr.one u (List.mem_of_getElem? (i:=j % sz) ?_);rw [List.getElem?_take,if_pos (Nat.mod_lt _ hsz),List.getElem?_drop,Nat.mul_comm,Nat.div_add_mod];exact hj
 ·rename_i j;simp only [Rd] at hv;obtain ⟨_,hj,rfl,_⟩:=hv;have hb:=HM.box j hj;split at h
  ·rename_i e sz m g hs;rw [hs] at hb;obtain ⟨xs,o1,o2,o3,o4⟩:=hb;refine ⟨sz,m,g,xs,h,?_,o1.1,o3,o4⟩
   rcases o1.2 with ⟨hnil,hn0⟩ | ⟨b,cap,cur,hg,hblk,hnc,hcm,hcs,ht⟩
   ·exact ⟨none,0,by rw [hnil,hn0],fun _=>hn0,nofun⟩
   ·refine ⟨some ⟨b,0,none⟩,cap,hg,nofun,fun b2 hb2 w hw q u hq=>?_⟩;cases hb2;rw [Addr.add_lit,hw.cellAt (get?_lt hblk),Nat.zero_add,o1.cells (by rw [hg];rfl) q (List.getElem?_eq_some_iff.1 hq).1];exact hq
  ·exact h.elim
 ·rename_i j sz off ln cp;simp only [Rd] at hv;obtain ⟨_,hj,b,hρ,rfl⟩:=hv;have hb:=HM.box j hj;split at h
  ·rename_i e sz' cap kn f hs;split at h
   ·rename_i q1 q2;have q1:=nbq q1;have q2:=Nat.ne_of_beq_eq_false q2;subst q1;rw [hs] at hb;obtain ⟨hz0,b',cs,o1,o2,o3,o4,o5,o6⟩:=hb;rw [hρ] at o1;cases o1;obtain ⟨hle,h⟩:=h;obtain ⟨news,n1,n2,n3,n4⟩:=blk_src (off:=off) (k:=ln) o2 o3 o4 o6 (by omega) hle;refine ⟨sz,ln,fun i=>f (off+i),news,h,⟨some ⟨b,off*sz,none⟩,cp,rfl,(fun h0=>by cases h0),fun b2 hb2 w hw q u hq=>?_⟩,n1,n3,n4⟩;cases hb2;exact n2 w hw q u hq
   ·exact h.elim
  ·rename_i k g hs;split at h
   case h_2=>exact h.elim
   rename_i q1;have q1:=nbq q1;subst q1;rw [hs] at hb;obtain ⟨b',cs,ty,o1,o2,o3,o4⟩:=hb;rw [hρ] at o1;cases o1;obtain ⟨⟨hle,him⟩,h⟩:=h
   obtain ⟨news,n1,n2,n3,n4⟩:=blk_src (off:=off) (k:=ln) (sz:=1) (cap:=k) (kn:=off+ln) (f:=fun i=>[g i]) o2 (by omega) (by omega) (fun i hi=>by
    have hlt:i<cs.toList.length:=by simp;omega
    rw [Nat.mul_one,List.drop_eq_getElem_cons hlt];simp only [List.take_succ_cons,List.take_zero,RdL,and_true];have:=o4 i _ (Array.getElem?_eq_getElem (by simpa using hlt))
    exact ⟨this.1,Rd.immB (him i hi) this.2⟩) (by omega) (Nat.le_refl _)
   refine ⟨1,ln,fun i=>[g (off+i)],news,h,⟨some ⟨b,off*1,none⟩,cp,rfl,(fun h0=>by cases h0),fun b2 hb2 w hw q u hq=>?_⟩,n1,n3,n4⟩;cases hb2;exact n2 w hw q u hq
  ·exact h.elim
 ·exact h.elim
end
end Sx
namespace Sx
open Go
def subE (n:Nat) (x:D):List (Nat × D)->List (Nat × D)
 | []=>[]| (t,d) :: l=>(t,D.sub n x d) :: subE n x l
theorem lkE_sub (n:Nat) (x:D) (t:Nat):∀ l:List (Nat × D),lkE (subE n x l) t=D.sub n x (lkE l t)
 | []=>rfl
 | (k,d) :: l=>by
   simp only [subE,lkE];split
   ·rfl
   ·exact lkE_sub n x t l
def Box.sub (n:Nat) (x:D):Box->Box
 | .dead=>.dead| .var l=>.var (D.subL n x l)
 | .vec k g=>.vec k fun i=>D.sub n x (g i)
 | .arr e sz k f=>.arr e sz k f| .oar e sz k f=>.oar e sz k f
 | .gho V g=>.gho V fun t=>D.sub n x (g t)
 | .bld ty u q=>.bld ty u (D.sub n x q)| .blk e sz cap kn f=>.blk e sz cap kn f| .mp l=>.mp l| .mit kn l la=>.mit kn l la| .mpe l r s=>.mpe l r s| .mpd sk kn l=>.mpd sk kn l| .sar e sz k f=>.sar e sz k f| .hot e k f i d=>.hot e k f i (D.sub n x d)| .fam e sz k f=>.fam e sz k f| .famx e sz k f i ds=>.famx e sz k f i (D.subL n x ds)| .ghs V sl=>.ghs V (subE n x sl)
section
variable {P:Program} {Γ:Ty} {c:Cx P} {nt:Nt} {M:Mi} {st:St} {a:Act} {w:World}
theorem BoxOK.sub {M M' : Mi} {n m:Nat} {x:D} {bx:Box} (H:BoxOK M m bx) (hle:M.LeBut M' n) (hx:∀ im,im=false->Rd M' im x (M.hv n)) (hm:m<M.nx) (hne:m≠n) (hblk0:∀ b,M.O m b->M'.h[b]? = M.h[b]?):BoxOK M' m (bx.sub n x):=by
 have hblk:∀ b,M.ρ m=some b->M'.h[b]? = M.h[b]?:=fun b h=>hblk0 b (.inl h)
 have hX:=hle.X m hm hne;have hρ:=hle.ρ m hm hne;have hv:=hle.hv m hm hne
 cases bx with
 | dead=>trivial
 | var l =>
   obtain ⟨b,cs,ty,h1,h2,h3⟩:=H;exact ⟨b,cs,ty,by rw [hρ];exact h1,by rw [hblk b h1];exact h2,RdL.sub hle hx _ _ _ h3⟩
 | vec k g =>
   obtain ⟨b,cs,ty,h1,h2,h3,h4⟩:=H;exact ⟨b,cs,ty,by rw [hρ];exact h1,by rw [hblk b h1];exact h2,h3,fun i y hy=>⟨(h4 i y hy).1,Rd.sub hle hx _ _ _ (h4 i y hy).2⟩⟩
 | arr e sz k f =>
   obtain ⟨xs,h1,h2,h3,h4⟩:=H;refine ⟨xs,⟨h1.1,?_⟩,by rw [hρ,hv];exact h2,fun i hi=>RdL.mono hle.im _ _ (h3 i hi),h4⟩;rw [hv]
   rcases h1.2 with h | ⟨g,cap,cur,e1,e2,e3⟩
   ·exact .inl h
   ·exact .inr ⟨g,cap,cur,e1,by rw [hblk g (by rw [h2,e1];rfl)];exact e2,e3⟩
 | oar e sz k f =>
   obtain ⟨xs,h1,h2,h3,h4⟩:=H;exact ⟨xs,by rw [hv];exact h1.keep fun b hb=>hblk b (by rw [h2];exact hb),by rw [hρ,hv];exact h2,fun i hi=>RdL.mono hle.im _ _ (h3 i hi),h4⟩
 | gho V g=>exact ⟨by rw [hρ];exact H.1,fun t=>Rd.sub hle hx _ _ _ (H.2 t)⟩| ghs V sl=>exact ⟨by rw [hρ];exact H.1,fun t=>by rw [lkE_sub];exact Rd.sub hle hx _ _ _ (H.2 t)⟩
 | bld ty u q =>
   obtain ⟨b,v,h1,h2,h3,h4⟩:=H;exact ⟨b,v,by rw [hρ];exact h1,by rw [hblk b h1];exact h2,h3,Rd.sub hle hx _ _ _ h4⟩
 | blk e sz cap kn f =>
   obtain ⟨h0,b,cs,h1,h2,h3,h4,h5,h6⟩:=H;exact ⟨by rw [hv];exact h0,b,cs,by rw [hρ];exact h1,by rw [hblk b h1];exact h2,h3,h4,h5,fun i hi=>RdL.mono hle.im _ _ (h6 i hi)⟩
 | mp l =>
   obtain ⟨b,h1,h2⟩:=H;exact ⟨b,by rw [hρ];exact h1,by rw [hblk b h1];exact h2⟩
 | mpe l r s =>
   obtain ⟨b,h1,h2⟩:=H;exact ⟨b,by rw [hρ];exact h1,by rw [hblk b h1];exact h2⟩
 | mpd sk kn l =>
   obtain ⟨b,h1,h2⟩:=H;exact ⟨b,by rw [hρ];exact h1,by rw [hblk b h1];exact h2.mono hle.im⟩
 | sar e sz k f =>
   rcases H with ⟨xs,h1,h2,h3,h4⟩ | ⟨h1,⟨a,h2⟩,h3⟩
   ·exact .inl ⟨xs,by rw [hv];exact h1.keep fun b hb=>hblk b (by rw [h2];exact hb),by rw [hρ,hv];exact h2,fun i hi=>RdL.mono hle.im _ _ (h3 i hi),h4⟩
   ·exact .inr ⟨by rw [hρ];exact h1,⟨a,by rw [hv];exact h2⟩,by rw [hv];exact Rd.mono hle.im _ _ h3⟩
 | mit kn l la =>
   obtain ⟨b,h1,bm,es,ck,since,seen,c0,h2,h3,h4,h5⟩:=H;exact ⟨b,by rw [hρ];exact h1,bm,es,ck,since,seen,c0,by rw [hblk b h1];exact h2,hle.S bm h3,by rw [hle.h bm h3];exact h4,h5⟩
 | hot e k f i d =>
   obtain ⟨xs,h1,h2,h3,h4,h5⟩:=H;refine ⟨xs,⟨h1.1,?_⟩,by rw [hρ,hv];exact h2,fun j hj hn=>RdL.mono hle.im _ _ (h3 j hj hn),fun hi=>RdL.sub hle hx [d] _ _ (h4 hi),h5⟩;rw [hv]
   rcases h1.2 with h | ⟨g,cap,cur,e1,e2,e3⟩
   ·exact .inl h
   ·exact .inr ⟨g,cap,cur,e1,by rw [hblk g (by rw [h2,e1];rfl)];exact e2,e3⟩
 | fam e sz k f =>
   obtain ⟨xs,Fs,h1,h2,h3,h4,h5,h6,h7⟩:=H;exact ⟨xs,Fs,by rw [hv];exact h1.keep fun b hb=>hblk b (by rw [h2];exact hb),by rw [hρ,hv];exact h2,fun i hi=>OdL.mono hle.S hle.h _ _ _ (h3 i hi) fun b hb=>hblk0 b (.inr ((h6 b).2 (rowsF_in hi hb))),h4,h5,fun b=>by rw [hX];exact h6 b,by rw [hv];exact h7⟩
 | famx e sz k f i ds =>
   obtain ⟨xs,Fs,h1,h2,h3,h4,h5,h6,h7,h8,h9,h10⟩:=H;exact ⟨xs,Fs,by rw [hv];exact h1.keep fun b hb=>hblk b (by rw [h2];exact hb),by rw [hρ,hv];exact h2,fun j hj hji=>OdL.mono hle.S hle.h _ _ _ (h3 j hj hji) fun b hb=>hblk0 b (.inr ((h6 b).2 (rowsF_in hj hb))),h4,h5,fun b=>by rw [hX];exact h6 b,by rw [hv];exact h7,h8,h9,RdL.sub hle hx _ _ _ h10⟩
theorem Box.sub_fam {n:Nat} {x:D} {bx:Box}:(bx.sub n x).isFam=bx.isFam:=by cases bx<;>rfl
theorem Box.sub_live {n:Nat} {x:D} {bx:Box}:bx.sub n x≠.dead ↔ bx≠.dead:=by cases bx<;>simp [Box.sub]
theorem Mem.rehomeX {Pc:Program} {c:Cx Pc} {M:Mi} {sto:Nat->Box} (H:Mem c M sto) {n:Nat} (hd:sto n≠.dead) (ob:Option Nat) (v:Value) (Y:Nat->Prop) (h' : Array Obj) (hsz:M.h.size<=h'.size)
 (hold:∀ k,k<M.h.size->¬ M.O n k->h'[k]? = M.h[k]?) (hob:∀ b,ob=some b\/Y b->M.O n b\/M.h.size<=b) (bx:Box) (hY:bx.isFam=false->∀ b,¬ Y b)
 (hb:BoxOK { M with ρ:=upd M.ρ n ob,hv:=upd M.hv n v,h:=h',X:=upd M.X n Y } n bx) :
 Mem c { M with ρ:=upd M.ρ n ob,hv:=upd M.hv n v,h:=h',X:=upd M.X n Y } (upd (fun m=>(sto m).sub n .any) n bx)/\M.LeBut { M with ρ:=upd M.ρ n ob,hv:=upd M.hv n v,h:=h',X:=upd M.X n Y } n:=by
 have hle:M.LeBut { M with ρ:=upd M.ρ n ob,hv:=upd M.hv n v,h:=h',X:=upd M.X n Y } n :=
  ⟨fun _ h=>h,fun k hk=>hold k (H.Slt k hk) (fun e=>H.sepO n k hd e hk),Nat.le_refl _,fun m _ hm=>upd_ne _ _ hm,fun m _ hm=>upd_ne _ _ hm,fun m _ hm=>upd_ne _ _ hm⟩
 have hany:∀ im,im=false->Rd ({ M with ρ:=upd M.ρ n ob,hv:=upd M.hv n v,h:=h',X:=upd M.X n Y }:Mi) im .any (M.hv n):=fun im _=>by simp [Rd]
 have live:∀ m,m≠n->upd (fun m=>(sto m).sub n .any) n bx m≠.dead->sto m≠.dead:=fun m hm h=>by
  rw [upd_ne _ _ hm] at h;exact Box.sub_live.1 h
 have hO:∀ {m b},m≠n->({ M with ρ:=upd M.ρ n ob,hv:=upd M.hv n v,h:=h',X:=upd M.X n Y }:Mi).O m b->M.O m b:=fun {m b} e h=>by
  simp only [Mi.O,upd_ne _ _ e] at h ⊢;exact h
 have hN:∀ {b},({ M with ρ:=upd M.ρ n ob,hv:=upd M.hv n v,h:=h',X:=upd M.X n Y }:Mi).O n b->M.O n b\/M.h.size<=b:=fun {b} h=>by
  simp only [Mi.O,upd_self] at h;exact hob b h
 refine ⟨⟨Nat.le_trans H.size hsz,fun k hk hw=>?_,fun k hk=>Nat.lt_of_lt_of_le (H.Slt k hk) hsz,H.Sold,fun m hm=>?_,fun m hm=>?_,fun m k b h1 h2 r1 r2=>?_,fun m b h1 r1 hs=>?_,fun m b h1 r1=>?_,fun m h1 hf b=>?_⟩,hle⟩
 ·refine (hold k (Nat.lt_of_lt_of_le hk H.size) (fun e=>?_)).trans (H.frame k hk hw)
  rcases H.frO n k hd e with h | h
  ·omega
  ·exact hw h
 ·by_cases e:m=n
  ·subst e;rw [upd_self];exact hb
  ·rw [upd_ne _ _ e];by_cases hdm:sto m = .dead
   ·rw [hdm];trivial
   ·exact (H.box m hm).sub hle hany hm e fun b hb=>hold b (H.bltO hdm hb) (fun e'=>e (H.injO m n b hdm hd hb e'))
 ·have:m≠n:=fun e=>by subst e;exact absurd (H.lt hd) (Nat.not_lt.2 hm)
  rw [upd_ne _ _ this];simp only [H.dead m hm,Box.sub]
 ·by_cases e1:m=n<;>by_cases e2:k=n
  ·rw [e1,e2]
  ·subst e1;have h2:=live k e2 h2
   rcases hN r1 with h | h
   ·exact H.injO m k b hd h2 h (hO e2 r2)
   ·exact absurd (H.bltO h2 (hO e2 r2)) (Nat.not_lt.2 h)
  ·subst e2;have h1:=live m e1 h1
   rcases hN r2 with h | h
   ·exact H.injO m k b h1 hd (hO e1 r1) h
   ·exact absurd (H.bltO h1 (hO e1 r1)) (Nat.not_lt.2 h)
  ·exact H.injO m k b (live m e1 h1) (live k e2 h2) (hO e1 r1) (hO e2 r2)
 ·by_cases e:m=n
  ·subst e
   rcases hN r1 with h | h
   ·exact H.sepO m b hd h hs
   ·exact absurd (H.Slt b hs) (Nat.not_lt.2 h)
  ·exact H.sepO m b (live m e h1) (hO e r1) hs
 ·by_cases e:m=n
  ·subst e
   rcases hN r1 with h | h
   ·exact H.frO m b hd h
   ·exact .inl (Nat.le_trans H.size h)
  ·exact H.frO m b (live m e h1) (hO e r1)
 ·by_cases e:m=n
  ·subst e;rw [upd_self] at hf;simp only [upd_self];exact hY hf b
  ·have h1:=live m e h1;rw [upd_ne _ _ e] at hf;simp only [upd_ne _ _ e];rw [Box.sub_fam] at hf;exact H.non m h1 hf b
theorem upd_same {α:Type} (e:Nat->α) (n:Nat):upd e n (e n)=e:=funext fun t=>by
 by_cases h:t=n
 ·subst h;rw [upd_self]
 ·rw [upd_ne _ _ h]
theorem Mem.rehome {Pc:Program} {c:Cx Pc} {M:Mi} {sto:Nat->Box} (H:Mem c M sto) {n:Nat} (hd:sto n≠.dead) (hf:(sto n).isFam=false) (ob:Option Nat) (v:Value) (h' : Array Obj) (hsz:M.h.size<=h'.size)
 (hold:∀ k,k<M.h.size->M.ρ n≠some k->h'[k]? = M.h[k]?) (hob:∀ b,ob=some b->M.ρ n=some b\/M.h.size<=b) (bx:Box)
 (hb:BoxOK { M with ρ:=upd M.ρ n ob,hv:=upd M.hv n v,h:=h' } n bx) :
 Mem c { M with ρ:=upd M.ρ n ob,hv:=upd M.hv n v,h:=h' } (upd (fun m=>(sto m).sub n .any) n bx)/\M.LeBut { M with ρ:=upd M.ρ n ob,hv:=upd M.hv n v,h:=h' } n:=by
 have hx:=H.non n hd hf;have:=H.rehomeX hd ob v (M.X n) h' hsz (fun k hk hn=>hold k hk fun e=>hn (.inl e)) (fun b h=>(h.elim (fun h=>(hob b h).imp .inl id) fun h=>absurd h (hx b))) bx (fun _=>hx) (by rw [upd_same];exact hb);rw [upd_same] at this;exact this
theorem run_append (t ty e:Nat) (i:TypeInfo) (z:Value) (ht:P.underlying t=some (.slice e)) (hi:P.info? e=some i) (hz:i.zero=some z) (hzs:z.cells.size=i.size) (hby:0<i.bytes)
 (v:Value) (n:Nat) (xs:List Value) (hown:OwnsH w.heap e i.size v n xs) (ad:Option Addr) (m cap:Nat) (hm:ad=none->m=0) (news:List Value) (hl:news.length=m*i.size)
 (hnews:∀ b,ad=some b->∀ (j:Nat) (u:Value),news[j]? = some u->w.cell? (b.add j)=some u) (h1:∀ u ∈ news,u.oneCell' = true) (hb:(n+m)*i.bytes<=140737488355328) :
 ∃ v' w',(Builtin.append_ #[t,t] ty #[v,.slice ad m cap]).run P w = .ok v' w'/\OwnsH w'.heap e i.size v' (n+m) (xs ++ news)/\w'.os=w.os/\w'.tape=w.tape/\w'.output=w.output/\w.heap.size<=w'.heap.size /\
   (∀ k,k<w.heap.size->v.ownBlock≠some k->w'.heap[k]? = w.heap[k]?)/\(∀ b,v'.ownBlock=some b->v.ownBlock=some b\/w.heap.size<=b):=by
 have hnm:n+m<=140737488355328:=Nat.le_trans (Nat.le_mul_of_pos_right _ hby) hb
 have hlen:(xs ++ news).length=(n+m)*i.size:=by rw [lap,hown.1,hl,Nat.add_mul]
 have grown:∀ (old:Nat),old<n+m ->
  OwnsH (w.drew.alloc (.cells (xs.toArray ++ news.toArray ++ Builtin.zeroCells z.cells (grownCap w (n+m) old e - (n+m))) e)).heap e i.size
   (.slice (some ⟨w.heap.size,0,none⟩) (n+m) (grownCap w (n+m) old e)) (n+m) (xs ++ news):=by
  intro old _;have hge:=grownCap_ge w (n+m) old e;have hcm:grownCap w (n+m) old e<=maxLen:=grownCap_le_maxLen w (n+m) old e (by unfold maxLen;omega);refine ⟨hlen,.inr ⟨w.heap.size,_,_,rfl,heap_alloc_new w.drew _,hge,hcm,?_,?_⟩⟩
  ·simp only [Array.size_append,List.size_toArray,size_zeroCells,hzs,hown.1,hl,<-Nat.add_mul]
   congr 1
   omega
  ·simp only [Array.toList_append,List.append_assoc];rw [<-List.append_assoc,<-hlen];exact List.take_left
 have old:∀ o,∀ k,k<w.heap.size->(w.drew.alloc o).heap[k]? = w.heap[k]?:=fun o k hk=>heap_alloc_old w.drew o hk
 by_cases hm0:m=0
 ·subst hm0;have hn:news = []:=List.eq_nil_of_length_eq_zero (by simpa using hl);subst hn;refine ⟨v,w,?_,by simpa using hown,rfl,rfl,rfl,Nat.le_refl _,fun _ _ _=>rfl,fun b hb=>.inl hb⟩
  rcases hown.2 with ⟨rfl,rfl⟩ | ⟨g,cp,cur,rfl,hg,hnc,hcm,hcs,htake⟩
  ·cases ad<;>simp [Builtin.append_,run_underlying ht,Go.sizeOf,typeInfo,hi,Builtin.lenOf,Builtin.firstCells,loadCells,loadCellsFrom]
  ·cases ad<;>simp [Builtin.append_,run_underlying ht,Go.sizeOf,typeInfo,hi,Builtin.lenOf,Builtin.firstCells,loadCells,loadCellsFrom,hnc,storeCells]
 ·cases ad with
  | none=>exact absurd (hm rfl) hm0
  | some b =>
    have hnw:=hnews b rfl
    rcases hown.2 with ⟨rfl,rfl⟩ | ⟨g,cp,cur,rfl,hg,hnc,hcm,hcs,htake⟩
    ·have hx:xs = []:=List.eq_nil_of_length_eq_zero (by simpa using hown.1);subst hx;have hr:=run_append_nil (P:=P) w t ty e i z ht hi hz b m cap news hl hnw (by omega) (by omega) (by have h0:=hb;simp only [Nat.zero_add] at h0;omega);have hgr:=grown 0 (by omega);simp only [Nat.zero_add,List.nil_append,Array.empty_append] at hgr ⊢;exact ⟨_,_,hr,hgr,rfl,rfl,rfl,by simp,fun k hk _=>old _ k hk,fun b hb=>.inr (by simp only [Value.ownBlock,Option.some.injEq] at hb;omega)⟩
    ·by_cases hroom:n+m<=cp
     ·have hfit:n*i.size+news.length<=cur.size:=by rw [hl,hcs,<-Nat.add_mul];exact Nat.mul_le_mul_right _ hroom
      have hr:=run_append_room (P:=P) w t ty e i ht hi g n cp cur hg b m cap news hl hnw h1 hroom hfit;refine ⟨_,_,hr,⟨hlen,.inr ⟨g,cp,_,rfl,setRow_heap w g cur _ e _ hg,hroom,hcm,?_,?_⟩⟩,rfl,rfl,rfl,by simp [World.setRow],fun k _ hk=>setRow_other w g k _ (fun e=>hk (by simp [Value.ownBlock,e])),fun b hb=>.inl hb⟩
      ·simp only [List.size_toArray,lap,List.length_take,List.length_drop,Array.length_toList];omega
      ·rw [htake,<-hlen];exact List.take_left
     ·have holds:∀ (j:Nat) (u:Value),xs[j]? = some u->w.cell? ((⟨g,0,none⟩:Addr).add j)=some u:=fun j u hj=>by
       rw [Addr.add_lit,cell?_at,Nat.zero_add,hown.cells rfl j (List.getElem?_eq_some_iff.1 hj).1];exact hj
      have hr:=run_append_grow (P:=P) w t ty e i z ht hi hz ⟨g,0,none⟩ n cp xs hown.1 holds b m cap news hl hnw (by omega) (by omega) (growslice_fits (by omega) hb);exact ⟨_,_,hr,grown cp (by omega),rfl,rfl,rfl,by simp,fun k hk _=>old _ k hk,fun b hb=>.inr (by simp only [Value.ownBlock,Option.some.injEq] at hb;omega)⟩
theorem run_append_roomO (t ty e:Nat) (i:TypeInfo) (ht:P.underlying t=some (.slice e)) (hi:P.info? e=some i)
 (g off sLen sCap:Nat) (cur:Array Value) (hg:w.heap[g]? = some (.cells cur e (0,0)))
 (a:Addr) (m c:Nat) (news:List Value) (hl:news.length=m*i.size) (hnews:∀ j u,news[j]? = some u->w.cell? (a.add j)=some u) (h1:∀ u ∈ news,u.oneCell' = true)
 (hroom:sLen+m<=sCap) (hfit:off+sLen*i.size+news.length<=cur.size) :
 (Builtin.append_ #[t,t] ty #[.slice (some ⟨g,off,none⟩) sLen sCap,.slice (some a) m c]).run P w =
   .ok (.slice (some ⟨g,off,none⟩) (sLen+m) sCap) (w.setRow g (cur.toList.take (off+sLen*i.size) ++ news ++ cur.toList.drop (off+sLen*i.size+news.length)).toArray):=by
 have hf:=run_firstCells_some (P:=P) w i.size m a m c news hl hnews;have hst:=run_storeCells_at P g (off+sLen*i.size) e news 0 cur w hg (by simpa using hfit) h1;simp only [Nat.add_zero] at hst;simp [Builtin.append_,run_underlying ht,Go.sizeOf,typeInfo,hi,Builtin.lenOf,hroom,hf,Addr.add_lit,hst]
theorem run_appendO (t ty e:Nat) (i:TypeInfo) (z:Value) (ht:P.underlying t=some (.slice e)) (hi:P.info? e=some i) (hz:i.zero=some z) (hzs:z.cells.size=i.size) (hby:0<i.bytes)
 (v:Value) (n:Nat) (xs:List Value) (hown:OwnsO w.heap e i.size v n xs) (ad:Option Addr) (m cap:Nat) (hm:ad=none->m=0) (news:List Value) (hl:news.length=m*i.size)
 (hnews:∀ b,ad=some b->∀ (j:Nat) (u:Value),news[j]? = some u->w.cell? (b.add j)=some u) (h1:∀ u ∈ news,u.oneCell' = true) (hb:(n+m)*i.bytes<=140737488355328) :
 ∃ v' w',(Builtin.append_ #[t,t] ty #[v,.slice ad m cap]).run P w = .ok v' w'/\OwnsO w'.heap e i.size v' (n+m) (xs ++ news)/\w'.os=w.os/\w'.tape=w.tape/\w'.output=w.output/\w.heap.size<=w'.heap.size /\
   (∀ k,k<w.heap.size->v.ownBlock≠some k->w'.heap[k]? = w.heap[k]?)/\(∀ b,v'.ownBlock=some b->v.ownBlock=some b\/w.heap.size<=b):=by
 have hnm:n+m<=140737488355328:=Nat.le_trans (Nat.le_mul_of_pos_right _ hby) hb
 have hlen:(xs ++ news).length=(n+m)*i.size:=by rw [lap,hown.1,hl,Nat.add_mul]
 have grown:∀ (old:Nat),old<n+m ->
  OwnsH (w.drew.alloc (.cells (xs.toArray ++ news.toArray ++ Builtin.zeroCells z.cells (grownCap w (n+m) old e - (n+m))) e)).heap e i.size
   (.slice (some ⟨w.heap.size,0,none⟩) (n+m) (grownCap w (n+m) old e)) (n+m) (xs ++ news):=by
  intro old _;have hge:=grownCap_ge w (n+m) old e;have hcm:grownCap w (n+m) old e<=maxLen:=grownCap_le_maxLen w (n+m) old e (by unfold maxLen;omega);refine ⟨hlen,.inr ⟨w.heap.size,_,_,rfl,heap_alloc_new w.drew _,hge,hcm,?_,?_⟩⟩
  ·simp only [Array.size_append,List.size_toArray,size_zeroCells,hzs,hown.1,hl,<-Nat.add_mul]
   congr 1
   omega
  ·simp only [Array.toList_append,List.append_assoc];rw [<-List.append_assoc,<-hlen];exact List.take_left
 have old:∀ o,∀ k,k<w.heap.size->(w.drew.alloc o).heap[k]? = w.heap[k]?:=fun o k hk=>heap_alloc_old w.drew o hk
 by_cases hm0:m=0
 ·subst hm0;have hn:news = []:=List.eq_nil_of_length_eq_zero (by simpa using hl);subst hn;refine ⟨v,w,?_,by simpa using hown,rfl,rfl,rfl,Nat.le_refl _,fun _ _ _=>rfl,fun b hb=>.inl hb⟩
  rcases hown.2 with ⟨rfl,rfl⟩ | ⟨g,o,cp,cur,rfl,hg,hnc,hcm,hcs,htake⟩
  ·cases ad<;>simp [Builtin.append_,run_underlying ht,Go.sizeOf,typeInfo,hi,Builtin.lenOf,Builtin.firstCells,loadCells,loadCellsFrom]
  ·cases ad<;>simp [Builtin.append_,run_underlying ht,Go.sizeOf,typeInfo,hi,Builtin.lenOf,Builtin.firstCells,loadCells,loadCellsFrom,hnc,storeCells]
 ·cases ad with
  | none=>exact absurd (hm rfl) hm0
  | some b =>
    have hnw:=hnews b rfl
    rcases hown.2 with ⟨rfl,rfl⟩ | ⟨g,o,cp,cur,rfl,hg,hnc,hcm,hcs,htake⟩
    ·have hx:xs = []:=List.eq_nil_of_length_eq_zero (by simpa using hown.1);subst hx;have hr:=run_append_nil (P:=P) w t ty e i z ht hi hz b m cap news hl hnw (by omega) (by omega) (by have h0:=hb;simp only [Nat.zero_add] at h0;omega);have hgr:=grown 0 (by omega);simp only [Nat.zero_add,List.nil_append,Array.empty_append] at hgr ⊢;exact ⟨_,_,hr,hgr.oar,rfl,rfl,rfl,by simp,fun k hk _=>old _ k hk,fun b hb=>.inr (by simp only [Value.ownBlock,Option.some.injEq] at hb;omega)⟩
    ·by_cases hroom:n+m<=cp
     ·have hle:(n+m)*i.size<=cp*i.size:=Nat.mul_le_mul_right _ hroom
      have hfit:o+n*i.size+news.length<=cur.size:=by rw [hl];rw [Nat.add_mul] at hle;omega
      have hr:=run_append_roomO (P:=P) (w:=w) t ty e i ht hi g o n cp cur hg b m cap news hl hnw h1 hroom hfit;refine ⟨_,_,hr,⟨hlen,.inr ⟨g,o,cp,_,rfl,setRow_heap w g cur _ e _ hg,hroom,hcm,?_,?_⟩⟩,rfl,rfl,rfl,by simp [World.setRow],fun k _ hk=>setRow_other w g k _ (fun e=>hk (by simp [Value.ownBlock,e])),fun b hb=>.inl hb⟩
      ·simp only [List.size_toArray,lap,List.length_take,List.length_drop,Array.length_toList];omega
      ·have e1:(cur.toList.take (o+n*i.size)).drop o=xs:=by rw [List.drop_take,Nat.add_sub_cancel_left];exact htake
       have e2:o<=(cur.toList.take (o+n*i.size)).length:=by simp;omega
       rw [List.append_assoc,List.drop_append_of_le_length e2,e1,<-List.append_assoc,<-hlen];exact List.take_left
     ·have holds:∀ (j:Nat) (u:Value),xs[j]? = some u->w.cell? ((⟨g,o,none⟩:Addr).add j)=some u:=fun j u hj=>by
       rw [Addr.add_lit,cell?_at];have:=hown.cells rfl j (List.getElem?_eq_some_iff.1 hj).1;simp only [hoff] at this;rw [this];exact hj
      have hr:=run_append_grow (P:=P) w t ty e i z ht hi hz ⟨g,o,none⟩ n cp xs hown.1 holds b m cap news hl hnw (by omega) (by omega) (growslice_fits (by omega) hb);exact ⟨_,_,hr,(grown cp (by omega)).oar,rfl,rfl,rfl,by simp,fun k hk _=>old _ k hk,fun b hb=>.inr (by simp only [Value.ownBlock,Option.some.injEq] at hb;omega)⟩
def nilTab (sz:Nat) (x:D):D:=match x with
 | .nil=>.tab sz 0 fun _=>[]
 | d=>d
theorem nilTab_rd {M:Mi} {sz:Nat} {x:D} {v:Value} (h:Rd M false x v):Rd M false (nilTab sz x) v:=by
 unfold nilTab;split
 ·simp only [Rd] at h ⊢;exact ⟨none,0,h,Nat.le_refl _,fun i hi=>absurd hi (Nat.not_lt_zero i)⟩
 ·exact h
def appendD (Γ:Ty) (st:St) (t:Nat) (s x:D) (K:D->St->Prop):Prop :=
 match (Γ.get t).k with
 | .slice e=>match Nat.ble 1 (Γ.get e).bytes with
   | true=>match s with
     | .nil=>srcD st.sto (nilTab (Γ.get e).size x) fun sz m g=>match szB Γ e sz with
       | true=>Vc (m*(Γ.get e).bytes<=140737488355328) (st.on fun e_ s_ k_=>K (.own k_) ⟨e_,upd s_ k_ (.arr e sz m g),k_+1⟩)| false=>False
     | .own n=>match st.sto n with
       | .arr e' sz k f=>srcD st.sto (nilTab sz x) fun sz' m g=>match szB Γ e sz,Nat.beq sz sz',Nat.beq e e' with
         | true,true,true=>Vc ((k+m)*(Γ.get e).bytes<=140737488355328)
           (st.on fun e_ s_ k_=>K (.own n) ⟨fun t=>D.sub n .any (e_ t),upd (fun m=>(s_ m).sub n .any) n (.arr e' sz (k+m) fun i=>iteL (i<k) (f i) (g (i - k))),k_⟩)
         | _,_,_=>False
       | .oar e' sz k f=>srcD st.sto (nilTab sz x) fun sz' m g=>match szB Γ e sz,Nat.beq sz sz',Nat.beq e e' with
         | true,true,true=>Vc ((k+m)*(Γ.get e).bytes<=140737488355328)
           (st.on fun e_ s_ k_=>K (.own n) ⟨fun t=>D.sub n .any (e_ t),upd (fun m=>(s_ m).sub n .any) n (.oar e' sz (k+m) fun i=>iteL (i<k) (f i) (g (i - k))),k_⟩)
         | _,_,_=>False
       | .sar e' sz k f=>srcD st.sto (nilTab sz x) fun sz' m g=>match szB Γ e sz,Nat.beq sz sz',Nat.beq e e' with
         | true,true,true=>Vc (1<=m/\(k+m)*(Γ.get e).bytes<=140737488355328)
           (st.on fun e_ s_ k_=>K (.own n) ⟨fun t=>D.sub n .any (e_ t),upd (fun m=>(s_ m).sub n .any) n (.arr e' sz (k+m) fun i=>iteL (i<k) (f i) (g (i - k))),k_⟩)
         | _,_,_=>False
       | _=>False
     | _=>False
   | false=>False
 | _=>False
theorem appendD_ok (H:TyOK P Γ) (R:RelM c nt M st a w) {t ty:Nat} {s x:D} {v y:Value} {K:D->St->Prop} (h:appendD Γ st t s x K) (hs:Rd M false s v) (hx:Rd M false x y) :
 ∃ d st' v' M' w',K d st'/\RelM c nt M' st' a w'/\Rd M' false d v'/\(Builtin.append_ #[t,t] ty #[v,y]).run P w = .ok v' w':=by
 unfold appendD at h;split at h
 ·rename_i e hk;obtain ⟨i0,d0,z0,hi0,hu0,_,_,_,_,_,hkc0⟩:=H.ok hk (by simp)
  cases d0<;>simp only [kchk,bft] at hkc0
  have hkc0:=by simpa using hkc0
  subst hkc0;split at h
  ·rename_i hby;have hby:=Nat.le_of_ble_eq_true hby
   have elem:∀ sz,szB Γ e sz=true->∃ ie ze,P.info? e=some ie/\ie.size=sz/\ie.bytes=(Γ.get e).bytes/\ie.zero=some ze/\ze.cells.size=sz/\0<sz:=fun sz hsz=>by
    obtain ⟨h1,h2,_⟩:=szB_of H hsz
    rcases H e with hbad | hok
    ·omega
    ·obtain ⟨ie,de,ze,hie,_,hse,hbe,hze,hzc,_,_⟩:=hok.ex;exact ⟨ie,ze,hie,by omega,hbe,hze,by omega,by omega⟩
   split at h
   ·obtain ⟨sz,m,g,news,h,hsrc⟩:=srcD_of R.mem h (nilTab_rd hx);split at h
    ·rename_i hsz;obtain ⟨hb,h⟩:=h;obtain ⟨ie,ze,hie,hs1,hb1,hz1,hz2,hpos⟩:=elem sz hsz;simp only [Rd] at hs;subst hs hs1;obtain ⟨ad,cap,rfl,hm,hnw⟩:=hsrc.ex
     obtain ⟨v',w',hrun,hown,ho,htp,hout,hge,hold,hblk⟩:=run_append (P:=P) (w:=w) t ty e ie ze hu0 hie hz1 hz2 (by omega) (.slice none 0 0) 0 [] ⟨by simp,.inl ⟨rfl,rfl⟩⟩ ad m cap hm news hsrc.len
      (fun b hb=>hnw b hb w R.keep) hsrc.one (by rw [hb1];simpa using hb)
     simp only [Nat.zero_add,List.nil_append] at hown
     have hsz' : M.h.size=w.heap.size:=by rw [R.h]
     obtain ⟨H1,L1⟩:=R.mem.grow M.S w'.heap (by rw [hsz'];exact hge) (fun b hb=>by rw [R.h];exact hold b (by omega) (by simp [Value.ownBlock])) (fun _ h=>h) (fun _ h=>.inl h);have hle:M.Le (({ M with h:=w'.heap }:Mi).give v'.ownBlock v') false:=⟨fun _ h=>h,L1.h,fun _=>Nat.le_succ _,fun _ n hn=>upd_ne _ _ (Nat.ne_of_lt hn),fun _ n hn=>upd_ne _ _ (Nat.ne_of_lt hn),fun _ n hn=>upd_ne _ _ (Nat.ne_of_lt hn)⟩
     have hm2:=H1.adopt v'.ownBlock v' (.arr e ie.size m g) ⟨news,by simpa [Mi.give,upd_self] using hown,by simp [Mi.give,upd_self],fun i hi=>RdL.mono hle.im _ _ (hsrc.el i hi),hsrc.one⟩
      (fun b hb hS=>by rcases hblk b hb with h | h;(· simp [Value.ownBlock] at h);(· exact absurd (R.mem.Slt b hS) (by omega)))
      (fun n b hb hd he=>by rcases hblk b hb with h | h;(· simp [Value.ownBlock] at h);(· exact absurd (R.mem.bltO hd he) (by omega)))
      (fun b hb=>by rcases hblk b hb with h | h;(· simp [Value.ownBlock] at h);(· exact .inl (Nat.le_trans R.mem.size (by omega))))
     refine ⟨_,_,v',_,w',h,R.go hle (by rw [<-R.nx];exact hm2) rfl (by simp [Mi.give,R.nx]) ho htp hout,?_,hrun⟩;obtain ⟨ad',cap',he,_⟩:=ownsH_len hown;simp only [Rd,Mi.give,<-R.nx,upd_self];exact ⟨trivial,Nat.lt_succ_self _,trivial,ad',m,cap',he⟩
    ·exact h.elim
   ·rename_i n;split at h
    ·rename_i e' sz k f hsto;obtain ⟨sz',m,g,news,h,hsrc⟩:=srcD_of R.mem h (nilTab_rd hx);split at h
     ·rename_i hsz he1 he2;have he1:=nbq he1;have he2:=nbq he2;subst he1 he2;obtain ⟨hb,h⟩:=h;obtain ⟨ie,ze,hie,hs1,hb1,hz1,hz2,hpos⟩:=elem sz hsz;simp only [Rd] at hs;obtain ⟨_,hn,rfl,_⟩:=hs;subst hs1;have hbx:=R.mem.box n hn;rw [hsto] at hbx;obtain ⟨xs,o1,o2,o3,o4⟩:=hbx;obtain ⟨ad,cap,rfl,hm,hnw⟩:=hsrc.ex;rw [R.h] at o1
      obtain ⟨v',w',hrun,hown,ho,htp,hout,hge,hold,hblk⟩:=run_append (P:=P) (w:=w) t ty e ie ze hu0 hie hz1 hz2 (by omega) (M.hv n) k xs o1 ad m cap hm news hsrc.len
       (fun b hb=>hnw b hb w R.keep) hsrc.one (by rw [hb1];exact hb)
      have hsz' : M.h.size=w.heap.size:=by rw [R.h]
      have hle0:M.LeBut { M with ρ:=upd M.ρ n v'.ownBlock,hv:=upd M.hv n v',h:=w'.heap } n :=
       ⟨fun _ h=>h,fun b hb=>by rw [R.h];exact hold b (by rw [<-hsz'];exact R.mem.Slt b hb) (fun e=>R.mem.sep n b (by rw [hsto];simp) (by rw [o2];exact e) hb),Nat.le_refl _,fun m _ hm=>upd_ne _ _ hm,fun m _ hm=>upd_ne _ _ hm,fun _ _ _=>rfl⟩
      obtain ⟨hm2,hle⟩:=R.mem.rehome (n:=n) (by rw [hsto];simp) (by rw [hsto];rfl) v'.ownBlock v' w'.heap (by rw [hsz'];exact hge) (fun b hb hne=>by rw [R.h];exact hold b (by omega) (by rw [<-o2];exact hne))
       (fun b hb=>by rw [o2,hsz'];exact hblk b hb) (.arr e ie.size (k+m) fun i=>iteL (i<k) (f i) (g (i - k))) (by
         refine ⟨xs ++ news,by simpa [upd_self] using hown,by simp [upd_self],fun i hi=>?_,fun u hu=>?_⟩
         ·have hxl:=o1.1;have hnl:=hsrc.len;refine RdL.ite (fun hik=>?_) (fun hik=>?_)
          ·have hi' : i*ie.size+ie.size<=k*ie.size:=by rw [<-Nat.succ_mul];exact Nat.mul_le_mul_right _ hik
           have:((xs ++ news).drop (i*ie.size)).take ie.size=(xs.drop (i*ie.size)).take ie.size:=by
            rw [List.drop_append_of_le_length (by omega),List.take_append_of_le_length (by simp;omega)]
           rw [this];exact RdL.mono hle0.im _ _ (o3 i hik)
          ·have hik' : k<=i:=by omega
           have e1:i*ie.size=xs.length+(i - k)*ie.size:=by rw [hxl,<-Nat.add_mul];congr 1;omega
           have:((xs ++ news).drop (i*ie.size)).take ie.size=(news.drop ((i - k)*ie.size)).take ie.size:=by
            rw [e1,List.drop_append,ddl (by omega),List.nil_append,Nat.add_sub_cancel_left]
           rw [this];exact RdL.mono hle0.im _ _ (hsrc.el (i - k) (by omega))
         ·rcases List.mem_append.1 hu with h | h
          ·exact o4 u h
          ·exact hsrc.one u h)
      refine ⟨_,_,v',{ M with ρ:=upd M.ρ n v'.ownBlock,hv:=upd M.hv n v',h:=w'.heap },w',h,⟨rfl,R.nx,hm2,fun t=>Rd.sub hle (fun im _=>by simp [Rd]) _ _ _ (R.env t),R.sz,R.defs,ho.trans R.os,htp.trans R.tape,hout.trans R.output⟩,?_,hrun⟩;obtain ⟨ad',cap',he,_⟩:=ownsH_len hown;simp only [Rd,upd_self];exact ⟨trivial,hn,trivial,ad',k+m,cap',he⟩
     ·exact h.elim
    ·rename_i e' sz k f hsto;obtain ⟨sz',m,g,news,h,hsrc⟩:=srcD_of R.mem h (nilTab_rd hx);split at h
     ·rename_i hsz he1 he2;have he1:=nbq he1;have he2:=nbq he2;subst he1 he2;obtain ⟨hb,h⟩:=h;obtain ⟨ie,ze,hie,hs1,hb1,hz1,hz2,hpos⟩:=elem sz hsz;simp only [Rd] at hs;obtain ⟨_,hn,rfl,_⟩:=hs;subst hs1;have hbx:=R.mem.box n hn;rw [hsto] at hbx;obtain ⟨xs,o1,o2,o3,o4⟩:=hbx;obtain ⟨ad,cap,rfl,hm,hnw⟩:=hsrc.ex;rw [R.h] at o1
      obtain ⟨v',w',hrun,hown,ho,htp,hout,hge,hold,hblk⟩:=run_appendO (P:=P) (w:=w) t ty e ie ze hu0 hie hz1 hz2 (by omega) (M.hv n) k xs o1 ad m cap hm news hsrc.len
       (fun b hb=>hnw b hb w R.keep) hsrc.one (by rw [hb1];exact hb)
      have hsz' : M.h.size=w.heap.size:=by rw [R.h]
      have hle0:M.LeBut { M with ρ:=upd M.ρ n v'.ownBlock,hv:=upd M.hv n v',h:=w'.heap } n :=
       ⟨fun _ h=>h,fun b hb=>by rw [R.h];exact hold b (by rw [<-hsz'];exact R.mem.Slt b hb) (fun e=>R.mem.sep n b (by rw [hsto];simp) (by rw [o2];exact e) hb),Nat.le_refl _,fun m _ hm=>upd_ne _ _ hm,fun m _ hm=>upd_ne _ _ hm,fun _ _ _=>rfl⟩
      obtain ⟨hm2,hle⟩:=R.mem.rehome (n:=n) (by rw [hsto];simp) (by rw [hsto];rfl) v'.ownBlock v' w'.heap (by rw [hsz'];exact hge) (fun b hb hne=>by rw [R.h];exact hold b (by omega) (by rw [<-o2];exact hne))
       (fun b hb=>by rw [o2,hsz'];exact hblk b hb) (.oar e ie.size (k+m) fun i=>iteL (i<k) (f i) (g (i - k))) (by
         refine ⟨xs ++ news,by simpa [upd_self] using hown,by simp [upd_self],fun i hi=>?_,fun u hu=>?_⟩
         ·have hxl:=o1.1;have hnl:=hsrc.len;refine RdL.ite (fun hik=>?_) (fun hik=>?_)
          ·have hi' : i*ie.size+ie.size<=k*ie.size:=by rw [<-Nat.succ_mul];exact Nat.mul_le_mul_right _ hik
           have:((xs ++ news).drop (i*ie.size)).take ie.size=(xs.drop (i*ie.size)).take ie.size:=by
            rw [List.drop_append_of_le_length (by omega),List.take_append_of_le_length (by simp;omega)]
           rw [this];exact RdL.mono hle0.im _ _ (o3 i hik)
          ·have hik' : k<=i:=by omega
           have e1:i*ie.size=xs.length+(i - k)*ie.size:=by rw [hxl,<-Nat.add_mul];congr 1;omega
           have:((xs ++ news).drop (i*ie.size)).take ie.size=(news.drop ((i - k)*ie.size)).take ie.size:=by
            rw [e1,List.drop_append,ddl (by omega),List.nil_append,Nat.add_sub_cancel_left]
           rw [this];exact RdL.mono hle0.im _ _ (hsrc.el (i - k) (by omega))
         ·rcases List.mem_append.1 hu with h | h
          ·exact o4 u h
          ·exact hsrc.one u h)
      refine ⟨_,_,v',{ M with ρ:=upd M.ρ n v'.ownBlock,hv:=upd M.hv n v',h:=w'.heap },w',h,⟨rfl,R.nx,hm2,fun t=>Rd.sub hle (fun im _=>by simp [Rd]) _ _ _ (R.env t),R.sz,R.defs,ho.trans R.os,htp.trans R.tape,hout.trans R.output⟩,?_,hrun⟩;obtain ⟨ad',cap',he,_⟩:=ownsO_len hown;simp only [Rd,upd_self];exact ⟨trivial,hn,trivial,ad',k+m,cap',he⟩
     ·exact h.elim
    ·rename_i e' sz k f hsto;obtain ⟨sz',m,g,news,h,hsrc⟩:=srcD_of R.mem h (nilTab_rd hx);split at h
     ·rename_i hsz he1 he2;have he1:=nbq he1;have he2:=nbq he2;subst he1 he2;obtain ⟨⟨hm1,hb⟩,h⟩:=h;obtain ⟨ie,ze,hie,hs1,hb1,hz1,hz2,hpos⟩:=elem sz hsz;simp only [Rd] at hs;obtain ⟨_,hn,rfl,_⟩:=hs;subst hs1;have hbx:=R.mem.box n hn;rw [hsto] at hbx;obtain ⟨ad,cap,rfl,hm,hnw⟩:=hsrc.ex
      obtain ⟨xs,o1,o3,o4,v',w',hrun,hown,ho,htp,hout,hge,hold,hblk⟩:∃ xs:List Value,xs.length=k*ie.size/\(∀ i,i<k->RdL M true (f i) ((xs.drop (i*ie.size)).take ie.size))/\(∀ u ∈ xs,u.oneCell' = true) /\
       ∃ v' w',(Builtin.append_ #[t,t] ty #[M.hv n,.slice ad m cap]).run P w = .ok v' w'/\OwnsH w'.heap e ie.size v' (k+m) (xs ++ news)/\w'.os=w.os/\w'.tape=w.tape/\w'.output=w.output/\w.heap.size<=w'.heap.size /\
         (∀ b,b<w.heap.size->M.ρ n≠some b->w'.heap[b]? = w.heap[b]?)/\(∀ b,v'.ownBlock=some b->M.ρ n=some b\/w.heap.size<=b):=by
       rcases hbx with ⟨xs,o1,o2,o3,o4⟩ | ⟨o1,⟨ad0,o2⟩,o3⟩
       ·rw [R.h] at o1
        obtain ⟨v',w',hrun,hown,ho,htp,hout,hge,hold,hblk⟩:=run_append (P:=P) (w:=w) t ty e ie ze hu0 hie hz1 hz2 (by omega) (M.hv n) k xs o1 ad m cap hm news hsrc.len
         (fun b hb=>hnw b hb w R.keep) hsrc.one (by rw [hb1];exact hb)
        exact ⟨xs,o1.1,o3,o4,v',w',hrun,hown,ho,htp,hout,hge,fun b hb hne=>hold b hb (by rw [<-o2];exact hne),fun b hb=>by rw [o2];exact hblk b hb⟩
       ·obtain ⟨sz1,k1,g1,xs,⟨e1,e2,e3⟩,S⟩:=srcD_of (sto:=st.sto) (K:=fun a b c=>a=ie.size/\b=k/\c=f) R.mem (show srcD st.sto (.tab ie.size k f) _ from ⟨rfl,rfl,rfl⟩) (Rd.im _ _ false o3);subst e1 e2 e3;obtain ⟨a1,c1,q1,q2,q3⟩:=S.ex;rw [o2] at q1
        injection q1 with q1 _ q4
        subst q1 q4;have hnm:k1+m<=140737488355328:=Nat.le_trans (Nat.le_mul_of_pos_right _ (show 0<(Γ.get e).bytes by omega)) hb
        have hlen:(xs ++ news).length=(k1+m)*ie.size:=by rw [lap,S.len,hsrc.len,Nat.add_mul]
        have key:∃ v',(Builtin.append_ #[t,t] ty #[M.hv n,.slice ad m cap]).run P w = .ok v' (w.drew.alloc (.cells (xs.toArray ++ news.toArray ++ Builtin.zeroCells ze.cells (grownCap w (k1+m) k1 e - (k1+m))) e))/\v' = .slice (some ⟨w.heap.size,0,none⟩) (k1+m) (grownCap w (k1+m) k1 e):=by
         cases ad with
         | none=>have:=hm rfl;omega
         | some b =>
           rw [o2]
           cases ad0 with
           | none =>
             have hk0:=q2 rfl;subst hk0;have hx0:xs = []:=List.eq_nil_of_length_eq_zero (by simpa using S.len);subst hx0;have hr:=run_append_nil (P:=P) w t ty e ie ze hu0 hie hz1 b m cap news hsrc.len (hnw b rfl w R.keep) (by omega) (by omega) (by have h0:=hb;simp only [Nat.zero_add] at h0;rw [hb1];omega);simp only [Nat.zero_add,Array.empty_append] at hr ⊢;exact ⟨_,hr,rfl⟩
           | some p =>
             have hr:=run_append_grow (P:=P) w t ty e ie ze hu0 hie hz1 p k1 k1 xs S.len (q3 p rfl w R.keep) b m cap news hsrc.len (hnw b rfl w R.keep) (by omega) (by omega) (growslice_fits (by omega) (by rw [hb1];exact hb));exact ⟨_,hr,rfl⟩
        obtain ⟨v',hr,hv'⟩:=key;refine ⟨xs,S.len,S.el,S.one,v',_,hr,?_,rfl,rfl,rfl,by simp,fun k hk _=>heap_alloc_old w.drew _ hk,fun b hb=>.inr (by rw [hv'] at hb;simp only [Value.ownBlock,Option.some.injEq] at hb;omega)⟩;subst hv';have hge:=grownCap_ge w (k1+m) k1 e;have hcm:grownCap w (k1+m) k1 e<=maxLen:=grownCap_le_maxLen w (k1+m) k1 e (by unfold maxLen;omega);refine ⟨hlen,.inr ⟨w.heap.size,_,_,rfl,heap_alloc_new w.drew _,hge,hcm,?_,?_⟩⟩
        ·simp only [Array.size_append,List.size_toArray,size_zeroCells,hz2,S.len,hsrc.len,<-Nat.add_mul]
         congr 1
         omega
        ·simp only [Array.toList_append,List.append_assoc];rw [<-List.append_assoc,<-hlen];exact List.take_left
      have hsz' : M.h.size=w.heap.size:=by rw [R.h]
      have hle0:M.LeBut { M with ρ:=upd M.ρ n v'.ownBlock,hv:=upd M.hv n v',h:=w'.heap } n :=
       ⟨fun _ h=>h,fun b hb=>by rw [R.h];exact hold b (by rw [<-hsz'];exact R.mem.Slt b hb) (fun e=>R.mem.sep n b (by rw [hsto];simp) e hb),Nat.le_refl _,fun m _ hm=>upd_ne _ _ hm,fun m _ hm=>upd_ne _ _ hm,fun _ _ _=>rfl⟩
      obtain ⟨hm2,hle⟩:=R.mem.rehome (n:=n) (by rw [hsto];simp) (by rw [hsto];rfl) v'.ownBlock v' w'.heap (by rw [hsz'];exact hge) (fun b hb hne=>by rw [R.h];exact hold b (by omega) hne)
       (fun b hb=>by rw [hsz'];exact hblk b hb) (.arr e ie.size (k+m) fun i=>iteL (i<k) (f i) (g (i - k))) (by
         refine ⟨xs ++ news,by simpa [upd_self] using hown,by simp [upd_self],fun i hi=>?_,fun u hu=>?_⟩
         ·have hxl:=o1;have hnl:=hsrc.len;refine RdL.ite (fun hik=>?_) (fun hik=>?_)
          ·have hi' : i*ie.size+ie.size<=k*ie.size:=by rw [<-Nat.succ_mul];exact Nat.mul_le_mul_right _ hik
           have:((xs ++ news).drop (i*ie.size)).take ie.size=(xs.drop (i*ie.size)).take ie.size:=by
            rw [List.drop_append_of_le_length (by omega),List.take_append_of_le_length (by simp;omega)]
           rw [this];exact RdL.mono hle0.im _ _ (o3 i hik)
          ·have hik' : k<=i:=by omega
           have e1:i*ie.size=xs.length+(i - k)*ie.size:=by rw [hxl,<-Nat.add_mul];congr 1;omega
           have:((xs ++ news).drop (i*ie.size)).take ie.size=(news.drop ((i - k)*ie.size)).take ie.size:=by
            rw [e1,List.drop_append,ddl (by omega),List.nil_append,Nat.add_sub_cancel_left]
           rw [this];exact RdL.mono hle0.im _ _ (hsrc.el (i - k) (by omega))
         ·rcases List.mem_append.1 hu with h | h
          ·exact o4 u h
          ·exact hsrc.one u h)
      refine ⟨_,_,v',{ M with ρ:=upd M.ρ n v'.ownBlock,hv:=upd M.hv n v',h:=w'.heap },w',h,⟨rfl,R.nx,hm2,fun t=>Rd.sub hle (fun im _=>by simp [Rd]) _ _ _ (R.env t),R.sz,R.defs,ho.trans R.os,htp.trans R.tape,hout.trans R.output⟩,?_,hrun⟩;obtain ⟨ad',cap',he,_⟩:=ownsH_len hown;simp only [Rd,upd_self];exact ⟨trivial,hn,trivial,ad',k+m,cap',he⟩
     ·exact h.elim
    ·exact h.elim
   ·exact h.elim
  ·exact h.elim
 ·exact h.elim
end
end Sx
namespace Sx
open Go
mutual
def adD:D->(Nat->Box)->Nat->(D->(Nat->Box)->Nat->Prop)->Prop
 | .ftab e sz n f,s,k,K=>K (.own k) (upd s k (.arr e sz n f)) (k+1)| .foar e sz n f,s,k,K=>K (.own k) (upd s k (.arr e sz n f)) (k+1)| .ffam e sz n f,s,k,K=>K (.own k) (upd s k (.fam e sz n f)) (k+1)
 | .fbox l,s,k,K=>adL l s k fun l s k=>K (.loc k 0) (upd s k (.var l)) (k+1)
 | .agg l,s,k,K=>adL l s k fun l s k=>K (.agg l) s k
 | .tup l,s,k,K=>adL l s k fun l s k=>K (.tup l) s k
 | .fn f l,s,k,K=>adL l s k fun l s k=>K (.fn f l) s k
 | .own _,_,_,_=>False| .loc ..,_,_,_=>False| .pel ..,_,_,_=>False| .rsl ..,_,_,_=>False| .any,s,k,K=>K .any s k| .int i n,s,k,K=>K (.int i n) s k| .lit b,s,k,K=>K (.lit b) s k| .bool b,s,k,K=>K (.bool b) s k| .str b,s,k,K=>K (.str b) s k| .nil,s,k,K=>K .nil s k| .tab a b c,s,k,K=>K (.tab a b c) s k| .vec n g,s,k,K=>K (.vec n g) s k| .ref l,s,k,K=>K (.ref l) s k| .null,s,k,K=>K .null s k| .nilfn,s,k,K=>K .nilfn s k
 | .val u,s,k,K=>K (.val u) s k| .mapb l,s,k,K=>K (.mapb l) s k| .fmap l,s,k,K=>K (.mref k) (upd s k (.mp l)) (k+1)| .fmapd sk kn n ks vs,s,k,K=>K (.mref k) (upd s k (.mpd sk kn (mkM n ks vs))) (k+1)| .mref _,_,_,_=>False
def adL:List D->(Nat->Box)->Nat->(List D->(Nat->Box)->Nat->Prop)->Prop
 | [],s,k,K=>K [] s k
 | d :: l,s,k,K=>adD d s k fun d s k=>adL l s k fun l s k=>K (d :: l) s k
end
section
variable {Pc:Program} {c:Cx Pc}
structure Ad {Pc:Program} (c:Cx Pc) (M:Mi) (sto:Nat->Box) (F:List Nat) (M' : Mi) (sto' : Nat->Box):Prop where
 mem:Mem c M' sto'
 le:M.Le M' false
 h:M'.h=M.h
 S:M'.S=M.S
 occ:∀ n b,sto' n≠.dead->M'.O n b->(sto n≠.dead/\M.O n b)\/b ∈ F
theorem Ad.trans {M M1 M2:Mi} {s s1 s2:Nat->Box} {F1 F2:List Nat} (A:Ad c M s F1 M1 s1) (B:Ad c M1 s1 F2 M2 s2):Ad c M s (F1 ++ F2) M2 s2 :=
 ⟨B.mem,⟨fun b hb=>B.le.S b (A.le.S b hb),fun b hb=>(B.le.h b (A.le.S b hb)).trans (A.le.h b hb),fun _=>Nat.le_trans (A.le.nx rfl) (B.le.nx rfl),
  fun _ n hn=>(B.le.ρ rfl n (Nat.lt_of_lt_of_le hn (A.le.nx rfl))).trans (A.le.ρ rfl n hn),fun _ n hn=>(B.le.hv rfl n (Nat.lt_of_lt_of_le hn (A.le.nx rfl))).trans (A.le.hv rfl n hn),fun _ n hn=>(B.le.X rfl n (Nat.lt_of_lt_of_le hn (A.le.nx rfl))).trans (A.le.X rfl n hn)⟩,
  B.h.trans A.h,B.S.trans A.S,fun n b h1 h2=>by
   rcases B.occ n b h1 h2 with h | h
   ·rcases A.occ n b h.1 h.2 with h | h
    ·exact .inl h
    ·exact .inr (List.mem_append_left _ h)
   ·exact .inr (List.mem_append_right _ h)⟩
structure Free {Pc:Program} (c:Cx Pc) (M:Mi) (sto:Nat->Box) (F:List Nat):Prop where
 nd:F.Nodup
 S:∀ b ∈ F,¬ M.S b
 occ:∀ b ∈ F,∀ n,sto n≠.dead->¬ M.O n b
 fr:∀ b ∈ F,c.w0.heap.size<=b\/c.W0 b
theorem Free.left {M:Mi} {sto:Nat->Box} {F1 F2:List Nat} (H:Free c M sto (F1 ++ F2)):Free c M sto F1 :=
 ⟨(List.nodup_append.1 H.nd).1,fun b hb=>H.S b (List.mem_append_left _ hb),fun b hb=>H.occ b (List.mem_append_left _ hb),fun b hb=>H.fr b (List.mem_append_left _ hb)⟩
theorem Free.right {M M' : Mi} {sto sto' : Nat->Box} {F1 F2:List Nat} (H:Free c M sto (F1 ++ F2)) (A:Ad c M sto F1 M' sto'):Free c M' sto' F2:=by
 obtain ⟨h1,h2,h3⟩:=List.nodup_append.1 H.nd;refine ⟨h2,fun b hb=>by rw [A.S];exact H.S b (List.mem_append_right _ hb),fun b hb n hn he=>?_,fun b hb=>H.fr b (List.mem_append_right _ hb)⟩
 rcases A.occ n b hn he with h | h
 ·exact H.occ b (List.mem_append_right _ hb) n h.1 h.2
 ·exact h3 b h b hb rfl
mutual
theorem adD_ok:∀ (d:D) (v:Value) (F:List Nat) (M:Mi) (sto:Nat->Box) (K:D->(Nat->Box)->Nat->Prop),Mem c M sto->Od M d v F->Free c M sto F->adD d sto M.nx K ->
 ∃ d' sto' M',K d' sto' M'.nx/\Ad c M sto F M' sto'/\Rd M' false d' v
 | .ftab e sz n f,v,F,M,sto,K,HM,h,hf,hk=>by
   simp only [Od] at h;simp only [adD] at hk;obtain ⟨⟨xs,h1,h2,h3⟩,rfl⟩:=h
   have hm:=HM.adopt v.ownBlock v (.arr e sz n f) ⟨xs,by simpa [Mi.give,upd_self] using h1,by simp [Mi.give,upd_self],fun i hi=>RdL.mono (M.give_le _ _ false).im _ _ (h2 i hi),h3⟩
    (fun b hb=>hf.S b (by simp [hb])) (fun m b hb hd=>hf.occ b (by simp [hb]) m hd) (fun b hb=>hf.fr b (by simp [hb]))
   refine ⟨_,_,M.give v.ownBlock v,hk,⟨hm,M.give_le _ _ false,rfl,rfl,fun m b hd hb=>?_⟩,?_⟩
   ·by_cases e:m=M.nx
    ·subst e;simp only [Mi.O,Mi.give,upd_self,or_false] at hb;exact .inr (by simp [hb])
    ·rw [upd_ne _ _ e] at hd;simp only [Mi.O,Mi.give,upd_ne _ _ e] at hb;exact .inl ⟨hd,hb⟩
   ·obtain ⟨ad,cap,he,_⟩:=ownsH_len h1;simp only [Rd,Mi.give,upd_self];exact ⟨trivial,Nat.lt_succ_self _,trivial,ad,n,cap,he⟩
 | .foar e sz n f,v,F,M,sto,K,HM,h,hf,hk=>by
   simp only [Od] at h;simp only [adD] at hk;obtain ⟨⟨xs,h1,h2,h3⟩,rfl⟩:=h
   have hm:=HM.adopt v.ownBlock v (.arr e sz n f) ⟨xs,by simpa [Mi.give,upd_self] using h1,by simp [Mi.give,upd_self],fun i hi=>RdL.mono (M.give_le _ _ false).im _ _ (h2 i hi),h3⟩
    (fun b hb=>hf.S b (by simp [hb])) (fun m b hb hd=>hf.occ b (by simp [hb]) m hd) (fun b hb=>hf.fr b (by simp [hb]))
   refine ⟨_,_,M.give v.ownBlock v,hk,⟨hm,M.give_le _ _ false,rfl,rfl,fun m b hd hb=>?_⟩,?_⟩
   ·by_cases e:m=M.nx
    ·subst e;simp only [Mi.O,Mi.give,upd_self,or_false] at hb;exact .inr (by simp [hb])
    ·rw [upd_ne _ _ e] at hd;simp only [Mi.O,Mi.give,upd_ne _ _ e] at hb;exact .inl ⟨hd,hb⟩
   ·obtain ⟨ad,cap,he,_⟩:=ownsH_len h1;simp only [Rd,Mi.give,upd_self];exact ⟨trivial,Nat.lt_succ_self _,trivial,ad,n,cap,he⟩
 | .ffam e sz n f,v,F,M,sto,K,HM,h,hf,hk=>by
   simp only [Od] at h;simp only [adD] at hk;obtain ⟨xs,Fs,h1,h2,h3,rfl⟩:=h;obtain ⟨nd1,nd2,nd3⟩:=List.nodup_append.1 hf.nd
   have hin:∀ b,v.ownBlock=some b\/b ∈ rowsF Fs n->b ∈ v.ownBlock.toList ++ rowsF Fs n:=fun b h=>by simpa [List.mem_append] using h
   have hm:=HM.adoptX v.ownBlock v (fun b=>b ∈ rowsF Fs n) (.fam e sz n f) ⟨xs,Fs,by simpa [Mi.giveX,upd_self] using h1,by simp [Mi.giveX,upd_self],fun i hi=>OdL.mono (M.giveX_le _ _ _ false).S (M.giveX_le v.ownBlock v (fun b=>b ∈ rowsF Fs n) false).h _ _ _ (h2 i hi) (fun _ _=>rfl),h3,nd2,fun b=>by simp [Mi.giveX,upd_self],fun b hb he=>by
    simp only [Mi.giveX,upd_self] at he
    exact nd3 b (by simp [he]) b hb rfl⟩
    (fun b hb=>hf.S b (hin b hb)) (fun m b hb hd=>hf.occ b (hin b hb) m hd) (fun b hb=>hf.fr b (hin b hb)) nofun
   refine ⟨_,_,M.giveX v.ownBlock v (fun b=>b ∈ rowsF Fs n),hk,⟨hm,M.giveX_le _ _ _ false,rfl,rfl,fun m b hd hb=>?_⟩,?_⟩
   ·by_cases e:m=M.nx
    ·subst e;simp only [Mi.O,Mi.giveX,upd_self] at hb;exact .inr (hin b hb)
    ·rw [upd_ne _ _ e] at hd;simp only [Mi.O,Mi.giveX,upd_ne _ _ e] at hb;exact .inl ⟨hd,hb⟩
   ·obtain ⟨ad,cap,he,_⟩:=ownsH_len h1;simp only [Rd,Mi.giveX,upd_self];exact ⟨trivial,Nat.lt_succ_self _,trivial,ad,n,cap,he⟩
 | .fbox l,v,F,M,sto,K,HM,h,hf,hk=>by
   simp only [Od] at h;simp only [adD] at hk;obtain ⟨b,cs,ty,F',rfl,h2,h3,rfl⟩:=h
   have hf1:Free c M sto (F' ++ [b]):=by
    have:=List.nodup_cons.1 hf.nd;refine ⟨?_,fun x hx=>hf.S x (by simp at hx ⊢;exact hx.symm),fun x hx=>hf.occ x (by simp at hx ⊢;exact hx.symm),fun x hx=>hf.fr x (by simp at hx ⊢;exact hx.symm)⟩;rw [List.nodup_append];exact ⟨this.2,by simp,fun x hx y hy=>by simp at hy;subst hy;rintro rfl;exact this.1 hx⟩
   obtain ⟨l',s1,M1,hk,A,hr⟩:=adL_ok l cs.toList F' M sto _ HM h3 hf1.left hk;have hf2:=hf1.right A
   have hm:=A.mem.adopt (some b) (.pointer none) (.var l') ⟨b,cs,ty,by simp [Mi.give,upd_self],by simp only [Mi.give,A.h];exact h2,RdL.mono (M1.give_le _ _ false) _ _ hr⟩
    (fun x hx=>by cases hx;exact hf2.S b (by simp)) (fun m x hx hd=>by cases hx;exact hf2.occ b (by simp) m hd) (fun x hx=>by cases hx;exact hf2.fr b (by simp))
   have A2:Ad c M1 s1 [b] (M1.give (some b) (.pointer none)) (upd s1 M1.nx (.var l')):=⟨hm,M1.give_le _ _ false,rfl,rfl,fun m x hd hx=>by
    by_cases e:m=M1.nx
    ·subst e;simp only [Mi.O,Mi.give,upd_self,or_false] at hx;exact .inr (by simp at hx;simp [hx])
    ·rw [upd_ne _ _ e] at hd;simp only [Mi.O,Mi.give,upd_ne _ _ e] at hx;exact .inl ⟨hd,hx⟩⟩
   have A3:=A.trans A2;refine ⟨_,_,_,hk,⟨A3.mem,A3.le,A3.h,A3.S,fun n x hd hx=>(A3.occ n x hd hx).imp id (fun h=>by simp at h ⊢;exact h.symm)⟩,?_⟩;simp only [Rd,Mi.give,upd_self];exact ⟨trivial,Nat.lt_succ_self _,b,rfl,rfl⟩
 | .agg l,v,F,M,sto,K,HM,h,hf,hk=>by
   simp only [Od] at h;simp only [adD] at hk;obtain ⟨cs,rfl,h⟩:=h;obtain ⟨l',s1,M1,hk,A,hr⟩:=adL_ok l cs.toList F M sto _ HM h hf hk;exact ⟨_,_,M1,hk,A,by simp only [Rd];exact ⟨cs,rfl,hr⟩⟩
 | .tup l,v,F,M,sto,K,HM,h,hf,hk=>by
   simp only [Od] at h;simp only [adD] at hk;obtain ⟨cs,rfl,h⟩:=h;obtain ⟨l',s1,M1,hk,A,hr⟩:=adT_ok l cs.toList F M sto _ HM h hf hk;exact ⟨_,_,M1,hk,A,by simp only [Rd];exact ⟨cs,rfl,hr⟩⟩
 | .fn f l,v,F,M,sto,K,HM,h,hf,hk=>by
   simp only [Od] at h;simp only [adD] at hk;obtain ⟨cs,rfl,h⟩:=h;obtain ⟨l',s1,M1,hk,A,hr⟩:=adL_ok l cs.toList F M sto _ HM h hf hk;exact ⟨_,_,M1,hk,A,by simp only [Rd];exact ⟨cs,rfl,hr⟩⟩
 | .any,v,F,M,sto,K,HM,h,_,hk | .int ..,v,F,M,sto,K,HM,h,_,hk | .lit _,v,F,M,sto,K,HM,h,_,hk | .bool _,v,F,M,sto,K,HM,h,_,hk | .str _,v,F,M,sto,K,HM,h,_,hk | .nil,v,F,M,sto,K,HM,h,_,hk
 | .tab ..,v,F,M,sto,K,HM,h,_,hk | .vec ..,v,F,M,sto,K,HM,h,_,hk | .ref _,v,F,M,sto,K,HM,h,_,hk | .null,v,F,M,sto,K,HM,h,_,hk | .nilfn,v,F,M,sto,K,HM,h,_,hk | .val _,v,F,M,sto,K,HM,h,_,hk | .mapb _,v,F,M,sto,K,HM,h,_,hk=>by
   simp only [Od] at h;simp only [adD] at hk;exact ⟨_,_,M,hk,⟨HM,Mi.Le.refl _ _,rfl,rfl,fun n b h1 h2=>.inl ⟨h1,h2⟩⟩,Rd.im _ _ _ h.1⟩
 | .own _,v,F,M,sto,K,HM,h,_,hk | .loc ..,v,F,M,sto,K,HM,h,_,hk | .pel ..,v,F,M,sto,K,HM,h,_,hk | .rsl ..,v,F,M,sto,K,HM,h,_,hk | .mref _,v,F,M,sto,K,HM,h,_,hk=>by simp [adD] at hk
 | .fmap l,v,F,M,sto,K,HM,h,hf,hk=>by
   simp only [Od] at h;simp only [adD] at hk;obtain ⟨b,rfl,h,rfl⟩:=h
   have hm:=HM.adopt (some b) (.pointer none) (.mp l) ⟨b,by simp [Mi.give,upd_self],h⟩
    (fun x hx=>by cases hx;exact hf.S b (by simp)) (fun m x hx hd=>by cases hx;exact hf.occ b (by simp) m hd) (fun x hx=>by cases hx;exact hf.fr b (by simp))
   refine ⟨_,_,M.give (some b) (.pointer none),hk,⟨hm,M.give_le _ _ false,rfl,rfl,fun m x hd hx=>?_⟩,?_⟩
   ·by_cases e:m=M.nx
    ·subst e;simp only [Mi.O,Mi.give,upd_self,or_false] at hx;exact .inr (by simp at hx;simp [hx])
    ·rw [upd_ne _ _ e] at hd;simp only [Mi.O,Mi.give,upd_ne _ _ e] at hx;exact .inl ⟨hd,hx⟩
   ·simp only [Rd,Mi.give,upd_self];exact ⟨trivial,Nat.lt_succ_self _,b,rfl,rfl⟩
 | .fmapd sk kn n ks vs,v,F,M,sto,K,HM,h,hf,hk=>by
   simp only [Od] at h;simp only [adD] at hk;obtain ⟨b,rfl,h,rfl⟩:=h
   have hm:=HM.adopt (some b) (.pointer none) (.mpd sk kn (mkM n ks vs)) ⟨b,by simp [Mi.give,upd_self],h.mono (M.give_le _ _ true)⟩
    (fun x hx=>by cases hx;exact hf.S b (by simp)) (fun m x hx hd=>by cases hx;exact hf.occ b (by simp) m hd) (fun x hx=>by cases hx;exact hf.fr b (by simp))
   refine ⟨_,_,M.give (some b) (.pointer none),hk,⟨hm,M.give_le _ _ false,rfl,rfl,fun m x hd hx=>?_⟩,?_⟩
   ·by_cases e:m=M.nx
    ·subst e;simp only [Mi.O,Mi.give,upd_self,or_false] at hx;exact .inr (by simp at hx;simp [hx])
    ·rw [upd_ne _ _ e] at hd;simp only [Mi.O,Mi.give,upd_ne _ _ e] at hx;exact .inl ⟨hd,hx⟩
   ·simp only [Rd,Mi.give,upd_self];exact ⟨trivial,Nat.lt_succ_self _,b,rfl,rfl⟩
theorem adL_ok:∀ (l:List D) (vs:List Value) (F:List Nat) (M:Mi) (sto:Nat->Box) (K:List D->(Nat->Box)->Nat->Prop),Mem c M sto->OdL M l vs F->Free c M sto F->adL l sto M.nx K ->
 ∃ l' sto' M',K l' sto' M'.nx/\Ad c M sto F M' sto'/\RdL M' false l' vs
 | [],[],F,M,sto,K,HM,h,_,hk=>by
   simp only [adL] at hk;exact ⟨[],sto,M,hk,⟨HM,Mi.Le.refl _ _,rfl,rfl,fun n b h1 h2=>.inl ⟨h1,h2⟩⟩,by simp [RdL]⟩
 | d :: l,v :: vs,F,M,sto,K,HM,h,hf,hk=>by
   simp only [OdL] at h;simp only [adL] at hk;obtain ⟨h1,F1,F2,rfl,h2,h3⟩:=h;obtain ⟨d',s1,M1,hk,A,hr⟩:=adD_ok d v F1 M sto _ HM h2 hf.left hk;obtain ⟨l',s2,M2,hk,B,hr2⟩:=adL_ok l vs F2 M1 s1 _ A.mem (OdL.mono A.le.S A.le.h l vs F2 h3 (fun b _=>by rw [A.h])) (hf.right A) hk;exact ⟨_,_,M2,hk,A.trans B,by simp only [RdL];exact ⟨h1,Rd.mono B.le _ _ hr,hr2⟩⟩
 | [],_ :: _,_,_,_,_,_,h,_,_=>by simp [OdL] at h
 | _ :: _,[],_,_,_,_,_,h,_,_=>by simp [OdL] at h
theorem adT_ok:∀ (l:List D) (vs:List Value) (F:List Nat) (M:Mi) (sto:Nat->Box) (K:List D->(Nat->Box)->Nat->Prop),Mem c M sto->OdT M l vs F->Free c M sto F->adL l sto M.nx K ->
 ∃ l' sto' M',K l' sto' M'.nx/\Ad c M sto F M' sto'/\RdT M' false l' vs
 | [],[],F,M,sto,K,HM,h,_,hk=>by
   simp only [adL] at hk;exact ⟨[],sto,M,hk,⟨HM,Mi.Le.refl _ _,rfl,rfl,fun n b h1 h2=>.inl ⟨h1,h2⟩⟩,by simp [RdT]⟩
 | d :: l,v :: vs,F,M,sto,K,HM,h,hf,hk=>by
   simp only [OdT] at h;simp only [adL] at hk;obtain ⟨F1,F2,rfl,h2,h3⟩:=h;obtain ⟨d',s1,M1,hk,A,hr⟩:=adD_ok d v F1 M sto _ HM h2 hf.left hk;obtain ⟨l',s2,M2,hk,B,hr2⟩:=adT_ok l vs F2 M1 s1 _ A.mem (OdT.mono A.le.S A.le.h l vs F2 h3 (fun b _=>by rw [A.h])) (hf.right A) hk;exact ⟨_,_,M2,hk,A.trans B,by simp only [RdT];exact ⟨Rd.mono B.le _ _ hr,hr2⟩⟩
 | [],_ :: _,_,_,_,_,_,h,_,_=>by simp [OdT] at h
 | _ :: _,[],_,_,_,_,_,h,_,_=>by simp [OdT] at h
end
end
end Sx
