/-
  Candidates of sheets, and the bonds of candidates: what they are.
  No condition beyond those written in each theorem.
-/
import Derived.Test.YtjommlbfjnifmaaGreatDoorKA9
import Derived.Test.YtjommlbfjnifmaaGreatDoorKB1
import Derived.Test.YtjommlbfjnifmaaGreatDoorKA7
import Derived.Test.YtjommlbfjnifmaaGreatDoorFD
import Derived.Deep.RegionHeld2
set_option linter.unusedSimpArgs false
set_option linter.unusedVariables false
set_option maxRecDepth 4000
open Go Sx Go.Proofs
namespace Kx
def dcE (a b:Bs):Int:=if a.L=0\/b.L=0 then -1 else dice a b
def agN (x y:Sn):Nat->Bool
 | 0=>false| n+1=>agN x y n || (x.t.getD n false && y.t.getD n false && decide (x.h.getD n 0=y.h.getD n 0))
def pwr (n:Nat):Int:=[1,3,9,27,81,243].getD n 0
def digS (t s:Int):Int:=if s<0 then 0 else if s<t then 1 else 2
def numN (f:Nat->Int):Nat->Int
 | 0=>0| n+1=>numN f n+f n*pwr n
def outC (p:Int) (n:Nat):Int:=(p.tdiv (pwr n)).tmod 3
def cwt (d a o:Int):Int:=if o=0 then 0 else if o=1 then d else a
structure Wt where
 p:Int
 a:List Int
 d:List Int
structure Wt.ok (w:Wt) (fl:Nat):Prop where
 f:1<=fl/\fl<=3
 p : -40<=w.p/\w.p<=10
 na:w.a.length=fl
 nd:w.d.length=fl
 a:∀ x ∈ w.a,-3<=x/\x<=60
 d:∀ x ∈ w.d,-60<=x/\x<=3
def scN (w:Wt) (p:Int):Nat->Int
 | 0=>w.p| n+1=>scN w p n+cwt (w.d.getD n 0) (w.a.getD n 0) (outC p n)
theorem cwt_bd {d a o:Int} (hd : -60<=d/\d<=3) (ha : -3<=a/\a<=60) : -60<=cwt d a o/\cwt d a o<=60:=by
 unfold cwt;split
 ·omega
 ·split<;>omega
theorem sc_bd {w:Wt} {fl:Nat} (h:w.ok fl) (p:Int):∀ n,n<=fl->-40 - 60*(n:Int)<=scN w p n/\scN w p n<=10+60*(n:Int)
 | 0,_=>by have:=h.p;simp only [scN];omega
 | n+1,hn=>by
   have ih:=sc_bd h p n (by omega);have:=cwt_bd (o:=outC p n) (h.d (w.d.getD n 0) (getD_in (by rw [h.nd];omega))) (h.a (w.a.getD n 0) (getD_in (by rw [h.na];omega)));simp only [scN];omega
def patS (ts:List Int) (x y:Sn):Int:=numN (fun i=>digS (ts.getD i 0) (dcE (x.b.getD i Bs.z) (y.b.getD i Bs.z))) ts.length
def cmpd (w:Wt) (ts:List Int) (r s:Nat) (x y:Sn):Cd:=⟨⟨r,x.id⟩,⟨s,y.id⟩,patS ts x y,scN w (patS ts x y) w.a.length⟩
def mkP (w:Wt) (ts:List Int) (ky r s:Nat) (x y:Sn):Option Cd:=if agN x y ky=true then some (cmpd w ts r s x y) else none
def mkY (w:Wt) (ts:List Int) (ky r s:Nat) (x:Sn) (ys:List Sn):List Cd:=ys.filterMap (mkP w ts ky r s x)
def mkS (L:List (List Sn)) (w:Wt) (ts:List Int) (ky r:Nat) (x:Sn) (n:Nat):List Cd:=(List.range n).flatMap fun j=>mkY w ts ky r (r+1+j) x (L.getD (r+1+j) [])
def mkX (L:List (List Sn)) (w:Wt) (ts:List Int) (ky r:Nat) (xs:List Sn):List Cd:=xs.flatMap fun x=>mkS L w ts ky r x (L.length - (r+1))
def mkR (L:List (List Sn)) (w:Wt) (ts:List Int) (ky n:Nat):List Cd:=(List.range n).flatMap fun r=>mkX L w ts ky r (L.getD r [])
def mkA (L:List (List Sn)) (w:Wt) (ts:List Int) (ky:Nat):List Cd:=mkR L w ts ky L.length
section
variable {L:List (List Sn)} {w:Wt} {ts:List Int} {ky:Nat}
theorem mem_mkY {r s:Nat} {x:Sn} {ys:List Sn} {c:Cd} (h:c ∈ mkY w ts ky r s x ys):∃ y ∈ ys,c=cmpd w ts r s x y:=by
 obtain ⟨y,hy,e⟩:=List.mem_filterMap.1 h;unfold mkP at e;split at e
 ·cases e;exact ⟨y,hy,rfl⟩
 ·cases e
theorem mem_mkS {r n:Nat} {x:Sn} {c:Cd} (h:c ∈ mkS L w ts ky r x n):∃ j,j<n/\∃ y ∈ L.getD (r+1+j) [],c=cmpd w ts r (r+1+j) x y:=by
 obtain ⟨j,hj,h⟩:=List.mem_flatMap.1 h;obtain ⟨y,hy,e⟩:=mem_mkY h;exact ⟨j,List.mem_range.1 hj,y,hy,e⟩
theorem mem_mkX {r:Nat} {xs:List Sn} {c:Cd} (h:c ∈ mkX L w ts ky r xs):∃ x ∈ xs,∃ s,r<s/\s<L.length/\∃ y ∈ L.getD s [],c=cmpd w ts r s x y:=by
 obtain ⟨x,hx,h⟩:=List.mem_flatMap.1 h;obtain ⟨j,hj,y,hy,e⟩:=mem_mkS h;exact ⟨x,hx,r+1+j,by omega,by omega,y,hy,e⟩
theorem mem_mkR {n:Nat} {c:Cd} (h:c ∈ mkR L w ts ky n):∃ r,r<n/\∃ x ∈ L.getD r [],∃ s,r<s/\s<L.length/\∃ y ∈ L.getD s [],c=cmpd w ts r s x y:=by
 obtain ⟨r,hr,h⟩:=List.mem_flatMap.1 h;obtain ⟨x,hx,s,h1,h2,h3⟩:=mem_mkX h;exact ⟨r,List.mem_range.1 hr,x,hx,s,h1,h2,h3⟩
theorem cmpC_lt {a b c e:Rf} (h:ltR a c\/(a=c/\ltR b e)):cmpC a b c e<0:=by
 unfold cmpC
 rcases h with h | ⟨rfl,h⟩
 ·have h:cmpR a c<0:=h;rw [if_pos (by omega)];exact h
 ·rw [if_neg (not_not_intro (cmpR_eq.2 rfl))];exact h
theorem ltR_of {a b c e:Int} (h:a<c\/(a=c/\b<e)):ltR ⟨a,b⟩ ⟨c,e⟩:=cmpR_lt.2 h
theorem rng_pw (n:Nat):(List.range n).Pairwise (· < ·):=List.pairwise_lt_range
theorem mkY_pw {r s:Nat} {x:Sn} {ys:List Sn} (h:ys.Pairwise fun a b=>a.id<b.id):(mkY w ts ky r s x ys).Pairwise cdLt:=by
 unfold mkY;rw [List.pairwise_filterMap];refine List.Pairwise.imp (fun {a b} hab=>?_) h;intro c hc d hd;unfold mkP at hc hd;split at hc
 ·cases hc;split at hd
  ·cases hd;exact cmpC_lt (.inr ⟨rfl,ltR_of (.inr ⟨rfl,hab⟩)⟩)
  ·cases hd
 ·cases hc
theorem mkS_pw {r n:Nat} {x:Sn} (h:∀ l ∈ L,l.Pairwise fun a b=>a.id<b.id) (hn:r+1+n<=L.length):(mkS L w ts ky r x n).Pairwise cdLt:=by
 unfold mkS;rw [List.pairwise_flatMap];refine ⟨fun j hj=>mkY_pw (h _ (getD_in (by have:=List.mem_range.1 hj;omega))),List.Pairwise.imp (fun {j k} hjk=>?_) (rng_pw n)⟩;intro c hc d hd;obtain ⟨y,_,rfl⟩:=mem_mkY hc;obtain ⟨z,_,rfl⟩:=mem_mkY hd;exact cmpC_lt (.inr ⟨rfl,ltR_of (.inl (by omega))⟩)
theorem mkX_pw {r:Nat} {xs:List Sn} (h:∀ l ∈ L,l.Pairwise fun a b=>a.id<b.id) (hx:xs.Pairwise fun a b=>a.id<b.id) (hr:r<L.length):(mkX L w ts ky r xs).Pairwise cdLt:=by
 unfold mkX;rw [List.pairwise_flatMap];refine ⟨fun x _=>mkS_pw h (by omega),List.Pairwise.imp (fun {a b} hab=>?_) hx⟩;intro c hc d hd;obtain ⟨_,_,y,_,rfl⟩:=mem_mkS hc;obtain ⟨_,_,z,_,rfl⟩:=mem_mkS hd;exact cmpC_lt (.inl (ltR_of (.inr ⟨rfl,hab⟩)))
theorem mkR_pw {n:Nat} (h:∀ l ∈ L,l.Pairwise fun a b=>a.id<b.id) (hn:n<=L.length):(mkR L w ts ky n).Pairwise cdLt:=by
 unfold mkR;rw [List.pairwise_flatMap];refine ⟨fun r hr=>?_,List.Pairwise.imp (fun {r s} hrs=>?_) (rng_pw n)⟩
 ·have hr:=List.mem_range.1 hr;exact mkX_pw h (h _ (getD_in (by omega))) (by omega)
 ·intro c hc d hd;obtain ⟨_,_,_,_,_,_,_,rfl⟩:=mem_mkX hc;obtain ⟨_,_,_,_,_,_,_,rfl⟩:=mem_mkX hd;exact cmpC_lt (.inl (ltR_of (.inl (by omega))))
theorem flatMap_len {α β:Type} (f:α->List β) (m:Nat):∀ (l:List α),(∀ x ∈ l,(f x).length<=m)->(l.flatMap f).length<=l.length*m
 | [],_=>by simp
 | x :: l,h=>by
   have:=flatMap_len f m l fun y hy=>h y (by simp [hy])
   have:=h x (by simp);rw [List.flatMap_cons,lap,List.length_cons,Nat.succ_mul];omega
theorem mkY_len {r s:Nat} {x:Sn} {ys:List Sn} (h:ys.length<=4):(mkY w ts ky r s x ys).length<=4:=Nat.le_trans (List.length_filterMap_le _ _) h
theorem mkS_len {r n:Nat} {x:Sn} (h:∀ l ∈ L,l.length<=4) (hn:r+1+n<=L.length):(mkS L w ts ky r x n).length<=n*4:=by
 have:=flatMap_len (fun j=>mkY w ts ky r (r+1+j) x (L.getD (r+1+j) [])) 4 (List.range n) fun j hj=>mkY_len (h _ (getD_in (by have:=List.mem_range.1 hj;omega)))
 rwa [List.length_range] at this
theorem mkX_len {r:Nat} {xs:List Sn} (h:∀ l ∈ L,l.length<=4) (h3:L.length=3) (hr:r<L.length):(mkX L w ts ky r xs).length<=xs.length*8 :=
 flatMap_len (fun x=>mkS L w ts ky r x (L.length - (r+1))) 8 xs fun x _=>Nat.le_trans (mkS_len h (by omega)) (by omega)
theorem mkR_len {n:Nat} (h:∀ l ∈ L,l.length<=4) (h3:L.length=3) (hn:n<=L.length):(mkR L w ts ky n).length<=n*32:=by
 have:=flatMap_len (fun r=>mkX L w ts ky r (L.getD r [])) 32 (List.range n) fun r hr=>by
  have hr:=List.mem_range.1 hr;have:=mkX_len (w:=w) (ts:=ts) (ky:=ky) (xs:=L.getD r []) h h3 (r:=r) (by omega);have:=h (L.getD r []) (getD_in (by omega));omega
 rwa [List.length_range] at this
theorem refB_ok {r:Rf} (h:0<=r.g/\r.g<4/\1<=r.i/\r.i<=1048576):refB r=true:=by
 unfold refB;rw [decide_eq_true h.1,decide_eq_true h.2.1,decide_eq_true h.2.2.1,decide_eq_true h.2.2.2];rfl
theorem cplB_ok {a b:Rf} (ha:0<=a.g/\a.g<4/\1<=a.i/\a.i<=1048576) (hb:0<=b.g/\b.g<4/\1<=b.i/\b.i<=1048576) (h:a.g<b.g):cplB a b=true:=by
 unfold cplB;rw [refB_ok ha,refB_ok hb,decide_eq_true h];rfl
def Sh3 (fl ky:Nat) (L:List (List Sn)):Prop:=ShsV fl ky L 3
theorem Sh3.len {fl:Nat} (h:Sh3 fl ky L):L.length=3:=by have:=h.n;omega
structure CdU (l:List Cd):Prop where
 v:CdV l
 u:∀ c ∈ l,c.b.g<3/\c.a.i<=8/\c.b.i<=8
theorem mkA_ok {fl:Nat} (h:Sh3 fl ky L) (hw:w.ok fl):CdU (mkA L w ts ky):=by
 have h3:=h.len
 have hl:∀ l ∈ L,l.length<=4:=fun l hl=>(h.l l hl).n
 refine ⟨⟨mkR_pw (fun l hl=>(h.l l hl).p) (Nat.le_refl _),fun c hc=>?_,fun c hc=>?_,?_⟩,fun c hc=>?_⟩
 ·obtain ⟨r,hr,x,hx,s,h1,h2,y,hy,rfl⟩:=mem_mkR hc;have a:=((h.l _ (getD_in (z:=[]) (i:=r) (by omega))).s x hx).i;have b:=((h.l _ (getD_in (z:=[]) (i:=s) h2)).s y hy).i;exact cplB_ok (a:=⟨r,x.id⟩) (b:=⟨s,y.id⟩) ⟨by dsimp only;omega,by dsimp only;omega,a.1,by dsimp only;omega⟩ ⟨by dsimp only;omega,by dsimp only;omega,b.1,by dsimp only;omega⟩ (by dsimp only;omega)
 ·obtain ⟨r,hr,x,hx,s,h1,h2,y,hy,rfl⟩:=mem_mkR hc;have:=sc_bd hw (patS ts x y) w.a.length (by rw [hw.na];exact Nat.le_refl _);have:=hw.na;have:=hw.f;simp only [cmpd];omega
 ·have:=mkR_len (w:=w) (ts:=ts) (ky:=ky) hl h3 (Nat.le_refl _);unfold mkA;omega
 ·obtain ⟨r,hr,x,hx,s,h1,h2,y,hy,rfl⟩:=mem_mkR hc;have a:=((h.l _ (getD_in (z:=[]) (i:=r) (by omega))).s x hx).i;have b:=((h.l _ (getD_in (z:=[]) (i:=s) h2)).s y hy).i;simp only [cmpd];omega
end
def bdLt (x y:Bd):Prop:=cmpC x.a x.b y.a y.b<0
structure BdV (l:List Bd):Prop where
 p:l.Pairwise bdLt
 q:∀ b ∈ l,cplB b.a b.b=true
 w:∀ b ∈ l,1<=b.w/\b.w<=1048576
 n:l.length<=648
 u:∀ b ∈ l,b.b.g<3/\b.a.i<=8/\b.b.i<=8
theorem bnd_fm (t:Th) (s:List Dz):∀ l:List Cd,bnd t s l=l.filterMap fun c=>if counts t s c=true then some (bndOf t c) else none
 | []=>rfl
 | c :: l=>by
   rw [bnd,bnd_fm t s l,List.filterMap_cons];split
   ·rename_i h;simp [h]
   ·rename_i h;simp [h]
theorem mem_bnd {t:Th} {s:List Dz} {l:List Cd} {b:Bd} (h:b ∈ bnd t s l):∃ c ∈ l,b=bndOf t c:=by
 rw [bnd_fm] at h;obtain ⟨c,hc,e⟩:=List.mem_filterMap.1 h;split at e
 ·cases e;exact ⟨c,hc,rfl⟩
 ·cases e
theorem bnd_ok {t:Th} {s:List Dz} {l:List Cd} (h:CdU l) (ht:1<=t.hi/\t.hi<=60):BdV (bnd t s l):=by
 refine ⟨?_,fun b hb=>?_,fun b hb=>?_,?_,fun b hb=>?_⟩
 ·rw [bnd_fm,List.pairwise_filterMap];refine List.Pairwise.imp (fun {c d} hcd=>?_) h.v.p;intro x hx y hy;split at hx
  ·cases hx;split at hy
   ·cases hy;exact hcd
   ·cases hy
  ·cases hx
 ·obtain ⟨c,hc,rfl⟩:=mem_bnd hb;exact h.v.q c hc
 ·obtain ⟨c,hc,rfl⟩:=mem_bnd hb;have:=h.v.w c hc;simp only [bndOf];omega
 ·rw [bnd_fm];exact Nat.le_trans (List.length_filterMap_le _ _) h.v.n
 ·obtain ⟨c,hc,rfl⟩:=mem_bnd hb;have:=h.u c hc;simp only [bndOf];omega
def uni24:List Rf:=(List.range 3).flatMap fun g=>(List.range 8).map fun i:Nat=>Rf.mk ((g:Nat):Int) ((i:Int)+1)
theorem mem_uni {r:Rf} (h0:0<=r.g) (h1:r.g<3) (h2:1<=r.i) (h3:r.i<=8):r ∈ uni24:=by
 refine List.mem_flatMap.2 ⟨r.g.toNat,List.mem_range.2 (by omega),List.mem_map.2 ⟨(r.i - 1).toNat,List.mem_range.2 (by omega),?_⟩⟩
 cases r with
 | mk g i=>simp only [Rf.mk.injEq] at *;omega
theorem BdV.refs {l:List Bd} (h:BdV l):∀ r ∈ refsL l,r ∈ uni24:=fun r hr=>by
 obtain ⟨b,hb,e⟩:=mem_refsL.1 hr;have h1:=h.q b hb;have h2:=h.u b hb;simp only [cplB,refB,bat,decide_eq_true_eq] at h1
 rcases e with rfl | rfl
 ·exact mem_uni (by omega) (by omega) (by omega) (by omega)
 ·exact mem_uni (by omega) (by omega) (by omega) (by omega)
theorem BdV.len {l:List Bd} (h:BdV l):(refsL l).length<=24:=nodup_len (refsL_asc l).nodup h.refs
theorem BdV.sub {l m:List Bd} (h:BdV l) (f:Bd->Bool) (e:m=l.filter f):BdV m:=by
 subst e;exact ⟨h.p.filter _,fun b hb=>h.q b (List.mem_filter.1 hb).1,fun b hb=>h.w b (List.mem_filter.1 hb).1,Nat.le_trans (List.length_filter_le _ _) h.n,fun b hb=>h.u b (List.mem_filter.1 hb).1⟩
end Kx
open Go Sx Go.Proofs
namespace Kx
def Rf.f (r:Rf):List D:=[i64 r.g,i64 r.i]
def rfs (l:List Rf):D:=.tab 2 l.length fun i=>Rf.f (l.getD i Rf.z)
def rfsO (l:List Rf):D:=.ftab 102 2 l.length fun i=>Rf.f (l.getD i Rf.z)
theorem ite_rf (c:Prop) [Decidable c] (x y:Rf):iteL c (Rf.f x) (Rf.f y)=Rf.f (if c then x else y):=by
 show [i64 (if c then _ else _),i64 (if c then _ else _)]=_
 split<;>rfl
theorem rf_ext {a b:Rf} (h1:a.g=b.g) (h2:a.i=b.i):a=b:=by cases a;cases b;simp_all
def idxR (c:Rf):List Rf->Int->Int
 | [],_=>-1
 | x :: l,i=>if x=c then i else idxR c l (i+1)
theorem rindex_ct (l:List Rf) (c:Rf) (hl:l.length<=1000000):Cr 85 [rfs l,c.d] (i64 (idxR c l 0)):=by
 refine .det (De Tryz.func85 ord85 [] ?_)
 repeat' first|refine S0 ?_;conv=>whnf
 refine Lw ord85 [] (α:=Nat) (fun i=>[(0,rfs l),(3,.loc 0 0),(7,i64 l.length),(8,i64 i)]) (fun i=>[(0,.var (Rf.f c))]) 1 (fun i=>i<=l.length/\idxR c l 0=idxR c (l.drop i) i) (fun i=>l.length - i) ?_ ?_
 ·refine Again.by 0 ⟨zle _,rfl⟩ ?_
  repeat' first|refine S0 ?_;conv=>whnf|refine Vo ?_|exact T0
 ·intro i ⟨hi,he⟩;dsimp only at hi he ⊢
  repeat' first|refine S0 ?_;conv=>whnf|refine Vo ?_|exact T0|refine W6 ?_|(refine Br.d (fun h=>?_) fun h=>?_)|refine T2 ?_ ?_
  all_goals try simp only [tnc] at *
  ·rw [he,drop_step l Rf.z i (by omega),idxR,if_pos (rf_ext h.1.symm h.2.symm)]
  ·refine Again.by (i+1) ⟨⟨by omega,?_⟩,by omega⟩ ?_
   ·rw [he,drop_step l Rf.z i (by omega),idxR,if_neg fun e=>h ⟨by rw [e],by rw [e]⟩]
    congr 1
   repeat' first|refine S0 ?_;conv=>whnf|refine Vo ?_|exact T0
  ·rw [he,ddl (show l.length<=i by omega)];rfl
theorem idxR_mem (c:Rf):∀ (l:List Rf) (i:Int),0<=i->(0<=idxR c l i ↔ c ∈ l)
 | [],_,_=>by simp [idxR]
 | x :: l,i,h=>by
   unfold idxR;split
   ·rename_i e;subst e;simp [h]
   ·rename_i e;rw [idxR_mem c l (i+1) (by omega),List.mem_cons];constructor
    ·exact .inr
    ·rintro (e' | h')
     ·exact absurd e'.symm e
     ·exact h'
theorem rcontains_ct (l:List Rf) (c:Rf) (hl:l.length<=1000000):Cr 41 [rfs l,c.d] (.bool (decide (c ∈ l))):=by
 have he:decide (0<=idxR c l 0)=decide (c ∈ l):=decide_eq_decide.2 (idxR_mem c l 0 (Int.le_refl _));rw [<-he];have hc:=rindex_ct l c hl;refine .det (De Tryz.func41 [] [] ?_)
 repeat' first|refine S0 ?_;conv=>whnf|exact T0|(refine M0 hc ?_)|refine T2 ?_ ?_|refine K0 ?_
theorem bclone_ct (l:List Bd) (h0:l.length<=1000000):Cr 39 [bds l] (bds l):=by
 refine .det (De Tryz.func39 [] [] ?_)
 repeat' first|refine S0 ?_;conv=>whnf|refine Vb ?_|(refine NilB.mk fun b hb=>Step.out ?_)|exact T0|(refine Bm (fun h=>?_) fun h=>?_)|refine T2 ?_ ?_
 all_goals first
  | trivial
  | exact hb h
  | with_reducible rfl
  | with_reducible exact same_rfl
  | omega
  | (exact ⟨by omega,fun i hi=>rfl⟩)
def bdsO (l:List Bd):D:=.ftab 119 5 l.length fun i=>Bd.f (l.getD i Bd.z)
theorem rclone_ct (l:List Rf) (h0:l.length<=1000000):Cr 139 [rfs l] (rfs l):=by
 refine .det (De Tryz.func139 [] [] ?_)
 repeat' first|refine S0 ?_;conv=>whnf|refine Vb ?_|(refine NilB.mk fun b hb=>Step.out ?_)|exact T0|(refine Bm (fun h=>?_) fun h=>?_)|refine T2 ?_ ?_
 all_goals first
  | trivial
  | exact hb h
  | with_reducible rfl
  | with_reducible exact same_rfl
  | omega
  | (exact ⟨by omega,fun i hi=>rfl⟩)
theorem bd_ext {a b:Bd} (h:(((a.a.g=b.a.g/\a.a.i=b.a.i)/\a.b.g=b.b.g)/\a.b.i=b.b.i)/\a.w=b.w):a=b:=by
 obtain ⟨⟨_,_⟩,⟨_,_⟩,_⟩:=a;obtain ⟨⟨_,_⟩,⟨_,_⟩,_⟩:=b;simp_all
theorem list_ext_getD {α:Type} {z:α} {l m:List α} (h:l.length=m.length) (he:∀ i,i<l.length->l.getD i z=m.getD i z):l=m:=by
 apply List.ext_getElem h;intro i h1 h2;have:=he i h1
 rwa [gDe,gDe,List.getElem?_eq_getElem h1,List.getElem?_eq_getElem h2] at this
theorem bequal_ct (l m:List Bd) (h0:l.length<=1000000) (h1:m.length<=1000000):Cr 81 [bds l,bds m] (.bool (decide (l=m))):=by
 refine .det (De Tryz.func81 ord81 [] ?_)
 repeat' first|refine S0 ?_;conv=>whnf|exact T0|(refine Br.d (fun h=>?_) fun h=>?_)|refine Br.bnot ?_|refine T2 ?_ ?_
 ·have hlm:l.length=m.length:=by omega
  refine Lw ord81 [] (α:=Nat) (fun i=>[(0,bds l),(1,bds m),(12,i64 l.length),(13,i64 i)]) (fun i=>[]) 0 (fun i=>i<=l.length/\∀ j,j<i->l.getD j Bd.z=m.getD j Bd.z) (fun i=>l.length - i) ?_ ?_
  ·refine Again.by 0 ⟨zle _,fun j hj=>absurd hj (Nat.not_lt_zero j)⟩ ?_
   repeat' first|refine S0 ?_;conv=>whnf|refine Vo ?_|exact T0
  ·intro i ⟨hi,he⟩
   repeat' first|refine S0 ?_;conv=>whnf|refine Vo ?_|exact T0|refine W6 ?_|(refine Br.d (fun h=>?_) fun h=>?_)|refine Br.bnot ?_|refine T2 ?_ ?_
   all_goals try simp only [tnc] at *
   ·refine Again.by (i+1) ⟨⟨by omega,fun j hj=>?_⟩,by omega⟩ ?_
    ·by_cases e:j=i
     ·subst e;exact bd_ext h
     ·exact he j (by omega)
    ·repeat' first|refine S0 ?_;conv=>whnf|refine Vo ?_|exact T0
   ·exact (decide_eq_false fun e=>h (by rw [e];exact ⟨⟨⟨⟨rfl,rfl⟩,rfl⟩,rfl⟩,rfl⟩)).symm
   ·exact (decide_eq_true (list_ext_getD (z:=Bd.z) hlm fun j hj=>he j (by omega))).symm
 ·exact (decide_eq_false fun e=>h (by rw [e])).symm
end Kx
open Go Sx Go.Proofs
namespace Kx
open Go.Shelf Go.RowKit Go.Lib Go.Sort
instance:Inhabited Rf:=⟨Rf.z⟩
def encR (r:Rf):List Int:=[r.g,r.i]
def cfR (x y:Rf):Int:=if Lib.compareInt x.g y.g≠0 then Lib.compareInt x.g y.g else Lib.compareInt x.i y.i
theorem ltRf (x y:Rf):ltOf cfR x y=decide (ltR x y):=by
 unfold ltOf cfR Lib.compareInt;apply decide_eq_decide.2;rw [ltR,cmpR_lt];by_cases h1:x.g<y.g
 ·simp [h1]
 ·by_cases h2:y.g<x.g
  ·have h3:¬x.g=y.g:=by omega
   simp [h1,h2,h3]
  ·have h3:x.g=y.g:=by omega
   by_cases h4:x.i<y.i
   ·simp [h3,h4]
   ·by_cases h5:y.i<x.i<;>simp [h3,h4,h5]
theorem totR (x y:Rf) (h1:ltOf cfR x y=false) (h2:ltOf cfR y x=false):x=y:=by
 rw [ltRf,decide_eq_false_iff_not] at h1 h2;simp only [ltR,cmpR_lt] at h1 h2;exact rf_ext (by omega) (by omega)
theorem swoR:SWO (ltOf cfR) where
 irrefl x:=by rw [ltRf];exact decide_eq_false (ltR_irrefl x)
 trans x y z h1 h2:=by
  rw [ltRf,decide_eq_true_eq] at *;exact h1.trans h2
 ntrans x y z h1 h2:=by
  rw [ltRf,decide_eq_false_iff_not] at *;simp only [ltR,cmpR_lt] at *;omega
set_option maxHeartbeats 4000000 in
set_option maxRecDepth 1000000 in
theorem orW (a b:Int) (bk:Nat) (W:World) (h0:W.cell? ⟨bk,0,none⟩=some (.int .i64 a)) (h1:W.cell? ⟨bk,1,none⟩=some (.int .i64 b)) :
 Calls Tryz.prog 90 #[.slice (some ⟨bk,0,none⟩) 2 2] W fun e w'=>e = .returned (.int .i64 (if a≠0 then a else b))/\w' = W:=by
 go_enter Tryz.func90,Tryz.ntmps90
 by_cases ha:a=0
 ·subst ha;by_cases hb:b=0
  ·subst hb
   go_wp2
   refine wp_loop_rounds 3 ?_;rw [rounds_succ]
   go_wp2
   rw [rounds_succ]
   go_wp2
   rw [rounds_succ]
   go_wp2
   go_ret
   exact ⟨rfl,rfl⟩
  ·have hb2:(b == 0)=false:=by simpa using hb
   go_wp2
   refine wp_loop_rounds 3 ?_;rw [rounds_succ]
   go_wp2
   rw [rounds_succ]
   go_wp2
   go_ret
   exact ⟨by simp,rfl⟩
 ·have ha2:(a == 0)=false:=by simpa using ha
  go_wp2
  refine wp_loop_rounds 3 ?_;rw [rounds_succ]
  go_wp2
  go_ret
  exact ⟨by simp [ha],rfl⟩
set_option maxHeartbeats 4000000 in
set_option maxRecDepth 1000000 in
theorem closeT (W:World) (o1 o2:Obj) (r s:Value) (t:Nat):((((W.alloc o1).alloc o2).alloc (.cells #[r,s] t)).drew).cell? ⟨W.heap.size+1+1,0,none⟩=some r/\((((W.alloc o1).alloc o2).alloc (.cells #[r,s] t)).drew).cell? ⟨W.heap.size+1+1,1,none⟩=some s:=by
 have h:((((W.alloc o1).alloc o2).alloc (.cells #[r,s] t)).drew).heap[W.heap.size+1+1]? = some (.cells #[r,s] t):=by
  show (((W.heap.push o1).push o2).push (.cells #[r,s] t))[W.heap.size+1+1]? = _
  rw [Array.getElem?_push,if_pos (by simp)]
 constructor
 ·simp only [World.cell?,h];rfl
 ·simp only [World.cell?,h];rfl
def S4y (N:Nat) (a b c d:Value) (w:World):Prop:=w.cell? ⟨N,0,none⟩=some a/\w.cell? ⟨N,1,none⟩=some b/\w.cell? ⟨N+1,0,none⟩=some c/\w.cell? ⟨N+1,1,none⟩=some d
theorem s4_of {w:World} {N:Nat} {a b c d:Value} {t:Nat} (h1:w.heap[N]? = some (.cells #[a,b] t)) (h2:w.heap[N+1]? = some (.cells #[c,d] t)):S4y N a b c d w:=by
 refine ⟨?_,?_,?_,?_⟩
 ·simp only [World.cell?,h1];rfl
 ·simp only [World.cell?,h1];rfl
 ·simp only [World.cell?,h2];rfl
 ·simp only [World.cell?,h2];rfl
theorem s4_a (W:World) (a b c d:Value) (t:Nat):S4y W.heap.size a b c d (((W.alloc (.cells #[a,b] t)).alloc (.cells #[c,d] t)).drew):=by
 refine s4_of (t:=t) ?_ ?_
 ·show ((W.heap.push (.cells #[a,b] t)).push (.cells #[c,d] t))[W.heap.size]? = _
  rw [Array.getElem?_push,if_neg (by simp),Array.getElem?_push,if_pos rfl]
 ·show ((W.heap.push (.cells #[a,b] t)).push (.cells #[c,d] t))[W.heap.size+1]? = _
  rw [Array.getElem?_push,if_pos (by simp)]
theorem s4_b (W:World) (a b c d:Value) (t:Nat) (o:Obj):S4y W.heap.size a b c d ((((W.alloc (.cells #[a,b] t)).alloc (.cells #[c,d] t)).alloc o).drew):=by
 refine s4_of (t:=t) ?_ ?_
 ·show (((W.heap.push (.cells #[a,b] t)).push (.cells #[c,d] t)).push o)[W.heap.size]? = _
  rw [Array.getElem?_push,if_neg (by simp;omega),Array.getElem?_push,if_neg (by simp),Array.getElem?_push,if_pos rfl]
 ·show (((W.heap.push (.cells #[a,b] t)).push (.cells #[c,d] t)).push o)[W.heap.size+1]? = _
  rw [Array.getElem?_push,if_neg (by simp),Array.getElem?_push,if_pos (by simp)]
theorem growT (W:World) (o1 o2 o3:Obj):(((W.alloc o1).alloc o2).alloc o3).drew=grow (W.drewN 1) #[o1,o2,o3]:=by
 rw [alloc_eq_grow,alloc_eq_grow,alloc_eq_grow,grow_grow,grow_grow];rfl
set_option maxHeartbeats 4000000 in
set_option maxRecDepth 1000000 in
theorem closeR0 (a b c d r s:Int) (W:World) (c1:∀ W,Calls Tryz.prog 91 #[.int .i64 a,.int .i64 c] W fun e w'=>e = .returned (.int .i64 r)/\w' = W) (c2:∀ W,Calls Tryz.prog 91 #[.int .i64 b,.int .i64 d] W fun e w'=>e = .returned (.int .i64 s)/\w' = W) :
 Calls Tryz.prog 45 #[.agg #[.int .i64 a,.int .i64 b],.agg #[.int .i64 c,.int .i64 d]] W fun e w'=>e = .returned (.int .i64 (if r≠0 then r else s))/\∃ q os',w' = grow (W.drewN q) os':=by
 have mixed:=hm;have hO:=orW r s _ _ (closeT W (.cells #[.int .i64 a,.int .i64 b] 102) (.cells #[.int .i64 c,.int .i64 d] 102) (.int .i64 r) (.int .i64 s) 3).1 (closeT W (.cells #[.int .i64 a,.int .i64 b] 102) (.cells #[.int .i64 c,.int .i64 d] 102) (.int .i64 r) (.int .i64 s) 3).2;generalize (if r≠0 then r else s)=u at hO ⊢
 go_enter Tryz.func45,Tryz.ntmps45
 go_wp2
 go_region_held2 (fun w'=>w'.cell? ⟨W.heap.size,0,none⟩=some (.int .i64 a)/\w'.cell? ⟨W.heap.size,1,none⟩=some (.int .i64 b)/\w'.cell? ⟨W.heap.size+1,0,none⟩=some (.int .i64 c)/\w'.cell? ⟨W.heap.size+1,1,none⟩=some (.int .i64 d))
  (first | exact s4_a _ _ _ _ _ _ | exact s4_b _ _ _ _ _ _ _ | exact (s4_a _ _ _ _ _ _ :) | exact (s4_b _ _ _ _ _ _ _ :))
  (first
  | (go_at_call_of 91 (Value.int .i64 a);refine (c1 _).mono ?_;rintro e w' ⟨rfl,rfl⟩)
  | (go_at_call_of 91 (Value.int .i64 b);refine (c2 _).mono ?_;rintro e w' ⟨rfl,rfl⟩)
  | (go_at_call 90;refine hO.mono ?_;rintro e w' ⟨rfl,rfl⟩))
 go_wp2
 go_ret
 exact ⟨rfl,1,_,growT W _ _ _⟩
theorem closeR (x y:Rf) (W:World):Calls Tryz.prog 45 #[.agg (encV encR x).toArray,.agg (encV encR y).toArray] W fun e w'=>e = .returned (.int .i64 (cfR x y))/\∃ q os',w' = grow (W.drewN q) os' :=
 closeR0 x.g x.i y.g y.i _ _ W (AnyG.cmp_Compare_int Go.Proofs.Kx.cmpI x.g y.g) (AnyG.cmp_Compare_int Go.Proofs.Kx.cmpI x.i y.i)
def srtR (l:List Rf):List Rf:=l.mergeSort fun x y=>!(ltOf cfR) y x
theorem srtR_len (l:List Rf):(srtR l).length=l.length:=List.length_mergeSort l
theorem srtR_perm (l:List Rf):(srtR l).Perm l:=List.mergeSort_perm l _
theorem srtR_ord (l:List Rf):(srtR l).Pairwise fun x y=>¬ ltR y x:=by
 have:=List.pairwise_mergeSort (le:=fun x y=>!(ltOf cfR) y x) (fun a b c h1 h2=>by
  rw [ltRf,Bool.not_eq_true',decide_eq_false_iff_not] at *
  simp only [ltR,cmpR_lt] at *;omega) (fun a b=>by
  rw [ltRf,ltRf,Bool.or_eq_true,Bool.not_eq_true',Bool.not_eq_true',decide_eq_false_iff_not,decide_eq_false_iff_not]
  simp only [ltR,cmpR_lt];omega) l
 refine List.Pairwise.imp (fun {a b} h=>?_) this;rw [ltRf,Bool.not_eq_true',decide_eq_false_iff_not] at h;exact h
theorem sortR_law (l:List Rf) (hl:l.length<=1000000) (blk cap:Nat) (w:World) (hH:HoldsK (encV encR) 2 w blk 0 l.toArray) (hb:blk<w.heap.size) :
 Calls Tryz.prog 174 #[.slice (some ⟨blk,0,none⟩) l.length cap,.func (.func 45) #[] #[]] w fun e w'=>e = .returned (.tuple #[])/\∃ n os,w' = sortWorldK (encV encR) 2 w blk 0 n (srtR l).toArray os:=by
 have eg:∀ args w,(callFunc 45 args).run Tryz.prog w = .ok (.enter 45 args) w:=enters_of Tryz.func45 (by kernel_rfl) rfl;exact AnyQ.slices_SortFunc_total Go.Proofs.Kx.sortR 2 (fun w=>Tryz.isAgg102 w) (fun w=>Tryz.sizeOf102 w) (encV encR) (fun _=>rfl) (fun x v hv=>by simp [encV,encR] at hv;rcases hv with rfl | rfl<;>rfl) cfR swoR 45 #[] blk 0 cap l.toArray w eg (fun _ _ _ _ x y=>closeR x y _) hH hb (by simp;omega) totR
theorem sortR_none (p:Option Addr) (cap:Nat) (w:World):Calls Tryz.prog 174 #[.slice p 0 cap,.func (.func 45) #[] #[]] w fun e w'=>e = .returned (.tuple #[])/\w' = w :=
 AnyF.slices_SortFunc_none (P:=Tryz.prog) (ρ:=Go.Proofs.Kx.sortR_ren) { Go.Proofs.Kx.sortR with } p cap (.func (.func 45) #[] #[]) w
end Kx
open Go Sx Go.Proofs
namespace Kx
def cptN (l:List Rf):Nat->List Rf
 | 0=>[]
 | n+1=>if 1<=n/\l.getD n Rf.z=l.getD (n - 1) Rf.z then cptN l n else cptN l n ++ [l.getD n Rf.z]
theorem cptN_len (l:List Rf):∀ n,(cptN l n).length<=n
 | 0=>Nat.le_refl _
 | n+1=>by
   have:=cptN_len l n;unfold cptN;split
   ·omega
   ·simp;omega
theorem cptN_dup {l:List Rf} {n:Nat} (h1:1<=n) (h:l.getD n Rf.z=l.getD (n - 1) Rf.z):cptN l (n+1)=cptN l n:=by rw [cptN,if_pos ⟨h1,h⟩]
theorem cptN_new {l:List Rf} {n:Nat} (h:¬(1<=n/\l.getD n Rf.z=l.getD (n - 1) Rf.z)):cptN l (n+1)=cptN l n ++ [l.getD n Rf.z]:=by rw [cptN,if_neg h]
theorem cptN_pos (l:List Rf):∀ n,1<=n->1<=(cptN l n).length
 | 1,_=>by simp [cptN]
 | n+2,_=>by
   have:=cptN_pos l (n+1) (by omega);rw [cptN];split
   ·exact this
   ·simp
theorem take_snoc (l:List Rf) (n:Nat) (h:n<l.length):l.take (n+1)=l.take n ++ [l.getD n Rf.z]:=by
 rw [gDe,List.getElem?_eq_getElem h,List.take_add_one,List.getElem?_eq_getElem h];rfl
def midL (l:List Rf) (i:Nat):List Rf:=cptN l i ++ l.drop (cptN l i).length
theorem midL_hi (l:List Rf) (i j:Nat) (h:(cptN l i).length<=j):(midL l i).getD j Rf.z=l.getD j Rf.z:=by
 unfold midL;rw [gDe,List.getElem?_append_right h,List.getElem?_drop,gDe]
 congr 2;omega
theorem midL_lo (l:List Rf) (i j:Nat) (h:j<(cptN l i).length):(midL l i).getD j Rf.z=(cptN l i).getD j Rf.z:=by
 unfold midL;rw [gDe,List.getElem?_append_left h,gDe]
theorem compact_ct (l:List Rf) (hl:l.length<=1000000):Cr 175 [rfsO l] (rfsO (cptN l l.length)):=by
 refine .det (.of_Wo (fn:=Tryz.f175) hΓ hm Tryz.func175 ord175 [8] (by kernel_rfl) (Step.out ?_))
 repeat' first|refine S0 ?_;conv=>whnf|refine Vo ?_|exact T0|refine B1 ?_|(refine Br.d (fun h=>?_) fun h=>?_)|refine T2 ?_ ?_|(refine Cp.mk fun q hq=>Step.out ?_)
 ·rw [List.eq_nil_of_length_eq_zero h];rfl
 ·have e:cptN l l.length=l:=by
   match l,h with
   | [],_=>rfl| [a],_=>rfl
   | _ :: _ :: _,h=>simp only [List.length_cons] at h;omega
  rw [e];exact ⟨rfl,fun _ _=>rfl⟩
 ·refine Lw ord175 [8] (α:=Nat) (fun k=>[(0,.rsl 0 2 0 l.length q),(3,i64 k)]) (fun k=>[(0,.blk 102 2 q l.length fun i=>Rf.f (l.getD i Rf.z))]) 1 (fun k=>(1<=k/\k<=l.length)/\cptN l k=l.take k) (fun k=>l.length - k) ?_ ?_
  ·refine Again.by 1 ⟨⟨Nat.le_refl _,by omega⟩,?_⟩ ?_
   ·rw [take_snoc l 0 (by omega)];rfl
   repeat' first|refine S0 ?_;conv=>whnf|refine Vo ?_|exact T0|(exact ⟨rfl,Nat.le_refl _,fun _ _=>rfl⟩)|refine Vm ?_ ?_
  ·intro k ⟨hk,he⟩;dsimp only at hk he ⊢
   repeat' first|refine S0 ?_;conv=>whnf|refine Vo ?_|exact T0|refine W6 ?_|refine B1 ?_|(refine Br.d (fun h=>?_) fun h=>?_)|refine T2 ?_ ?_
   ·have hd:l.getD k Rf.z=l.getD (k - 1) Rf.z:=by
     have e1:0+(k:Int).toNat=k:=by omega
     have e2:0+((k:Int) - 1).toNat=k - 1:=by omega
     rw [e1,e2] at h;exact rf_ext h.1 h.2
    have he1:cptN l (k+1)=l.take k:=by rw [cptN_dup hk.1 hd,he]
    refine Cw ord175 [] (α:=Unit) (fun z=>[(0,.rsl 0 2 0 l.length q),(3,i64 (cptN l l.length).length)]) (fun z=>[(0,.blk 102 2 q (cptN l l.length).length fun i=>Rf.f ((cptN l l.length).getD i Rf.z))]) 1 (fun z=>True) ?_ ?_
    ·repeat' first|refine S0 ?_;conv=>whnf
     refine Lw ord175 [] (α:=Nat) (fun j=>[(0,.rsl 0 2 0 l.length q),(3,i64 (cptN l (k+j)).length),(4,.rsl 0 2 k (l.length - k) (q - k)),(5,i64 j)]) (fun j=>[(0,.blk 102 2 q l.length fun i=>Rf.f ((midL l (k+j)).getD i Rf.z))]) 1 (fun j=>(1<=j/\k+j<=l.length)/\(cptN l (k+j)).length<k+j) (fun j=>l.length - k - j) ?_ ?_
     ·refine Again.by 1 ⟨⟨Nat.le_refl _,by omega⟩,?_⟩ ?_
      ·rw [he1,List.length_take];omega
      repeat' first|refine S0 ?_;conv=>whnf|refine Vo ?_|exact T0|(rw [he1,List.length_take];omega)|(exact ⟨rfl,Nat.le_refl _,fun i _=>by dsimp only;congr 1;unfold midL;rw [he1,List.length_take,Nat.min_eq_left (by omega),List.take_append_drop]⟩)|refine Vm ?_ ?_
     ·intro j ⟨hj,hlt⟩;dsimp only at hj hlt ⊢;have hp:=cptN_pos l (k+j) (by omega);have e0:k+(j+1)=k+j+1:=rfl
      have e1:k+(j:Int).toNat=k+j:=by omega
      have m1:=midL_hi l (k+j) (k+j) (by omega);have m2:=midL_hi l (k+j) (k+j - 1) (by omega)
      repeat' first|refine S0 ?_;conv=>whnf|refine Vo ?_|refine W6 ?_|(refine Br.d (fun h=>?_) fun h=>?_)|refine Br.bnot ?_
      ·have e2:k+((j:Int) - 1).toNat=k+j - 1:=by omega
       rw [e1,e2,m1,m2] at h;have hd2:cptN l (k+j+1)=cptN l (k+j):=cptN_dup (by omega) (rf_ext h.1 h.2)
       have hm2:midL l (k+j+1)=midL l (k+j):=by unfold midL;rw [hd2]
       refine Again.by (j+1) ⟨⟨⟨by omega,by omega⟩,by rw [e0,hd2];omega⟩,by omega⟩ ?_
       repeat' first|refine S0 ?_;conv=>whnf|refine Vo ?_|exact T0|(rw [e0,hd2];done)|(exact ⟨rfl,Nat.le_refl _,fun i _=>by dsimp only;rw [e0,hm2]⟩)|refine Vm ?_ ?_
      ·have e2:k+((j:Int) - 1).toNat=k+j - 1:=by omega
       rw [e1,e2,m1,m2] at h
       have hd2:cptN l (k+j+1)=cptN l (k+j) ++ [l.getD (k+j) Rf.z]:=cptN_new fun e=>h ⟨by rw [e.2],by rw [e.2]⟩
       have hl2:(cptN l (k+j+1)).length=(cptN l (k+j)).length+1:=by rw [hd2];simp
       refine Again.by (j+1) ⟨⟨⟨by omega,by omega⟩,by rw [e0,hl2];omega⟩,by omega⟩ ?_
       repeat' first|refine S0 ?_;conv=>whnf|refine Vo ?_|exact T0|(rw [e0,hl2];omega)|refine Vm ?_ ?_
       refine ⟨rfl,Nat.le_refl _,fun i hi=>?_⟩;dsimp only;refine (ite_rf _ ((midL l (k+j)).getD (k+(j:Int).toNat) Rf.z) _).trans ?_
       congr 1
       rw [e0,e1,m1];split
       ·rename_i hi2
        have hi3:i=(cptN l (k+j)).length:=by omega
        rw [midL_lo _ _ _ (by rw [hl2];omega),hd2,hi3,gDe (l:=_ ++ _),List.getElem?_append_right (Nat.le_refl _),Nat.sub_self];rfl
       ·rename_i hi2;by_cases hi3:i<(cptN l (k+j)).length
        ·rw [midL_lo _ _ _ hi3,midL_lo _ _ _ (by rw [hl2];omega),hd2,gDe (l:=_ ++ _),List.getElem?_append_left hi3,gDe]
        ·rw [midL_hi _ _ _ (by omega),midL_hi _ _ _ (by rw [hl2];omega)]
      ·have hkj:k+j=l.length:=by omega
       rw [hkj] at hlt hp
       refine Again.by () trivial ?_
       repeat' first|refine S0 ?_;conv=>whnf|refine Vo ?_|exact T0|(rw [hkj];done)|(exact ⟨rfl,cptN_len l _,fun i hi=>by dsimp only;rw [hkj,midL_lo _ _ _ hi]⟩)|refine Vm ?_ ?_
    ·intro _ _;have hp2:=cptN_len l l.length
     repeat' first|refine S0 ?_;conv=>whnf|refine Vo ?_|exact T0|refine B1 ?_|(refine Br.d (fun h=>?_) fun h=>?_)|refine T2 ?_ ?_
     all_goals exact ⟨by simp,fun _ _=>rfl⟩
   ·refine Again.by (k+1) ⟨⟨⟨by omega,by omega⟩,?_⟩,by omega⟩ ?_
    ·have e1:0+(k:Int).toNat=k:=by omega
     have e2:0+((k:Int) - 1).toNat=k - 1:=by omega
     rw [e1,e2] at h;rw [cptN_new fun e=>h ⟨by rw [e.2],by rw [e.2]⟩,he,take_snoc l k (by omega)]
    repeat' first|refine S0 ?_;conv=>whnf|refine Vo ?_|exact T0|(exact ⟨rfl,Nat.le_refl _,fun _ _=>rfl⟩)|refine Vm ?_ ?_
   ·have hk2:k=l.length:=by omega
    have e:cptN l l.length=l:=by rw [<-hk2,he,hk2,List.take_length]
    rw [e];exact ⟨by omega,fun _ _=>rfl⟩
end Kx
open Go Sx Go.Proofs
namespace Kx
theorem cptN_lt (l:List Rf) (hs:l.Pairwise fun x y=>¬ ltR y x):∀ n,n<=l.length->Asc (cptN l n)/\(∀ x,x ∈ cptN l n ↔ x ∈ l.take n)
 | 0,_=>⟨List.Pairwise.nil,fun x=>by simp [cptN]⟩
 | n+1,hn=>by
   obtain ⟨h1,h2⟩:=cptN_lt l hs n (by omega)
   have hg:∀ j,j<n->¬ ltR (l.getD n Rf.z) (l.getD j Rf.z):=fun j hj=>by
    rw [gDe,gDe,List.getElem?_eq_getElem (show n<l.length by omega),List.getElem?_eq_getElem (show j<l.length by omega)];exact List.pairwise_iff_getElem.1 hs j n (by omega) (by omega) hj
   rw [take_snoc l n (by omega)];by_cases hd:1<=n/\l.getD n Rf.z=l.getD (n - 1) Rf.z
   ·rw [cptN_dup hd.1 hd.2];refine ⟨h1,fun x=>?_⟩;rw [h2,List.mem_append,List.mem_singleton];refine ⟨.inl,fun h=>h.elim id fun e=>?_⟩;rw [e,hd.2];refine List.mem_iff_getElem?.2 ⟨n - 1,?_⟩;rw [List.getElem?_take,if_pos (by omega),gDe,List.getElem?_eq_getElem (show n - 1<l.length by omega)];rfl
   ·rw [cptN_new hd];refine ⟨List.pairwise_append.2 ⟨h1,List.pairwise_singleton _ _,fun x hx y hy=>?_⟩,fun x=>by rw [List.mem_append,List.mem_append,h2]⟩;rw [List.mem_singleton] at hy;subst hy;obtain ⟨j,hj⟩:=List.mem_iff_getElem?.1 ((h2 x).1 hx)
    have hjn:j<n:=by
     have:=(List.getElem?_eq_some_iff.1 hj).1;rw [List.length_take] at this;omega
    rw [List.getElem?_take,if_pos hjn] at hj
    have hx2:x=l.getD j Rf.z:=by rw [gDe,hj];rfl
    rcases ltR_tri x (l.getD n Rf.z) with h | h | h
    ·exact h
    ·exfalso;apply hd;refine ⟨by omega,?_⟩;by_cases e:j=n - 1
     ·rw [<-h,hx2,e]
     ·have a1:=hg (n - 1) (by omega)
      have a2:¬ ltR (l.getD (n - 1) Rf.z) (l.getD j Rf.z):=by
       rw [gDe,gDe,List.getElem?_eq_getElem (show n - 1<l.length by omega),List.getElem?_eq_getElem (show j<l.length by omega)];exact List.pairwise_iff_getElem.1 hs j (n - 1) (by omega) (by omega) (by omega)
      rw [<-hx2,h] at a2
      rcases ltR_tri (l.getD n Rf.z) (l.getD (n - 1) Rf.z) with k | k | k
      ·exact absurd k a1
      ·exact k
      ·exact absurd k a2
    ·rw [hx2] at h;exact absurd h (hg j hjn)
theorem cpt_srt (l:List Rf):cptN (srtR l) (srtR l).length=setR l:=by
 obtain ⟨h1,h2⟩:=cptN_lt (srtR l) (srtR_ord l) _ (Nat.le_refl _)
 refine setR_of h1 fun x=>?_
 rw [h2,List.take_length];exact (srtR_perm l).mem_iff
theorem endsL_step (l:List Bd) (i:Nat) (h:i<l.length):endsL (l.take (i+1))=endsL (l.take i) ++ [(l.getD i Bd.z).a,(l.getD i Bd.z).b]:=by
 have e:l.take (i+1)=l.take i ++ [l.getD i Bd.z]:=by
  rw [gDe,List.getElem?_eq_getElem h,List.take_add_one,List.getElem?_eq_getElem h];rfl
 rw [e,endsL,List.flatMap_append];rfl
theorem endsL_len:∀ l:List Bd,(endsL l).length=2*l.length
 | []=>rfl
 | b :: l=>by
   have:=endsL_len l;simp only [endsL,List.flatMap_cons,lap,List.length_cons,List.length_nil] at *;omega
theorem rf_app (a b:List Rf) (f:Nat->List D) (hb:0<b.length) (hf:∀ i,i<b.length->f i=Rf.f (b.getD i Rf.z)) (n m:Nat) (hn:n=a.length) (hm:m=a.length+b.length):m=(a ++ b).length/\∀ i,i<(a ++ b).length->iteL (i<n) (Rf.f (a.getD i Rf.z)) (f (i - n))=Rf.f ((a ++ b).getD i Rf.z):=by
 subst hn hm;refine ⟨by simp,fun i hi=>?_⟩;rw [hf _ (by rw [lap] at hi;omega),ite_rf]
 congr 1
 split
 ·rename_i h;rw [gDe,gDe,List.getElem?_append_left h]
 ·rename_i h;rw [gDe,gDe,List.getElem?_append_right (by omega)]
theorem refs_ct (l:List Bd) (hl:l.length<=648):Cr 125 [bds l] (rfsO (refsL l)):=by
 refine .det (De Tryz.func125 [] [] ?_)
 repeat' first|refine S0 ?_;conv=>whnf
 refine Lw [] [] (α:=Nat) (fun i=>[(3,.own 0),(6,bds l),(7,i64 l.length),(8,i64 i)]) (fun i=>[(0,.arr 102 2 (endsL (l.take i)).length fun j=>Rf.f ((endsL (l.take i)).getD j Rf.z))]) 1 (fun i=>i<=l.length) (fun i=>l.length - i) ?_ ?_
 ·refine Again.by 0 (zle _) ?_
  repeat' first|refine S0 ?_;conv=>whnf|refine Vo ?_|exact T0|(rfl)|refine Vm ?_ ?_
 ·intro i hi
  try dsimp only at hi ⊢
  have h1:(endsL (l.take i)).length<=1296:=by rw [endsL_len,List.length_take];omega
  have hs:(srtR (endsL (l.take i))).length<=1000000:=by rw [srtR_len];omega
  repeat' first|(refine CallOK.sortG encR 2 (by decide) (fun _=>rfl) Rf.z (endsL (l.take i)) (srtR (endsL (l.take i))) ⟨Tryz.f174,Tryz.func174,by decide,by decide⟩ rfl ⟨rfl,fun _ _=>rfl⟩ (srtR_len _) (fun _ p cap w=>sortR_none p cap w) (fun _ blk cap w hH hb=>sortR_law _ (by omega) blk cap w hH hb) ?_)|refine S0 ?_;conv=>whnf|refine Vo ?_|refine Vb ?_|exact T0|refine W6 ?_|(refine Br.d (fun h=>?_) fun h=>?_)|refine T2 ?_ ?_|(refine CallOK.gv (g:=175) (Step.out ?_))|(refine M0 (g:=175) (compact_ct _ (by assumption)) ?_)
  ·refine Again.by (i+1) ⟨by omega,by omega⟩ ?_
   rw [endsL_step l i (by omega)]
   repeat' first|refine S0 ?_;conv=>whnf|refine Vo ?_|exact T0|refine Vm ?_ ?_
   refine rf_app _ [(l.getD i Bd.z).a,(l.getD i Bd.z).b] _ (Nat.zero_lt_succ _) (fun j hj=>?_) _ _ rfl rfl
   match j,hj with
   | 0,_=>rfl| 1,_=>rfl
  ·obtain rfl:i=l.length:=by omega
   have e:cptN (srtR (endsL (l.take l.length))) (srtR (endsL (l.take l.length))).length=refsL l:=by rw [cpt_srt,List.take_length];rfl
   exact ⟨by rw [e],fun _ _=>by dsimp only;rw [e]⟩
end Kx
open Go Sx Go.Proofs
namespace Kx
theorem ccheck_ct (l:List Bd) (h:BdV l):Cr 78 [bds l] (i64 0):=by
 have hn:=h.n;refine .det (De Tryz.func78 ord78 [] ?_)
 repeat' first|refine S0 ?_;conv=>whnf|refine B0 ?_
 refine Lw ord78 [] (α:=Nat) (fun i=>[(0,bds l),(2,i64 0),(8,bds l),(9,i64 l.length),(10,i64 i)]) (fun i=>[]) 0 (fun i=>i<=l.length) (fun i=>l.length - i) ?_ ?_
 ·refine Again.by 0 (zle _) ?_
  repeat' first|refine S0 ?_;conv=>whnf|refine Vo ?_|exact T0
 ·intro i hi
  try dsimp only at hi ⊢
  have hb:i<l.length->cplB (l.getD i Bd.z).a (l.getD i Bd.z).b=true/\(1<=(l.getD i Bd.z).w/\(l.getD i Bd.z).w<=1048576):=fun hi=>by
   have hm:l.getD i Bd.z ∈ l:=by rw [gDe,List.getElem?_eq_getElem hi];exact List.getElem_mem hi
   exact ⟨h.q _ hm,h.w _ hm⟩
  have hp:0<i->i<l.length->cmpC (l.getD (i - 1) Bd.z).a (l.getD (i - 1) Bd.z).b (l.getD i Bd.z).a (l.getD i Bd.z).b<0:=fun h0 hi=>by
   rw [gDe,gDe,List.getElem?_eq_getElem hi,List.getElem?_eq_getElem (show i - 1<l.length by omega)];exact List.pairwise_iff_getElem.1 h.p (i - 1) i (by omega) hi (by omega)
  repeat' first|refine S0 ?_;conv=>whnf|refine Vo ?_|exact T0|refine W6 ?_|(refine Br.d (fun h=>?_) fun h=>?_)|refine Br.swap ?_|refine Br.bnot ?_|(refine Bm (fun h=>?_) fun h=>?_)|refine T2 ?_ ?_|refine K0 ?_|refine K1 ?_|(refine M0 (g:=92) (couple_ct _ _) ?_)|(refine M0 (g:=123) (couples_ct _ _ _ _) ?_)
  all_goals try simp only [tnc] at *
  ·have:=(hb (by omega)).2.1;exfalso;omega
  ·have:=(hb (by omega)).2.2;exfalso;omega
  ·have e:((i:Int) - 1).toNat=i - 1:=by omega
   rw [e] at h;have:=hp (by omega) (by omega);exfalso;omega
  ·refine Again.by (i+1) ⟨by omega,by omega⟩ ?_
   repeat' first|refine S0 ?_;conv=>whnf|refine Vo ?_|exact T0
  ·refine Again.by (i+1) ⟨by omega,by omega⟩ ?_
   repeat' first|refine S0 ?_;conv=>whnf|refine Vo ?_|exact T0
  ·have:=(hb (by omega)).1;rw [this] at h;cases h
def ordRoot:Ords:=[(1,.ph [0,1] (.alt 2 (.ph [3] (.ph [4] (.fin))) 3 (.st 2 (.ph [4] (.fin))))),(2,.ph [0,2,3,4] (.alt 1 (.st 5 (.st 6 (.st 7 (.fin)))) 5 (.alt 1 (.st 6 (.st 7 (.fin))) 6 (.ph [1] (.st 7 (.fin))))))]
def ordGrown:Ords:=[(10,.ph [0,1,2,5,6,3] (.alt 4 (.ph [7] (.st 8 (.st 9 (.fin)))) 7 (.st 4 (.st 8 (.st 9 (.fin))))))]
def frL (l:List (List Int × D)):D:=.fmapd true 2 l.length (fun i=>(l.getD i ([],.any)).1) fun i=>(l.getD i ([],.any)).2
def frM (R:List Rf) (f:Rf->Rf):List (List Int × D):=mapD R fun x=>(f x).d
theorem fget {R:List Rf} {f:Rf->Rf} {s:Rf} (h:s ∈ R):dget (frM R f) (rk s)=some (f s).d:=dget_in (F:=fun x=>(f x).d) h
theorem fput {R:List Rf} {f:Rf->Rf} {s t:Rf} (hn:R.Nodup) (h:s ∈ R):dput (frM R f) (rk s) t.d=frM R (updR f s t):=by
 rw [frM,dput_in hn h]
 congr 1
 funext x
 unfold updR
 split<;>rfl
theorem fget2 {R:List Rf} {f:Rf->Rf} {s t:Rf} (hn:R.Nodup) (h:s ∈ R):dget (dput (frM R f) (rk s) t.d) (rk s)=some t.d:=by
 rw [fput hn h,fget h];unfold updR;rw [if_pos rfl]
theorem root_ct {R:List Rf} {U f:Rf->Rf} {k:Rf->Nat} (l0:List (List Int × D)) (r:Rf) (e0:l0=frM R f) (hn:R.Nodup) (hl:R.length<=100) (h:Fst R U f k) (hr:r ∈ R):Ct Tryz.prog 135 [frL l0,r.d] fun q outs=>∃ f' : Rf->Rf,((∃ k',Fst R U f' k')/\(∀ x,f x=x->f' x=x)/\f' (U r)=U r/\U r ∈ R)/\q=(U r).d/\outs = [frL (frM R f')]:=by
 have hmk:=(mkM_self l0).trans e0;refine .some (De Tryz.func135 ordRoot [] ?_)
 repeat' first|refine S0 ?_;conv=>whnf
 refine Lw ordRoot [] (α:=Rf × (Rf->Rf)) (fun z=>[(0,.mref 0),(3,.loc 1 0),(4,.loc 2 0)]) (fun z=>[(0,.mpd true 2 (frM R z.2)),(1,.var (Rf.f z.1)),(2,.var [i64 0,i64 0])]) 3 (fun z=>Fst R U z.2 k/\z.1 ∈ R/\U z.1=U r/\∀ x,f x=x->z.2 x=x) (fun z=>k z.1) ?_ ?_
 ·refine Again.by (r,f) ⟨h,hr,rfl,fun _ h=>h⟩ ?_
  repeat' first|refine S0 ?_;conv=>whnf|refine Vo ?_|exact T0|(exact MpdLe.of_eq hmk)|refine Vm ?_ ?_
 ·intro ⟨s,f1⟩ ⟨h1,h2,h3,h4⟩;dsimp only at h1 h2 h3 h4 ⊢;have h5:=h1.mem s h2
  repeat' first|refine S0 ?_;conv=>whnf|(refine Lf.by (some (f1 s).d) (fget h2) ?_)|(refine Lf.by (some (f1 (f1 s)).d) (fget h5) ?_)|(refine Lf.by (some (f1 (f1 s)).d) (fget2 hn h2) ?_)|(refine Br.d (fun h=>?_) fun h=>?_)|refine Br.bnot ?_|refine T2 ?_ ?_
  all_goals first
   | (obtain ⟨a1,a2,a3,a4,a5⟩:=h1.half h2 fun e=>h ⟨by rw [e],by rw [e]⟩
      refine Again.by (f1 (f1 s),updR f1 s (f1 (f1 s))) ⟨⟨a1,a3,a4.trans h3,fun x hx=>a5 x (h4 x hx)⟩,a2⟩ ?_)
   | (have hs:f1 s=s:=rf_ext h.1 h.2
      have hu:U r=s:=h3.symm.trans (h1.root s h2 hs);rw [hu]
      refine Lf.by f1 ⟨⟨k,h1⟩,h4,hs,h2⟩ ?_)
  repeat' first|refine S0 ?_;conv=>whnf|refine Vo ?_|exact T0|(exact MpdLe.of_eq (fput hn h2))|(exact ⟨rfl,fun _ _=>⟨rfl,ImpD.refl _⟩⟩)|refine T2 ?_ ?_|refine Vm ?_ ?_
end Kx
