/-
  Candidates dealt; decisions dealt.
  No condition beyond those written in each theorem.
-/
import Derived.Test.YtjommlbfjnifmaaGreatDoorKA8
set_option linter.unusedSimpArgs false
set_option linter.unusedVariables false
set_option maxRecDepth 4000
open Go Sx Go.Proofs
namespace Kx
def cdLt (x y:Cd):Prop:=cmpC x.a x.b y.a y.b<0
structure CdV (l:List Cd):Prop where
 p:l.Pairwise cdLt
 q:∀ c ∈ l,cplB c.a c.b=true
 w:∀ c ∈ l,-100000<=c.w/\c.w<=100000
 n:l.length<=648
theorem cdGo_cons (o:Option Cd) (c:Cd) (l:List Cd):cdGo o (c :: l)=if cplB c.a c.b=false then 41 else if c.w < -1048576\/1048576<c.w then 40 else if (match o with | none=>false | some x=>decide (0<=cmpC x.a x.b c.a c.b))=true then 12 else cdGo (some c) l:=rfl
theorem cdGo_zero:∀ (l:List Cd) (o:Option Cd),l.Pairwise cdLt->(∀ c ∈ l,cplB c.a c.b=true)->(∀ c ∈ l,-100000<=c.w/\c.w<=100000)->(∀ x,o=some x->∀ c ∈ l,cdLt x c)->cdGo o l=0
 | [],_,_,_,_,_=>rfl
 | c :: l,o,hp,hq,hw,ho=>by
   obtain ⟨h1,h2⟩:=List.pairwise_cons.1 hp;rw [cdGo_cons,if_neg (by rw [hq c (by simp)];simp),if_neg (by have:=hw c (by simp);omega),if_neg]
   ·exact cdGo_zero l (some c) h2 (fun x hx=>hq x (by simp [hx])) (fun x hx=>hw x (by simp [hx])) fun x hx y hy=>by cases hx;exact h1 y hy
   ·cases o with
    | none=>simp
    | some x =>
      have:=ho x rfl c (by simp);simp only [cdLt] at this;simp;omega
theorem CdV.ok {l:List Cd} (h:CdV l):cands l=0:=by
 rw [cands,if_neg (by have:=h.n;omega)];exact cdGo_zero l none h.p h.q h.w (by simp)
def deLt (x y:Dz):Prop:=cmpD x y<0
def deQ (x:Dz):Prop:=cplB x.a x.b=true/\verB x.va=true/\verB x.vb=true/\x.b.g<3
structure DeV (l:List Dz):Prop where
 p:l.Pairwise deLt
 q:∀ c ∈ l,deQ c
 n:l.length<=4096
theorem deGo_cons (o:Option Dz) (c:Dz) (l:List Dz):deGo o (c :: l)=if cplB c.a c.b=false then 41 else if (verB c.va && verB c.vb)=false then 42 else if (match o with | none=>false | some x=>decide (0<=cmpD x c))=true then 12 else deGo (some c) l:=rfl
theorem deGo_zero:∀ (l:List Dz) (o:Option Dz),l.Pairwise deLt->(∀ c ∈ l,deQ c)->(∀ x,o=some x->∀ c ∈ l,deLt x c)->deGo o l=0
 | [],_,_,_,_=>rfl
 | c :: l,o,hp,hq,ho=>by
   obtain ⟨h1,h2⟩:=List.pairwise_cons.1 hp;obtain ⟨q1,q2,q3,_⟩:=hq c (by simp);rw [deGo_cons,if_neg (by rw [q1];simp),if_neg (by rw [q2,q3];simp),if_neg]
   ·exact deGo_zero l (some c) h2 (fun x hx=>hq x (by simp [hx])) fun x hx y hy=>by cases hx;exact h1 y hy
   ·cases o with
    | none=>simp
    | some x =>
      have:=ho x rfl c (by simp);simp only [deLt] at this;simp;omega
theorem DeV.ok {l:List Dz} (h:DeV l):decided l=0:=by
 rw [decided,if_neg (by have:=h.n;omega)];exact deGo_zero l none h.p h.q (by simp)
theorem ltP_cmpD {x y:Dz} {r i s k:Int} (h:ltP x.a x.b r i s k) (hA:y.a=⟨r,i⟩) (hB:y.b=⟨s,k⟩):cmpD x y<0:=by
 have:=ltP_cmp h;rw [cmpD,hA,hB,if_pos (by omega)];exact this
def UpD (r i s k:Int) (l:List Dz):Prop:=Up Dz.a Dz.b deLt deQ 2 r i s k l
theorem UpD.push {r i s k va vb:Int} {b:Bool} {l:List Dz} (h:UpD r i s k l) (h0:0<=r) (h1:1<=i/\i<=1000) (h2:r<s/\s<3) (h3:1<=k/\k<=1000) (h4:1<=va/\va<=1000) (h5:1<=vb/\vb<=1000):UpD r i s (k+1) (l ++ [⟨⟨r,i⟩,⟨s,k⟩,va,vb,b⟩]) :=
 Up.push h _ (by omega) rfl rfl (by simp [deQ,cplB,refB,verB];omega) fun x hx=>ltP_cmpD hx rfl rfl
theorem UpD.push2 {r i s k va vb vc:Int} {b b' : Bool} {l:List Dz} (h:UpD r i s k l) (h0:0<=r) (h1:1<=i/\i<=1000) (h2:r<s/\s<3) (h3:1<=k/\k<=1000) (h4:1<=va/\va<=1000) (h5:1<=vb/\vb<vc/\vc<=1000):UpD r i s (k+1) (l ++ [⟨⟨r,i⟩,⟨s,k⟩,va,vb,b⟩] ++ [⟨⟨r,i⟩,⟨s,k⟩,va,vc,b'⟩]):=by
 have h':=UpD.push (b:=b) (vb:=vb) h h0 h1 h2 h3 h4 (by omega);refine ⟨List.pairwise_append.2 ⟨h'.p,by simp,fun x hx z hz=>?_⟩,fun x hx=>?_,fun x hx=>?_,?_⟩
 ·rw [List.mem_singleton.1 hz]
  rcases List.mem_append.1 hx with hx | hx
  ·exact ltP_cmpD (h.b x hx) rfl rfl
  ·rw [List.mem_singleton.1 hx]
   have e1:cmpC ⟨r,i⟩ ⟨s,k⟩ ⟨r,i⟩ ⟨s,k⟩=0:=by rw [cmpC,cmpR_same ⟨rfl,rfl⟩,cmpR_same ⟨rfl,rfl⟩];rfl
   have e2:cmpI va va=0:=by rw [cmpI,if_neg (by omega),if_neg (by omega)]
   have e3:cmpI vb vc = -1:=by rw [cmpI,if_pos (by omega)]
   rw [deLt,cmpD,if_neg (not_not_intro e1),if_neg (not_not_intro e2)];dsimp only;rw [e3];decide
 ·rcases List.mem_append.1 hx with hx | hx
  ·exact h'.b x hx
  ·rw [List.mem_singleton.1 hx];exact .inr ⟨rfl,.inr ⟨rfl,.inr ⟨rfl,Int.lt_succ _⟩⟩⟩
 ·rcases List.mem_append.1 hx with hx | hx
  ·exact h'.q x hx
  ·rw [List.mem_singleton.1 hx];simp [deQ,cplB,refB,verB];omega
 ·have:=h.n;simp only [lap,List.length_singleton];omega
end Kx
open Go Sx Go.Proofs
namespace Kx
theorem app2 {α:Type} (F:α->List D) (z:α) (hF:∀ (c:Prop) [Decidable c] (x y:α),iteL c (F x) (F y)=F (if c then x else y)) (l:List α) (x y:α) :
 l.length+1+1=(l ++ [x] ++ [y]).length/\∀ i,i<(l ++ [x] ++ [y]).length->iteL (i<l.length+1) (iteL (i<l.length) (F (l.getD i z)) (selC [F x] (i - l.length))) (selC [F y] (i - (l.length+1)))=F ((l ++ [x] ++ [y]).getD i z):=by
 refine ⟨by simp,fun i hi=>?_⟩
 have hi:i<l.length+1+1:=by simpa using hi
 rw [show selC [F x] (i - l.length)=F x from rfl,show selC [F y] (i - (l.length+1))=F y from rfl,hF,hF,getD_app,getD_app,lap]
 congr 1
 by_cases h1:i<l.length
 ·rw [if_pos (by omega),if_pos h1,if_pos (by simp;omega),if_pos h1]
 ·by_cases h2:i<l.length+1
  ·rw [if_pos h2,if_neg h1,if_pos (by simpa using h2),if_neg h1,show i - l.length=0 by omega];rfl
  ·rw [if_neg h2,if_neg (by simpa using h2),show i - (l.length + [x].length)=0 by simp;omega];rfl
def desO (l:List Dz):D:=.ftab 104 7 l.length fun i=>Dz.f (l.getD i Dz.z)
theorem decs_ct (d:Dk) (n m o:Int) (hn:0<=n/\n<=3) (hmm:0<=m/\m<=4):Ct Tryz.prog 12 [d.b,i64 n,i64 m,i64 o] fun r outs=>∃ (l:List Dz) (d' : Dk),UpD 3 0 0 0 l/\r=desO l/\outs = [Dk.b d']:=by
 refine .some2 (De Tryz.func12 ord12 [] ?_)
 repeat' first|refine S0 ?_;conv=>whnf
 refine Lw ord12 [] (α:=Dk × List Dz × Int) (fun z=>[(0,.loc 0 0),(1,i64 n),(2,i64 m),(3,i64 o),(9,.own 1),(10,i64 z.2.2)]) (fun z=>[(0,.var z.1.ls),(1,.arr 104 7 z.2.1.length fun j=>Dz.f (z.2.1.getD j Dz.z))]) 2 (fun z=>0<=z.2.2/\z.2.2<=n/\UpD z.2.2 0 0 0 z.2.1) (fun z=>(n - z.2.2).toNat) ?_ ?_
 ·refine Again.by (d,[],0) ⟨by dsimp only;omega,by dsimp only;omega,⟨by simp,by simp,by simp,by simp⟩⟩ ?_
  repeat' first|refine S0 ?_;conv=>whnf|refine Vo ?_|exact T0|refine Vm ?_ ?_
  all_goals rfl
 ·intro ⟨d,l,r⟩ ⟨h1,h2,h3⟩;dsimp only at h1 h2 h3 ⊢
  repeat' first|refine S0 ?_;conv=>whnf|(refine Br.d (fun h=>?_) fun h=>?_)
  ·refine Lw ord12 [] (α:=Dk × List Dz × Int) (fun z=>[(0,.loc 0 0),(1,i64 n),(2,i64 m),(3,i64 o),(9,.own 1),(10,i64 r),(11,i64 z.2.2)]) (fun z=>[(0,.var z.1.ls),(1,.arr 104 7 z.2.1.length fun j=>Dz.f (z.2.1.getD j Dz.z))]) 2 (fun z=>1<=z.2.2/\z.2.2<=m+1/\UpD r z.2.2 0 0 z.2.1) (fun z=>(m+1 - z.2.2).toNat) ?_ ?_
   ·refine Again.by (d,l,1) ⟨by dsimp only;omega,by dsimp only;omega,h3.mono (by decide) (by dsimp only;omega) (by dsimp only;omega)⟩ ?_
    repeat' first|refine S0 ?_;conv=>whnf|refine Vo ?_|exact T0
    all_goals exact ⟨rfl,fun _ _=>rfl⟩
   ·intro ⟨d,l,i⟩ ⟨h4,h5,h6⟩;dsimp only at h4 h5 h6 ⊢
    repeat' first|refine S0 ?_;conv=>whnf|refine W6 ?_|(refine Br.d (fun h=>?_) fun h=>?_)
    ·refine Lw ord12 [] (α:=Dk × List Dz × Int) (fun z=>[(0,.loc 0 0),(1,i64 n),(2,i64 m),(3,i64 o),(9,.own 1),(10,i64 r),(11,i64 i),(12,i64 z.2.2)]) (fun z=>[(0,.var z.1.ls),(1,.arr 104 7 z.2.1.length fun j=>Dz.f (z.2.1.getD j Dz.z))]) 2 (fun z=>r<z.2.2/\z.2.2<=n/\UpD r i z.2.2 0 z.2.1) (fun z=>(n - z.2.2).toNat) ?_ ?_
     ·refine Again.by (d,l,r+1) ⟨by dsimp only;omega,by dsimp only;omega,h6.mono (by decide) (by dsimp only;omega) (by dsimp only;omega)⟩ ?_
      repeat' first|refine S0 ?_;conv=>whnf|refine Vo ?_|exact T0
      all_goals exact ⟨rfl,fun _ _=>rfl⟩
     ·intro ⟨d,l,s⟩ ⟨h7,h8,h9⟩;dsimp only at h7 h8 h9 ⊢
      repeat' first|refine S0 ?_;conv=>whnf|refine W6 ?_|(refine Br.d (fun h=>?_) fun h=>?_)
      ·refine Lw ord12 [] (α:=Dk × List Dz × Int) (fun z=>[(0,.loc 0 0),(1,i64 n),(2,i64 m),(3,i64 o),(9,.own 1),(10,i64 r),(11,i64 i),(12,i64 s),(13,i64 z.2.2)]) (fun z=>[(0,.var z.1.ls),(1,.arr 104 7 z.2.1.length fun j=>Dz.f (z.2.1.getD j Dz.z))]) 2 (fun z=>1<=z.2.2/\z.2.2<=m+1/\UpD r i s z.2.2 z.2.1) (fun z=>(m+1 - z.2.2).toNat) ?_ ?_
       ·refine Again.by (d,l,1) ⟨by dsimp only;omega,by dsimp only;omega,h9.mono (by decide) (by dsimp only;omega) (by dsimp only;omega)⟩ ?_
        repeat' first|refine S0 ?_;conv=>whnf|refine Vo ?_|exact T0
        all_goals exact ⟨rfl,fun _ _=>rfl⟩
       ·intro ⟨d,l,k⟩ ⟨ha,hb',hc⟩;dsimp only at ha hb' hc ⊢;have hlen:=hc.n
        repeat' first|refine S0 ?_;conv=>whnf|refine Vb ?_|refine W6 ?_|(refine Br.d (fun h=>?_) fun h=>?_)|refine Br.bnot ?_|(refine Bm (fun h=>?_) fun h=>?_)|refine T2 ?_ ?_|(refine CallOK.io1 (g:=7) (Step.out ?_))|(refine CallOK.io1 (g:=30) (Step.out ?_))|(refine Met.by (g:=7) (next_ct _ _) ?_;rintro q outs ⟨x,d,hx,rfl,rfl⟩)|(refine Met.by (g:=30) (one_ct _ _) ?_;rintro q outs ⟨x,d,hx,rfl,rfl⟩)
        ·rename_i a0 da ha0 b0 db hb0 c0 dc hc0 t0 dt ht0 e0 de he0
         refine Again.by (d,l ++ [⟨⟨r,i⟩,⟨s,k⟩,1+a0,1+b0,c0⟩] ++ [⟨⟨r,i⟩,⟨s,k⟩,1+a0,1+b0+(1+e0),x⟩],k+1) ⟨⟨by dsimp only;omega,by dsimp only;omega,hc.push2 (by omega) (by omega) (by omega) (by omega) (by omega) (by omega)⟩,by dsimp only;omega⟩ ?_
         repeat' first|refine S0 ?_;conv=>whnf|refine Vo ?_|exact T0|refine Vm ?_ ?_
         exact app2 Dz.f Dz.z ite_de l _ _
        ·rename_i a0 da ha0 b0 db hb0 c0 dc hc0 t0 dt ht0 e0 de he0
         refine Again.by (d,l ++ [⟨⟨r,i⟩,⟨s,k⟩,1+a0,1+b0,c0⟩] ++ [⟨⟨r,i⟩,⟨s,k⟩,1+a0,1+b0+(1+e0),x⟩],k+1) ⟨⟨by dsimp only;omega,by dsimp only;omega,hc.push2 (by omega) (by omega) (by omega) (by omega) (by omega) (by omega)⟩,by dsimp only;omega⟩ ?_
         repeat' first|refine S0 ?_;conv=>whnf|refine Vo ?_|exact T0|refine Vm ?_ ?_
         exact app2 Dz.f Dz.z ite_de l _ _
        ·rename_i a0 da ha0 b0 db hb0 c0 dc hc0
         refine Again.by (d,l ++ [⟨⟨r,i⟩,⟨s,k⟩,1+a0,1+b0,c0⟩],k+1) ⟨⟨by dsimp only;omega,by dsimp only;omega,hc.push (by omega) (by omega) (by omega) (by omega) (by omega) (by omega)⟩,by dsimp only;omega⟩ ?_
         repeat' first|refine S0 ?_;conv=>whnf|refine Vo ?_|exact T0|refine Vm ?_ ?_
         exact app1 Dz.f Dz.z ite_de l _
        ·refine Again.by (d,l,k+1) ⟨⟨by dsimp only;omega,by dsimp only;omega,hc.mono (by decide) (by dsimp only;omega) (by dsimp only;omega)⟩,by dsimp only;omega⟩ ?_
         repeat' first|refine S0 ?_;conv=>whnf|refine Vo ?_|exact T0
         all_goals exact ⟨rfl,fun _ _=>rfl⟩
        ·refine Again.by (d,l,s+1) ⟨⟨by dsimp only;omega,by dsimp only;omega,hc.mono (by decide) (by dsimp only;omega) (by dsimp only;omega)⟩,by dsimp only;omega⟩ ?_
         repeat' first|refine S0 ?_;conv=>whnf|refine Vo ?_|exact T0
         all_goals exact ⟨rfl,fun _ _=>rfl⟩
      ·refine Again.by (d,l,i+1) ⟨⟨by dsimp only;omega,by dsimp only;omega,h9.mono (by decide) (by dsimp only;omega) (by dsimp only;omega)⟩,by dsimp only;omega⟩ ?_
       repeat' first|refine S0 ?_;conv=>whnf|refine Vo ?_|exact T0
       all_goals exact ⟨rfl,fun _ _=>rfl⟩
    ·refine Again.by (d,l,r+1) ⟨⟨by dsimp only;omega,by dsimp only;omega,h6.mono (by decide) (by dsimp only;omega) (by dsimp only;omega)⟩,by dsimp only;omega⟩ ?_
     repeat' first|refine S0 ?_;conv=>whnf|refine Vo ?_|exact T0
     all_goals exact ⟨rfl,fun _ _=>rfl⟩
  ·refine Lf2.by l d (h3.mono (by decide) (by omega) (by omega)) ?_
   repeat' first|refine S0 ?_;conv=>whnf|exact T0|exact T1|refine T2 ?_ ?_
   all_goals exact ⟨rfl,fun _ _=>rfl⟩
end Kx
open Go Sx Go.Proofs
namespace Kx
theorem ite_u64s (c:Prop) [Decidable c] (a b:List Int):D.ite c (u64s a) (u64s b)=u64s (if c then a else b):=by
 show D.tab 1 (if c then _ else _) (fun q=>iteL1 c [u64 (a.getD q 0)] [u64 (b.getD q 0)])=_
 have:(fun q=>iteL1 c [u64 (a.getD q 0)] [u64 (b.getD q 0)])=fun q=>[u64 ((if c then a else b).getD q 0)]:=by
  funext q
  show [u64 (if c then _ else _)]=_
  split<;>rfl
 rw [this]
 split<;>rfl
theorem ite_bls (c:Prop) [Decidable c] (a b:List Bool):D.ite c (bls a) (bls b)=bls (if c then a else b):=by
 show D.tab 1 (if c then _ else _) (fun q=>iteL1 c [.bool (a.getD q false)] [.bool (b.getD q false)])=_
 have:(fun q=>iteL1 c [D.bool (a.getD q false)] [D.bool (b.getD q false)])=fun q=>[D.bool ((if c then a else b).getD q false)]:=by
  funext q
  show [D.bool (if c then _ else _)]=_
  split<;>rfl
 rw [this]
 split<;>rfl
theorem ite_bt (c:Prop) [Decidable c] (x y:Bs):iteL c (Bs.l x) (Bs.l y)=Bs.l (if c then x else y):=by
 show [i64 (if c then _ else _),D.ite c (u64s x.w) (u64s y.w)]=_
 rw [ite_u64s]
 split<;>rfl
theorem ite_bt1 (c:Prop) [Decidable c] (x y:Bs):iteL1 c (Bs.l x) (Bs.l y)=Bs.l (if c then x else y):=by
 show [i64 (if c then _ else _),if c then u64s x.w else u64s y.w]=_
 split<;>rfl
theorem ite_bss (c:Prop) [Decidable c] (a b:List Bs):D.ite c (bss a) (bss b)=bss (if c then a else b):=by
 show D.tab 2 (if c then _ else _) (fun q=>iteL1 c (Bs.l (a.getD q Bs.z)) (Bs.l (b.getD q Bs.z)))=_
 have:(fun q=>iteL1 c (Bs.l (a.getD q Bs.z)) (Bs.l (b.getD q Bs.z)))=fun q=>Bs.l ((if c then a else b).getD q Bs.z):=by
  funext q
  rw [ite_bt1]
  split<;>rfl
 rw [this]
 split<;>rfl
theorem ite_sn (c:Prop) [Decidable c] (x y:Sn):iteL c (Sn.f x) (Sn.f y)=Sn.f (if c then x else y):=by
 show [i64 (if c then _ else _),i64 (if c then _ else _),D.ite c (bss x.b) (bss y.b),D.ite c (u64s x.h) (u64s y.h),D.ite c (bls x.t) (bls y.t)]=_
 rw [ite_bss,ite_u64s,ite_bls]
 split<;>rfl
def arrV (x:Int):Int:=match selC [[u64 255],[u64 254],[u64 61680],[u64 1],[u64 4294901760],[u64 0]] x.toNat with
 | [.int _ v]=>v| _=>0
def Bs.few (b:Bs):Prop:=b=Bs.z\/∃ k:Int,(0<=k/\k<6)/\b=⟨64,[arrV k]⟩
theorem array_ct (d:Dk):Ct Tryz.prog 29 [d.b] fun r outs=>∃ (b:Bs) (d' : Dk),b.few/\r = .agg b.l/\outs = [Dk.b d']:=by
 refine .some2 (De Tryz.func29 [] [] ?_)
 repeat' first|refine S0 ?_;conv=>whnf|refine Vo ?_|(refine Bm (fun h=>?_) fun h=>?_)|(refine CallOK.io1 (g:=7) (Step.out ?_))|(refine CallOK.io1 (g:=30) (Step.out ?_))|(refine Met.by (g:=7) (next_ct _ _) ?_;rintro q outs ⟨x,d,hx,rfl,rfl⟩)|(refine Met.by (g:=30) (one_ct _ _) ?_;rintro q outs ⟨x,d,hx,rfl,rfl⟩)
 ·refine Lf2.by ⟨0,[]⟩ d (.inl rfl) ?_
  repeat' first|refine S0 ?_;conv=>whnf|exact T0|exact T1|refine T2 ?_ ?_
 ·refine Lf2.by ⟨64,[arrV x]⟩ d (.inr ⟨x,by omega,rfl⟩) ?_
  repeat' first|refine S0 ?_;conv=>whnf|exact T0|exact T1|refine T2 ?_ ?_
  all_goals
   refine ⟨rfl,fun i hi=>?_⟩;have hi:i<1:=hi
   obtain rfl:i=0:=by omega
   rfl
end Kx
open Go Sx Go.Proofs
namespace Kx
theorem ite_u (c:Prop) [Decidable c] (x y:Int):iteL c [u64 x] [u64 y] = [u64 (if c then x else y)]:=rfl
theorem ite_b (c:Prop) [Decidable c] (x y:Bool):iteL c [D.bool x] [D.bool y] = [D.bool (if c then x else y)]:=rfl
structure SnV (fl ky:Int) (s:Sn):Prop where
 i:1<=s.id/\s.id<=8
 v:1<=s.v/\s.v<=2
 b:(s.b.length:Int)=fl
 f:∀ b ∈ s.b,b.few
 h:(s.h.length:Int)=ky
 t:(s.t.length:Int)=ky
structure ShV (fl ky:Int) (l:List Sn):Prop where
 n:l.length<=4
 p:l.Pairwise fun a b=>a.id<b.id
 s:∀ s ∈ l,SnV fl ky s
theorem asc_push {l:List Sn} {m:Int} {y:Sn} (hp:l.Pairwise fun a b=>a.id<b.id) (hm:∀ x ∈ l,x.id<=m) (hy:m<y.id):(l ++ [y]).Pairwise (fun a b=>a.id<b.id)/\∀ x ∈ l ++ [y],x.id<=y.id:=by
 refine ⟨List.pairwise_append.2 ⟨hp,by simp,fun x hx z hz=>?_⟩,fun x hx=>?_⟩
 ·rw [List.mem_singleton.1 hz];have:=hm x hx;omega
 ·rcases List.mem_append.1 hx with hx | hx
  ·have:=hm x hx;omega
  ·rw [List.mem_singleton.1 hx];exact Int.le_refl _
set_option maxHeartbeats 4000000 in
theorem sheet_ct (d:Dk) (fl ky m:Int) (hfl:0<=fl/\fl<=10) (hky:0<=ky/\ky<=10) (hmo:m=4):Ct Tryz.prog 11 [d.b,i64 fl,i64 ky,i64 m] fun r outs=>∃ (l:List Sn) (d' : Dk),ShV fl ky l/\r=sns l/\outs = [Dk.b d']:=by
 refine .some2 (De Tryz.func11 ord11 [] ?_)
 repeat' first|refine S0 ?_;conv=>whnf|refine W6 ?_|(refine CallOK.io1 (g:=7) (Step.out ?_))|(refine Met.by (g:=7) (next_ct _ _) ?_;rintro q outs ⟨x,d,hx,rfl,rfl⟩)
 refine Lw ord11 [] (α:=Dk × List Sn × Int × Int) (fun z=>[(0,.loc 0 0),(1,i64 fl),(2,i64 ky),(9,.own 1),(10,i64 z.2.2.1),(11,i64 z.2.2.2)]) (fun z=>[(0,.var z.1.ls),(1,.arr 96 5 z.2.1.length fun j=>Sn.f (z.2.1.getD j Sn.z))]) 2 (fun z=>0<=z.2.2.2/\(z.2.1.length:Int)+z.2.2.2<=m/\0<=z.2.2.1/\z.2.2.1<=2*(z.2.1.length:Int)/\(z.2.1.Pairwise fun a b=>a.id<b.id)/\(∀ x ∈ z.2.1,x.id<=z.2.2.1)/\(∀ s ∈ z.2.1,SnV fl ky s)) (fun z=>z.2.2.2.toNat) ?_ ?_
 ·refine Again.by (d,[],0,x) ⟨by dsimp only;omega,by simp;omega,by dsimp only;omega,by simp,by simp,by simp,by simp⟩ ?_
  repeat' first|refine S0 ?_;conv=>whnf|refine Vo ?_|exact T0|refine Vm ?_ ?_
  all_goals rfl
 ·intro ⟨d,l,id,n⟩ ⟨h1,h2,h3,h4,hpp,hmm,hss⟩;dsimp only at h1 h2 h3 h4 hpp hmm hss ⊢
  repeat' first|refine S0 ?_;conv=>whnf|refine W6 ?_|(refine Br.d (fun h=>?_) fun h=>?_)|(refine CallOK.io1 (g:=7) (Step.out ?_))|(refine Met.by (g:=7) (next_ct _ _) ?_;rintro q outs ⟨x,d,hx,rfl,rfl⟩)
  ·rename_i a0 da ha0;generalize hid:id+(1+a0)=id' at *;generalize hv:1+x=v at *
   have hvb:1<=v/\v<=2:=by omega
   have hib:1<=id'/\id'<=8:=by omega
   refine Lw ord11 [] (α:=Dk × List Bs × Int) (fun z=>[(0,.loc 0 0),(1,i64 fl),(2,i64 ky),(9,.own 1),(10,i64 id'),(11,i64 n),(12,.loc 2 0),(13,i64 z.2.2)]) (fun z=>[(0,.var z.1.ls),(1,.arr 96 5 l.length fun j=>Sn.f (l.getD j Sn.z)),(2,.var [i64 id',i64 v,.own 3,.nil,.nil]),(3,.arr 98 2 z.2.1.length fun j=>Bs.l (z.2.1.getD j Bs.z))]) 4 (fun z=>0<=z.2.2/\z.2.2<=fl/\(z.2.1.length:Int)=z.2.2/\(∀ b ∈ z.2.1,b.few)) (fun z=>(fl - z.2.2).toNat) ?_ ?_
   ·refine Again.by (d,[],0) ⟨by dsimp only;omega,by dsimp only;omega,by simp,by simp⟩ ?_
    repeat' first|refine S0 ?_;conv=>whnf|refine Vo ?_|exact T0|refine Vm ?_ ?_
    all_goals first | rfl | exact ⟨rfl,fun _ _=>rfl⟩
   ·intro ⟨d,bs,i⟩ ⟨h5,h6,h7,hbf⟩;dsimp only at h5 h6 h7 hbf ⊢
    repeat' first|refine S0 ?_;conv=>whnf|refine Vb ?_|refine W6 ?_|(refine Br.d (fun h=>?_) fun h=>?_)|refine T2 ?_ ?_|(refine CallOK.io1 (g:=29) (Step.out ?_))|(refine Met.by (g:=29) (array_ct _) ?_;rintro q outs ⟨b,d,hb0,rfl,rfl⟩)
    all_goals try
     refine Again.by (d,bs ++ [b],i+1) ⟨⟨by dsimp only;omega,by dsimp only;omega,by simp;omega,fun x hx=>by
      rcases List.mem_append.1 hx with hx | hx
      ·exact hbf x hx
      ·rw [List.mem_singleton.1 hx];exact hb0⟩,by dsimp only;omega⟩ ?_
     repeat' first|refine S0 ?_;conv=>whnf|refine Vo ?_|exact T0|refine Vm ?_ ?_
     all_goals exact app1 Bs.l Bs.z ite_bt bs b
    ·refine Lw ord11 [] (α:=Dk × List Int × List Bool × Int) (fun z=>[(0,.loc 0 0),(1,i64 fl),(2,i64 ky),(9,.own 1),(10,i64 id'),(11,i64 n),(12,.loc 2 0),(14,i64 z.2.2.2)]) (fun z=>[(0,.var z.1.ls),(1,.arr 96 5 l.length fun j=>Sn.f (l.getD j Sn.z)),(2,.var [i64 id',i64 v,.own 3,.own 4,.own 5]),(3,.arr 98 2 bs.length fun j=>Bs.l (bs.getD j Bs.z)),(4,.arr 80 1 z.2.1.length fun j=>[u64 (z.2.1.getD j 0)]),(5,.arr 4 1 z.2.2.1.length fun j=>[.bool (z.2.2.1.getD j false)])]) 6 (fun z=>0<=z.2.2.2/\z.2.2.2<=ky/\(z.2.1.length:Int)=z.2.2.2/\(z.2.2.1.length:Int)=z.2.2.2) (fun z=>(ky - z.2.2.2).toNat) ?_ ?_
     ·refine Again.by (d,[],[],0) ⟨by dsimp only;omega,by dsimp only;omega,by simp,by simp⟩ ?_
      repeat' first|refine S0 ?_;conv=>whnf|refine Vo ?_|exact T0|refine Vm ?_ ?_
      all_goals first | rfl | exact ⟨rfl,fun _ _=>rfl⟩
     ·intro ⟨d,hs,ts,i⟩ ⟨h8,h9,ha,hb'⟩;dsimp only at h8 h9 ha hb' ⊢
      repeat' first|refine S0 ?_;conv=>whnf|refine Vb ?_|exact T0|refine W6 ?_|(refine Wr.u64 ?_ ?_;omega)|(refine Br.d (fun h=>?_) fun h=>?_)|refine Br.bnot ?_|(refine Bm (fun h=>?_) fun h=>?_)|refine T2 ?_ ?_|(refine CallOK.io1 (g:=7) (Step.out ?_))|(refine CallOK.io1 (g:=30) (Step.out ?_))|(refine Met.by (g:=7) (next_ct _ _) ?_;rintro q outs ⟨x,d,hx,rfl,rfl⟩)|(refine Met.by (g:=30) (one_ct _ _) ?_;rintro q outs ⟨x,d,hx,rfl,rfl⟩)
      all_goals try
       have hxt:x=true:=‹_›
       refine Again.by (d,hs ++ [0],ts ++ [!x],i+1) ⟨⟨by dsimp only;omega,by dsimp only;omega,by simp;omega,by simp;omega⟩,by dsimp only;omega⟩ ?_
       repeat' first|refine S0 ?_;conv=>whnf|refine Vo ?_|exact T0|refine Vm ?_ ?_
       all_goals first | exact app1 (fun x:Int=>[u64 x]) 0 ite_u hs _ | exact app1 (fun x:Bool=>[D.bool x]) false ite_b ts _
      all_goals try
       rename_i x0 dx hx0;have hxt:x0=false:=‹_›
       refine Again.by (d,hs ++ [x],ts ++ [!x0],i+1) ⟨⟨by dsimp only;omega,by dsimp only;omega,by simp;omega,by simp;omega⟩,by dsimp only;omega⟩ ?_
       repeat' first|refine S0 ?_;conv=>whnf|refine Vo ?_|exact T0|refine Vm ?_ ?_
       all_goals first | exact app1 (fun x:Int=>[u64 x]) 0 ite_u hs _ | exact app1 (fun x:Bool=>[D.bool x]) false ite_b ts _
      ·refine Again.by (d,l ++ [Sn.mk id' v bs hs ts],id',n - 1) ?_ ?_
       ·dsimp only;rw [lap,List.length_singleton];have hq:=asc_push (y:=Sn.mk id' v bs hs ts) hpp hmm (by dsimp only;omega);refine ⟨⟨by omega,by omega,by omega,by omega,hq.1,hq.2,fun s hs'=>?_⟩,by omega⟩
        rcases List.mem_append.1 hs' with hs' | hs'
        ·exact hss s hs'
        ·rw [List.mem_singleton.1 hs'];exact ⟨hib,hvb,by dsimp only;omega,hbf,by dsimp only;omega,by dsimp only;omega⟩
       ·repeat' first|refine S0 ?_;conv=>whnf|refine Vo ?_|exact T0|refine Vm ?_ ?_
        all_goals exact app1 Sn.f Sn.z ite_sn l _
  ·refine Lf2.by l d ⟨by omega,hpp,hss⟩ ?_
   repeat' first|refine S0 ?_;conv=>whnf|exact T0|exact T1|refine T2 ?_ ?_
   all_goals exact ⟨rfl,fun _ _=>rfl⟩
end Kx
open Go Sx Go.Proofs
namespace Kx
theorem ite_sns1 (c:Prop) [Decidable c] (a b:List Sn):iteL c [sns a] [sns b] = [sns (if c then a else b)]:=by
 show [D.ite c (sns a) (sns b)]=_
 have:D.ite c (sns a) (sns b)=sns (if c then a else b):=by
  show D.tab 5 (if c then _ else _) (fun q=>iteL1 c (Sn.f (a.getD q Sn.z)) (Sn.f (b.getD q Sn.z)))=_
  have:(fun q=>iteL1 c (Sn.f (a.getD q Sn.z)) (Sn.f (b.getD q Sn.z)))=fun q=>Sn.f ((if c then a else b).getD q Sn.z):=by
   funext q
   show [i64 (if c then _ else _),i64 (if c then _ else _),if c then bss _ else bss _,if c then u64s _ else u64s _,if c then bls _ else bls _]=_
   split<;>rfl
  rw [this]
  split<;>rfl
 rw [this]
structure ShsV (fl ky:Int) (L:List (List Sn)) (n:Int):Prop where
 n:(L.length:Int)=n
 l:∀ l ∈ L,ShV fl ky l
theorem ShsV.ok {fl ky:Int} {L:List (List Sn)} {n:Int} (h:ShsV fl ky L n) (hn:n<=100):ShOK L:=⟨by have:=h.n;omega,fun l hl=>by have:=(h.l l hl).n;omega⟩
theorem sheets_ct (d:Dk) (fl ky n m:Int) (hfl:0<=fl/\fl<=10) (hky:0<=ky/\ky<=10) (hn:0<=n/\n<=10) (hmo:m=4):Ct Tryz.prog 10 [d.b,i64 fl,i64 ky,i64 n,i64 m] fun r outs=>∃ (L:List (List Sn)) (d' : Dk),ShsV fl ky L n/\r=shs L/\outs = [Dk.b d']:=by
 refine .some2 (De Tryz.func10 [] [] ?_)
 repeat' first|refine S0 ?_;conv=>whnf
 refine Lw [] [] (α:=Dk × List (List Sn) × Int) (fun z=>[(0,.loc 0 0),(1,i64 fl),(2,i64 ky),(3,i64 n),(4,i64 m),(11,.own 1),(12,i64 z.2.2)]) (fun z=>[(0,.var z.1.ls),(1,.arr 36 1 z.2.1.length fun j=>[sns (z.2.1.getD j [])])]) 2 (fun z=>0<=z.2.2/\z.2.2<=n/\ShsV fl ky z.2.1 z.2.2) (fun z=>(n - z.2.2).toNat) ?_ ?_
 ·refine Again.by (d,[],0) ⟨Int.le_refl _,hn.1,⟨rfl,by simp⟩⟩ ?_
  repeat' first|refine S0 ?_;conv=>whnf|refine Vo ?_|exact T0|refine Vm ?_ ?_
  all_goals rfl
 ·intro ⟨d,L,i⟩ ⟨h1,h2,h3⟩;dsimp only at h1 h2 h3 ⊢;have hL:=h3.n
  repeat' first|refine S0 ?_;conv=>whnf|refine Vb ?_|refine W6 ?_|(refine Br.d (fun h=>?_) fun h=>?_)|(refine CallOK.io1 (g:=11) (Step.out ?_))|(refine Met.by (g:=11) (sheet_ct _ _ _ _ (by omega) (by omega) (by omega)) ?_;rintro q outs ⟨l,d,hl,rfl,rfl⟩)
  ·refine Again.by (d,L ++ [l],i+1) ?_ ?_
   ·dsimp only;refine ⟨⟨by omega,by omega,⟨by simp;omega,fun x hx=>?_⟩⟩,by omega⟩
    rcases List.mem_append.1 hx with hx | hx
    ·exact h3.l x hx
    ·rw [List.mem_singleton.1 hx];exact hl
   ·repeat' first|refine S0 ?_;conv=>whnf|refine Vo ?_|exact T0|refine Vm ?_ ?_
    all_goals exact app1 (fun x:List Sn=>[sns x]) [] ite_sns1 L l
  ·obtain rfl:i=n:=by omega
   refine Lf2.by L d h3 ?_
   repeat' first|refine S0 ?_;conv=>whnf|exact T0|exact T1|refine T2 ?_ ?_
   all_goals exact ⟨rfl,fun _ _=>rfl⟩
end Kx
namespace Kx
def Rf.z:Rf:=⟨0,0⟩
theorem cmpR_lt {a b:Rf}:cmpR a b<0 ↔ a.g<b.g\/(a.g=b.g/\a.i<b.i):=by
 simp only [cmpR,cmpI];(repeat' split)<;>omega
theorem cmpR_eq {a b:Rf}:cmpR a b=0 ↔ a=b:=by
 constructor
 ·intro h
  have:a.g=b.g/\a.i=b.i:=by
   simp only [cmpR,cmpI] at h
   (repeat' split at h)<;>omega
  cases a;cases b;simp_all
 ·rintro rfl;exact cmpR_same ⟨rfl,rfl⟩
def ltR (a b:Rf):Prop:=cmpR a b<0
instance (a b:Rf):Decidable (ltR a b):=inferInstanceAs (Decidable (cmpR a b<0))
theorem ltR_irrefl (a:Rf):¬ ltR a a:=by rw [ltR,cmpR_lt];omega
theorem ltR.trans {a b c:Rf} (h:ltR a b) (k:ltR b c):ltR a c:=by rw [ltR,cmpR_lt] at *;omega
theorem ltR_tri (a b:Rf):ltR a b\/a=b\/ltR b a:=by
 by_cases h:cmpR a b=0
 ·exact .inr (.inl (cmpR_eq.1 h))
 ·have h2:¬(a.g=b.g/\a.i=b.i):=fun e=>h (cmpR_same e)
  rw [ltR,ltR,cmpR_lt,cmpR_lt];omega
theorem ltR_ne {a b:Rf} (h:ltR a b):a≠b:=fun e=>by subst e;exact ltR_irrefl a h
def Asc (l:List Rf):Prop:=l.Pairwise ltR
theorem Asc.nodup {l:List Rf} (h:Asc l):l.Nodup:=List.Pairwise.imp (fun h=>ltR_ne h) h
theorem asc_ext:∀ {l m:List Rf},Asc l->Asc m->(∀ x,x ∈ l ↔ x ∈ m)->l=m
 | [],[],_,_,_=>rfl| [],b :: m,_,_,h=>absurd ((h b).2 (by simp)) (by simp)| a :: l,[],_,_,h=>absurd ((h a).1 (by simp)) (by simp)
 | a :: l,b :: m,hl,hm,h=>by
   obtain ⟨h1,h2⟩:=List.pairwise_cons.1 hl;obtain ⟨h3,h4⟩:=List.pairwise_cons.1 hm
   have hab:a=b:=by
    rcases List.mem_cons.1 ((h a).1 (by simp)) with e | e
    ·exact e
    rcases List.mem_cons.1 ((h b).2 (by simp)) with e' | e'
    ·exact e'.symm
    exact absurd ((h1 b e').trans (h3 a e)) (ltR_irrefl a)
   subst hab
   congr 1
   refine asc_ext h2 h4 fun x=>?_
   have:=h x;simp only [List.mem_cons] at this;constructor
   ·intro hx
    rcases this.1 (.inr hx) with e | e
    ·subst e;exact absurd (h1 x hx) (ltR_irrefl x)
    ·exact e
   ·intro hx
    rcases this.2 (.inr hx) with e | e
    ·subst e;exact absurd (h3 x hx) (ltR_irrefl x)
    ·exact e
def insR (r:Rf):List Rf->List Rf
 | []=>[r]
 | x :: l=>if ltR r x then r :: x :: l else if r=x then x :: l else x :: insR r l
theorem mem_insR {x r:Rf}:∀ {l:List Rf},x ∈ insR r l ↔ x=r\/x ∈ l
 | []=>by simp [insR]
 | y :: l=>by
   unfold insR;split
   ·simp
   ·split
    ·rename_i h;subst h;simp
    ·rw [List.mem_cons,mem_insR,List.mem_cons];constructor
     ·rintro (h | h | h)<;>simp [h]
     ·rintro (h | h | h)<;>simp [h]
theorem insR_asc {r:Rf}:∀ {l:List Rf},Asc l->Asc (insR r l)
 | [],_=>by simp [insR,Asc]
 | y :: l,h=>by
   obtain ⟨h1,h2⟩:=List.pairwise_cons.1 h;unfold insR;split
   ·rename_i hr;refine List.pairwise_cons.2 ⟨fun x hx=>?_,h⟩
    rcases List.mem_cons.1 hx with rfl | hx
    ·exact hr
    ·exact hr.trans (h1 x hx)
   ·rename_i hr;split
    ·exact h
    ·rename_i hn;refine List.pairwise_cons.2 ⟨fun x hx=>?_,insR_asc h2⟩
     rcases mem_insR.1 hx with rfl | hx
     ·rcases ltR_tri x y with e | e | e
      ·exact absurd e hr
      ·exact absurd e hn
      ·exact e
     ·exact h1 x hx
def setR (l:List Rf):List Rf:=l.foldr insR []
theorem mem_setR {x:Rf}:∀ {l:List Rf},x ∈ setR l ↔ x ∈ l
 | []=>by simp [setR]
 | y :: l=>by
   show x ∈ insR y (setR l) ↔ _
   rw [mem_insR,mem_setR,List.mem_cons]
theorem setR_asc:∀ (l:List Rf),Asc (setR l)
 | []=>by simp [setR,Asc]
 | y :: l=>insR_asc (setR_asc l)
theorem setR_of {l m:List Rf} (h:Asc m) (he:∀ x,x ∈ m ↔ x ∈ l):m=setR l:=asc_ext h (setR_asc l) fun x=>by rw [he,mem_setR]
def endsL (l:List Bd):List Rf:=l.flatMap fun b=>[b.a,b.b]
def refsL (l:List Bd):List Rf:=setR (endsL l)
theorem refsL_asc (l:List Bd):Asc (refsL l):=setR_asc _
theorem mem_refsL {r:Rf} {l:List Bd}:r ∈ refsL l ↔ ∃ b ∈ l,r=b.a\/r=b.b:=by
 rw [refsL,mem_setR,endsL,List.mem_flatMap];constructor
 ·rintro ⟨b,hb,h⟩;exact ⟨b,hb,by simpa using h⟩
 ·rintro ⟨b,hb,h⟩;exact ⟨b,hb,by simpa using h⟩
theorem refsL_a {l:List Bd} {b:Bd} (h:b ∈ l):b.a ∈ refsL l:=mem_refsL.2 ⟨b,h,.inl rfl⟩
theorem refsL_b {l:List Bd} {b:Bd} (h:b ∈ l):b.b ∈ refsL l:=mem_refsL.2 ⟨b,h,.inr rfl⟩
inductive Con (l:List Bd):Rf->Rf->Prop
 | refl (r:Rf):Con l r r
 | fwd {r:Rf} {b:Bd}:Con l r b.a->b ∈ l->Con l r b.b
 | bwd {r:Rf} {b:Bd}:Con l r b.b->b ∈ l->Con l r b.a
theorem Con.trans {l:List Bd} {r s t:Rf} (h:Con l r s) (k:Con l s t):Con l r t:=by
 induction k with
 | refl=>exact h| fwd _ hb ih=>exact (ih).fwd hb| bwd _ hb ih=>exact (ih).bwd hb
theorem Con.symm {l:List Bd} {r s:Rf} (h:Con l r s):Con l s r:=by
 induction h with
 | refl=>exact .refl _| fwd _ hb ih=>exact (Con.bwd (.refl _) hb).trans ih| bwd _ hb ih=>exact (Con.fwd (.refl _) hb).trans ih
theorem Con.mono {l m:List Bd} {r s:Rf} (h:Con l r s) (hs:∀ b ∈ l,b ∈ m):Con m r s:=by
 induction h with
 | refl=>exact .refl _| fwd _ hb ih=>exact ih.fwd (hs _ hb)| bwd _ hb ih=>exact ih.bwd (hs _ hb)
def Shut (l:List Bd) (S:Rf->Bool):Prop:=∀ b ∈ l,S b.a=S b.b
theorem Con.shut {l:List Bd} {S:Rf->Bool} {r s:Rf} (h:Con l r s) (hS:Shut l S):S r=S s:=by
 induction h with
 | refl=>rfl| fwd _ hb ih=>rw [ih,hS _ hb]| bwd _ hb ih=>rw [ih,hS _ hb]
theorem Con.inside {l:List Bd} {S:Rf->Bool} {r s:Rf} (h:Con l r s) (hS:Shut l S) (hr:S r=true):Con (l.filter fun b=>S b.a) r s:=by
 induction h with
 | refl=>exact .refl _| fwd h hb ih=>exact ih.fwd (List.mem_filter.2 ⟨hb,by rw [<-h.shut hS];exact hr⟩)| bwd h hb ih=>exact ih.bwd (List.mem_filter.2 ⟨hb,by rw [hS _ hb,<-h.shut hS];exact hr⟩)
def uniF (f:Rf->Rf) (b:Bd):Rf->Rf:=fun r=>if f r=f b.a then f b.b else f r
def uni (l:List Bd):Rf->Rf:=l.foldl uniF id
structure UInv (l:List Bd) (f:Rf->Rf):Prop where
 same:∀ b ∈ l,f b.a=f b.b
 con:∀ r,Con l r (f r)
 idem:∀ r,f (f r)=f r
theorem UInv.step {l:List Bd} {f:Rf->Rf} (h:UInv l f) (b:Bd):UInv (l ++ [b]) (uniF f b):=by
 have hm:∀ x ∈ l,x ∈ l ++ [b]:=fun x hx=>List.mem_append_left _ hx
 have hb:b ∈ l ++ [b]:=by simp
 refine ⟨fun x hx=>?_,fun r=>?_,fun r=>?_⟩
 ·rcases List.mem_append.1 hx with hx | hx
  ·simp only [uniF,h.same x hx]
  ·rw [List.mem_singleton.1 hx];simp only [uniF,if_true]
   split<;>rfl
 ·unfold uniF;split
  ·rename_i e;have h1:=(h.con r).mono hm;rw [e] at h1;have h2:=((h.con b.a).mono hm).symm;exact ((h1.trans h2).fwd hb).trans ((h.con b.b).mono hm)
  ·exact (h.con r).mono hm
 ·unfold uniF;by_cases e:f r=f b.a
  ·rw [if_pos e];split
   ·rfl
   ·exact h.idem _
  ·rw [if_neg e,h.idem,if_neg e]
theorem UInv.fold:∀ (m l:List Bd) (f:Rf->Rf),UInv l f->UInv (l ++ m) (m.foldl uniF f)
 | [],l,f,h=>by simpa using h
 | b :: m,l,f,h=>by
   have:=UInv.fold m (l ++ [b]) _ (h.step b);simpa using this
theorem uni_inv (l:List Bd):UInv l (uni l):=by
 have:=UInv.fold l [] id ⟨by simp,fun r=>.refl r,fun r=>rfl⟩
 rwa [List.nil_append] at this
theorem uni_iff {l:List Bd} {r s:Rf}:uni l r=uni l s ↔ Con l r s:=by
 have H:=uni_inv l;constructor
 ·intro h;have h1:=H.con r;rw [h] at h1;exact h1.trans (H.con s).symm
 ·intro h
  induction h with
  | refl=>rfl| fwd _ hb ih=>rw [ih,H.same _ hb]| bwd _ hb ih=>rw [ih,H.same _ hb]
theorem uni_shut (l:List Bd) (k:Rf):Shut l fun r=>decide (uni l r=k):=fun b hb=>by
 dsimp only;rw [(uni_inv l).same b hb]
def topF (U:Rf->Rf) (T:List Rf) (r:Rf):List Rf:=if U r ∈ T then T else T ++ [U r]
def tops (U:Rf->Rf) (R:List Rf):List Rf:=R.foldl (topF U) []
theorem tops_snoc (U:Rf->Rf) (R:List Rf) (r:Rf):tops U (R ++ [r])=topF U (tops U R) r:=by simp [tops,List.foldl_append]
theorem topF_fold (U:Rf->Rf):∀ (R T:List Rf),T.Nodup->(R.foldl (topF U) T).Nodup/\∀ k,k ∈ R.foldl (topF U) T ↔ k ∈ T\/∃ r ∈ R,U r=k
 | [],T,h=>⟨h,fun k=>by simp⟩
 | r :: R,T,h=>by
   have hn:(topF U T r).Nodup:=by
    unfold topF;split
    ·exact h
    ·rename_i hk;rw [List.nodup_append];exact ⟨h,by simp,fun a ha b hb e=>by rw [List.mem_singleton.1 hb] at e;subst e;exact hk ha⟩
   have hm:∀ k,k ∈ topF U T r ↔ k ∈ T\/U r=k:=fun k=>by
    unfold topF;split
    ·rename_i hk;constructor
     ·exact .inl
     ·rintro (h | rfl)
      ·exact h
      ·exact hk
    ·simp [eq_comm]
   obtain ⟨h1,h2⟩:=topF_fold U R _ hn;refine ⟨h1,fun k=>?_⟩
   show k ∈ R.foldl (topF U) (topF U T r) ↔ _
   rw [h2,hm];constructor
   ·rintro ((h | h) | ⟨x,hx,h⟩)
    ·exact .inl h
    ·exact .inr ⟨r,by simp,h⟩
    ·exact .inr ⟨x,by simp [hx],h⟩
   ·rintro (h | ⟨x,hx,h⟩)
    ·exact .inl (.inl h)
    ·rcases List.mem_cons.1 hx with rfl | hx
     ·exact .inl (.inr h)
     ·exact .inr ⟨x,hx,h⟩
theorem tops_nodup (U:Rf->Rf) (R:List Rf):(tops U R).Nodup:=(topF_fold U R [] (by simp)).1
theorem mem_tops {U:Rf->Rf} {R:List Rf} {k:Rf}:k ∈ tops U R ↔ ∃ r ∈ R,U r=k:=by
 refine ((topF_fold U R [] (by simp)).2 k).trans ?_;simp
theorem tops_one {U:Rf->Rf} {k:Rf} {R:List Rf} (hne:R≠[]) (h:∀ r ∈ R,U r=k):tops U R = [k]:=by
 have hn:=tops_nodup U R
 have hm:=fun x=>mem_tops (U:=U) (R:=R) (k:=x)
 have h1:∀ x ∈ tops U R,x=k:=fun x hx=>by
  obtain ⟨r,hr,e⟩:=(hm x).1 hx;rw [<-e,h r hr]
 obtain ⟨r,hr⟩:=List.exists_mem_of_ne_nil R hne;have hk:k ∈ tops U R:=(hm k).2 ⟨r,hr,h r hr⟩
 match hT:tops U R with
 | []=>rw [hT] at hk;cases hk
 | [a]=>rw [hT] at h1;rw [h1 a (by simp)]
 | a :: b :: l =>
   rw [hT] at h1 hn;have e1:=h1 a (by simp);have e2:=h1 b (by simp);subst e1;subst e2;simp at hn
def prt (l:List Bd):List (List Rf):=(tops (uni l) (refsL l)).map fun k=>(refsL l).filter fun r=>decide (uni l r=k)
def cbs (l:List Bd):List (List Bd):=(tops (uni l) (refsL l)).map fun k=>l.filter fun b=>decide (uni l b.a=k)
structure IsC (l B:List Bd):Prop where
 ne:B≠[]
 ex:∃ S:Rf->Bool,Shut l S/\B=l.filter fun b=>S b.a
 con:∀ r ∈ refsL B,∀ s ∈ refsL B,Con B r s
theorem mem_refs_filter {l:List Bd} {S:Rf->Bool} (hS:Shut l S) {r:Rf}:r ∈ refsL (l.filter fun b=>S b.a) ↔ r ∈ refsL l/\S r=true:=by
 rw [mem_refsL,mem_refsL];constructor
 ·rintro ⟨b,hb,h⟩
  obtain ⟨h1,h2⟩:=List.mem_filter.1 hb;refine ⟨⟨b,h1,h⟩,?_⟩
  rcases h with rfl | rfl
  ·exact h2
  ·rw [<-hS b h1];exact h2
 ·rintro ⟨⟨b,hb,h⟩,h2⟩
  refine ⟨b,List.mem_filter.2 ⟨hb,?_⟩,h⟩
  rcases h with rfl | rfl
  ·exact h2
  ·rw [hS b hb];exact h2
theorem isC_of {l:List Bd} {S:Rf->Bool} (hS:Shut l S) (hne:(l.filter fun b=>S b.a)≠[]) (hc:∀ r s,S r=true->S s=true->r ∈ refsL l->s ∈ refsL l->Con l r s):IsC l (l.filter fun b=>S b.a):=by
 refine ⟨hne,⟨S,hS,rfl⟩,fun r hr s hs=>?_⟩;obtain ⟨h1,h2⟩:=(mem_refs_filter hS).1 hr;obtain ⟨h3,h4⟩:=(mem_refs_filter hS).1 hs;exact (hc r s h2 h4 h1 h3).inside hS h2
theorem cbs_isC {l B:List Bd} (h:B ∈ cbs l):IsC l B:=by
 obtain ⟨k,hk,rfl⟩:=List.mem_map.1 h;obtain ⟨r,hr,e⟩:=mem_tops.1 hk;obtain ⟨b,hb,hrb⟩:=mem_refsL.1 hr;have hS:=uni_shut l k
 refine isC_of hS (fun h0=>?_) fun r s hr hs _ _=>?_
 ·have:b ∈ l.filter fun b=>decide (uni l b.a=k):=by
   refine List.mem_filter.2 ⟨hb,?_⟩
   rcases hrb with rfl | rfl
   ·simpa using e
   ·simpa [(uni_inv l).same b hb] using e
  rw [h0] at this;cases this
 ·simp only [decide_eq_true_eq] at hr hs;exact uni_iff.1 (hr.trans hs.symm)
theorem isC_cbs {l B:List Bd} (h:IsC l B):B ∈ cbs l:=by
 obtain ⟨S,hS,hB⟩:=h.ex;obtain ⟨b0,h0⟩:=List.exists_mem_of_ne_nil B h.ne
 have h1:b0 ∈ l/\S b0.a=true:=by rw [hB] at h0;simpa using h0
 refine List.mem_map.2 ⟨uni l b0.a,mem_tops.2 ⟨b0.a,refsL_a h1.1,rfl⟩,?_⟩;rw [hB]
 refine List.filter_congr fun b hb=>?_
 cases hs:S b.a with
 | true =>
   have hbB:b ∈ B:=by rw [hB];simp [hb,hs]
   have:=h.con _ (refsL_a hbB) _ (refsL_a h0)
   have:=this.mono (m:=l) fun x hx=>by rw [hB] at hx;exact (List.mem_filter.1 hx).1
   simpa using uni_iff.2 this
 | false =>
   rw [decide_eq_false_iff_not];intro e;have:=(uni_iff.1 e).shut hS;rw [hs,h1.2] at this;cases this
theorem prt_eq (l:List Bd):prt l=(cbs l).map refsL:=by
 unfold prt cbs;rw [List.map_map]
 refine List.map_congr_left fun k _=>?_
 refine asc_ext (List.Pairwise.filter _ (refsL_asc l)) (refsL_asc _) fun x=>?_
 rw [List.mem_filter];exact (mem_refs_filter (uni_shut l k)).symm
theorem isC_sub {l B:List Bd} (h:IsC l B):∀ b ∈ B,b ∈ l:=by
 obtain ⟨S,_,rfl⟩:=h.ex
 exact fun b hb=>(List.mem_filter.1 hb).1
theorem isC_self {l B:List Bd} (h:IsC l B):cbs B = [B]:=by
 obtain ⟨b0,h0⟩:=List.exists_mem_of_ne_nil B h.ne
 have hk:∀ r ∈ refsL B,uni B r=uni B b0.a:=fun r hr=>uni_iff.2 (h.con r hr _ (refsL_a h0))
 unfold cbs;rw [tops_one (List.ne_nil_of_mem (refsL_a h0)) hk,List.map_singleton]
 congr 1
 exact List.filter_eq_self.2 fun b hb=>by simpa using hk _ (refsL_a hb)
theorem cbs_pw (l:List Bd):(cbs l).Pairwise fun B C=>∀ r,r ∈ refsL B->r ∉ refsL C:=by
 unfold cbs;rw [List.pairwise_map];refine List.Pairwise.imp (fun {k j} hkj=>?_) (tops_nodup (uni l) (refsL l));intro r h1 h2;have e1:=((mem_refs_filter (uni_shut l k)).1 h1).2;have e2:=((mem_refs_filter (uni_shut l j)).1 h2).2;simp only [decide_eq_true_eq] at e1 e2;exact hkj (e1.symm.trans e2)
def touch (p:List Rf) (l:List Bd):List Bd:=l.filter fun b=>decide (b.a ∈ p) || decide (b.b ∈ p)
theorem isC_kept {x y B:List Bd} (h:IsC y B) (hk:touch (refsL B) x=B):IsC x B:=by
 have hS:Shut x fun r=>decide (r ∈ refsL B):=fun b hb=>by
  by_cases e:b.a ∈ refsL B\/b.b ∈ refsL B
  ·have:b ∈ B:=by rw [<-hk];exact List.mem_filter.2 ⟨hb,by simpa using e⟩
   have h1:=refsL_a this;have h2:=refsL_b this;simp [h1,h2]
  ·have h1:b.a ∉ refsL B:=fun h=>e (.inl h)
   have h2:b.b ∉ refsL B:=fun h=>e (.inr h)
   simp [h1,h2]
 refine ⟨h.ne,⟨_,hS,?_⟩,h.con⟩
 conv=>lhs;rw [<-hk]
 refine List.filter_congr fun b hb=>?_
 have:=hS b hb;dsimp only at this ⊢;rw [<-this,Bool.or_self]
end Kx
