/-
  The library's stable sort, walked: insertion.
  No condition beyond those written in each theorem.
-/
import Derived.Test.YtjommlbfjnifmaaGreatDoorKB4
set_option linter.unusedSimpArgs false
set_option linter.unusedVariables false
set_option maxRecDepth 4000
open Go Sx Go.Proofs
namespace Kx
def bdsF (l:List Bd):D:=.foar 119 5 l.length fun i=>Bd.f (l.getD i Bd.z)
theorem heavier_ct (x y:Bd):Cr 128 [.agg (Bd.f x),.agg (Bd.f y)] (i64 (cmpI y.w x.w)):=by
 refine .det (De Tryz.func128 [] [] ?_)
 repeat' first|refine S0 ?_;conv=>whnf|exact T0|refine T2 ?_ ?_|refine K0 ?_|(refine M0 (g:=91) (compare_ct _ _) ?_)
theorem swB_get (l:List Bd) (i j x:Nat) (hi:i<l.length) (hj:j<l.length):(swB l i j).getD x Bd.z=if x=j then l.getD i Bd.z else if x=i then l.getD j Bd.z else l.getD x Bd.z:=by
 unfold swB;rw [if_pos ⟨hi,hj⟩,getD_setL _ _ _ _ _ (by rw [List.length_set];exact hj)];split
 ·rfl
 ·rw [getD_setL _ _ _ _ _ hi]
theorem swB_len (l:List Bd) (i j:Nat):(swB l i j).length=l.length:=(swB_same l i j).1
theorem sw_fin {l:List Bd} {i j p q:Nat} (hi:i<l.length) (hj:j<l.length) (hp:p=j) (hq:q=i):l.length=(swB l i j).length/\∀ x,x<(swB l i j).length->iteL (x=p) (Bd.f (l.getD q Bd.z)) (iteL (x=q) (Bd.f (l.getD p Bd.z)) (Bd.f (l.getD x Bd.z)))=Bd.f ((swB l i j).getD x Bd.z):=by
 subst hp hq;refine ⟨(swB_len _ _ _).symm,fun x _=>?_⟩;rw [ite_bd,ite_bd,swB_get _ _ _ _ hi hj]
theorem ins_ct (l:List Bd) (a b:Nat) (ha:a<=l.length) (hb:b<=l.length) (hl:l.length<=1000):Ct Tryz.prog 210 [bdsF l,i64 a,i64 b,.fn 128 []] fun q outs=>q = .tup []/\outs = [bdsO (insB l a b)]:=by
 refine .det (De Tryz.func210 ord210 [] ?_)
 repeat' first|refine S0 ?_;conv=>whnf|refine W6 ?_
 refine Lw ord210 [] (α:=Nat × List Bd) (fun z=>[(0,.own 0),(1,i64 a),(2,i64 b),(3,.fn 128 []),(8,i64 z.1)]) (fun z=>[(0,.arr 119 5 z.2.length fun i=>Bd.f (z.2.getD i Bd.z))]) 1 (fun z=>(a+1<=z.1/\z.1<=2000/\z.2.length=l.length)/\insB l a b=insOut a (b - z.1) z.2 z.1) (fun z=>b - z.1) ?_ ?_
 ·refine Again.by (a+1,l) ⟨⟨Nat.le_refl _,by dsimp only;omega,rfl⟩,rfl⟩ ?_
  repeat' first|refine S0 ?_;conv=>whnf|refine Vo ?_|exact T0|(refine Cho.l (Step.out ?_))|refine Vm ?_ ?_
 ·intro ⟨i,m⟩ ⟨⟨h1,h2,h3⟩,h4⟩;dsimp only at h1 h2 h3 h4 ⊢;by_cases hib:i<b
  ·have hbi:b - i=(b - (i+1))+1:=by omega
   rw [hbi,insOut] at h4
   repeat' first|refine S0 ?_;conv=>whnf|refine B1 ?_
   refine Lw ord210 [] (α:=Nat × List Bd) (fun w=>[(0,.own 0),(1,i64 a),(2,i64 b),(3,.fn 128 []),(8,i64 i),(9,i64 w.1)]) (fun w=>[(0,.arr 119 5 w.2.length fun i=>Bd.f (w.2.getD i Bd.z))]) 1 (fun w=>(a<=w.1/\w.1<=i/\w.2.length=l.length)/\insIn (i - a) m i=insIn (w.1 - a) w.2 w.1) (fun w=>w.1) ?_ ?_
   ·refine Again.by (i,m) ⟨⟨by dsimp only;omega,Nat.le_refl _,h3⟩,rfl⟩ ?_
    repeat' first|refine S0 ?_;conv=>whnf|refine Vo ?_|exact T0|(refine Cho.l (Step.out ?_))|refine Vm ?_ ?_
   ·intro ⟨j,k⟩ ⟨⟨h5,h6,h7⟩,h8⟩;dsimp only at h5 h6 h7 h8 ⊢;by_cases haj:a<j
    ·have hja:j - a=(j - 1 - a)+1:=by omega
     have hj1:((j:Int) - 1).toNat=j - 1:=by omega
     rw [hja,insIn] at h8;have hc:=heavier_ct (k.getD (j:Int).toNat Bd.z) (k.getD ((j:Int) - 1).toNat Bd.z)
     repeat' first|refine S0 ?_;conv=>whnf|refine Vo ?_|refine W6 ?_|refine B1 ?_|(refine M0 hc ?_)|(refine Br.d (fun h=>?_) fun h=>?_)|refine K0 ?_
     ·have hlw:ltW (k.getD j Bd.z) (k.getD (j - 1) Bd.z)=true:=by unfold ltW;rw [hj1] at h;exact decide_eq_true h
      rw [if_pos hlw] at h8
      refine Again.by (j - 1,swB k j (j - 1)) ⟨⟨⟨by dsimp only;omega,by dsimp only;omega,by dsimp only;rw [swB_len];exact h7⟩,h8⟩,by dsimp only;omega⟩ ?_
      repeat' first|refine S0 ?_;conv=>whnf|refine Vo ?_|exact T0|(refine Cho.l (Step.out ?_))|refine Vm ?_ ?_
      exact sw_fin (show j<k.length by omega) (show j - 1<k.length by omega) hj1 (tnc j)
     ·have hlw:¬ ltW (k.getD j Bd.z) (k.getD (j - 1) Bd.z)=true:=by unfold ltW;rw [hj1] at h;exact fun e=>h (of_decide_eq_true e)
      rw [if_neg hlw] at h8
      refine Again.by (i+1,k) ⟨⟨⟨by dsimp only;omega,by dsimp only;omega,h7⟩,by rw [h4,h8]⟩,by dsimp only;omega⟩ ?_
      repeat' first|refine S0 ?_;conv=>whnf|refine Vo ?_|exact T0|(refine Cho.l (Step.out ?_))|refine Vm ?_ ?_
    ·have hja:j - a=0:=by omega
     rw [hja,insIn] at h8
     repeat' first|refine S0 ?_;conv=>whnf|refine W6 ?_|refine B0 ?_
     refine Again.by (i+1,k) ⟨⟨⟨by dsimp only;omega,by dsimp only;omega,h7⟩,by rw [h4,h8]⟩,by dsimp only;omega⟩ ?_
     repeat' first|refine S0 ?_;conv=>whnf|refine Vo ?_|exact T0|(refine Cho.l (Step.out ?_))|refine Vm ?_ ?_
  ·have hbi:b - i=0:=by omega
   rw [hbi,insOut] at h4
   repeat' first|refine S0 ?_;conv=>whnf|exact T0|refine B0 ?_|refine T2 ?_ ?_
   rw [h4];exact ⟨rfl,fun _ _=>rfl⟩
end Kx
open Go Sx Go.Proofs
namespace Kx
theorem swr_same' (a b:Nat):∀ (n i:Nat) (l:List Bd),(swr a b n i l).length=l.length:=fun n i l=>(swr_same a b n i l).1
theorem swr_ct (l:List Bd) (a b n:Nat) (xa xb xn:Int) (ha:xa=a) (hb:xb=b) (hn:xn=n) (h1:a+n<=l.length) (h2:b+n<=l.length) (hl:l.length<=1000):Ct Tryz.prog 272 [bdsF l,i64 xa,i64 xb,i64 xn,.fn 128 []] fun q outs=>q = .tup []/\outs = [bdsO (swr a b n 0 l)]:=by
 subst ha hb hn;refine .det (De Tryz.func272 ord272 [] ?_)
 repeat' first|refine S0 ?_;conv=>whnf
 refine Lw ord272 [] (α:=Nat × List Bd) (fun z=>[(0,.own 0),(1,i64 a),(2,i64 b),(3,i64 n),(10,i64 z.1)]) (fun z=>[(0,.arr 119 5 z.2.length fun i=>Bd.f (z.2.getD i Bd.z))]) 1 (fun z=>(z.1<=n/\z.2.length=l.length)/\swr a b n 0 l=swr a b (n - z.1) z.1 z.2) (fun z=>n - z.1) ?_ ?_
 ·refine Again.by (0,l) ⟨⟨zle _,rfl⟩,rfl⟩ ?_
  repeat' first|refine S0 ?_;conv=>whnf|refine Vo ?_|exact T0
 ·intro ⟨i,m⟩ ⟨⟨h3,h4⟩,h5⟩;dsimp only at h3 h4 h5 ⊢;by_cases hi:i<n
  ·have hni:n - i=(n - (i+1))+1:=by omega
   rw [hni,swr] at h5
   repeat' first|refine S0 ?_;conv=>whnf|refine Vo ?_|refine W6 ?_|refine B1 ?_
   all_goals refine Again.by (i+1,swB m (a+i) (b+i)) ⟨⟨⟨by dsimp only;omega,by dsimp only;rw [swB_len];exact h4⟩,h5⟩,by dsimp only;omega⟩ ?_
   repeat' first|refine S0 ?_;conv=>whnf|refine Vo ?_|exact T0|refine Vm ?_ ?_
   all_goals exact sw_fin (show a+i<m.length by omega) (show b+i<m.length by omega) (by omega) (by omega)
  ·have hni:n - i=0:=by omega
   rw [hni,swr] at h5
   repeat' first|refine S0 ?_;conv=>whnf|exact T0|refine B0 ?_|refine T2 ?_ ?_
   rw [h5];exact ⟨rfl,fun _ _=>rfl⟩
theorem brot_ct (l:List Bd) (a m b:Nat) (xa xm xb:Int) (ha:xa=a) (hm:xm=m) (hb:xb=b) (h1:a<m) (h2:m<b) (h3:b<=l.length) (hl:l.length<=1000):Ct Tryz.prog 246 [bdsF l,i64 xa,i64 xm,i64 xb,.fn 128 []] fun q outs=>q = .tup []/\outs = [bdsO (rotB m (b - a) (m - a) (b - m) l)]:=by
 subst ha hm hb;refine .det (De Tryz.func246 [] [] ?_)
 repeat' first|refine S0 ?_;conv=>whnf|refine W6 ?_
 refine Lw [] [] (α:=(Nat × Nat) × Nat × List Bd) (fun z=>[(0,.own 0),(2,i64 m),(4,.fn 128 []),(10,i64 z.1.2),(11,i64 z.2.1)]) (fun z=>[(0,.arr 119 5 z.2.2.length fun i=>Bd.f (z.2.2.getD i Bd.z))]) 1 (fun z=>(((1<=z.1.2/\1<=z.2.1)/\z.1.2+z.2.1<=z.1.1/\z.1.2<=m)/\m+z.2.1<=l.length/\z.2.2.length=l.length)/\rotB m (b - a) (m - a) (b - m) l=rotB m z.1.1 z.1.2 z.2.1 z.2.2) (fun z=>z.1.1) ?_ ?_
 ·refine Again.by ((b - a,m - a),b - m,l) ⟨⟨⟨⟨by dsimp only;omega,by dsimp only;omega⟩,by dsimp only;omega,by dsimp only;omega⟩,by dsimp only;omega,rfl⟩,rfl⟩ ?_
  repeat' first|refine S0 ?_;conv=>whnf|refine Vo ?_|refine Vb ?_|exact T0|(refine Cho.l (Step.out ?_))|refine Vm ?_ ?_
 ·intro ⟨⟨n,i⟩,j,k⟩ ⟨⟨⟨⟨h4,h5⟩,h6,h7⟩,h8,h9⟩,h10⟩;dsimp only at h4 h5 h6 h7 h8 h9 h10 ⊢;obtain ⟨n,rfl⟩:∃ n',n=n' + 1:=⟨n - 1,by omega⟩;rw [rotB] at h10
  have hmi:(m:Int) - i=((m - i:Nat):Int):=by omega
  by_cases e:i=j
  ·rw [if_pos e] at h10;have hc:=swr_ct k (m - i) m i _ _ _ hmi rfl rfl (by omega) (by omega) (by omega)
   repeat' first|(refine CallOK.ioL1 (g:=272) (Step.out ?_))|refine S0 ?_;conv=>whnf|exact T0|refine W6 ?_|refine B1 ?_|(refine M0 hc ?_)|refine Br.bnot ?_|refine T2 ?_ ?_
   rw [h10];exact ⟨rfl,fun _ _=>rfl⟩
  ·rw [if_neg e] at h10;by_cases hji:j<i
   ·rw [if_pos hji] at h10;have hc:=swr_ct k (m - i) m j _ _ _ hmi rfl rfl (by omega) (by omega) (by omega)
    repeat' first|(refine CallOK.ioL1 (g:=272) (Step.out ?_))|refine S0 ?_;conv=>whnf|refine W6 ?_|refine B1 ?_|refine B0 ?_|(refine M0 hc ?_)|refine Br.bnot ?_
    refine Again.by ((n,i - j),j,swr (m - i) m j 0 k) ⟨⟨⟨⟨⟨by dsimp only;omega,h5⟩,by dsimp only;omega,by dsimp only;omega⟩,h8,by dsimp only;rw [swr_same'];exact h9⟩,h10⟩,by dsimp only;omega⟩ ?_
    repeat' first|refine S0 ?_;conv=>whnf|refine Vo ?_|refine Vb ?_|exact T0|(refine Cho.l (Step.out ?_))|refine Vm ?_ ?_
   ·rw [if_neg hji] at h10;have hc:=swr_ct k (m - i) (m+j - i) i _ ((m:Int)+j - i) _ hmi (by omega) rfl (by omega) (by omega) (by omega)
    repeat' first|(refine CallOK.ioL1 (g:=272) (Step.out ?_))|refine S0 ?_;conv=>whnf|refine W6 ?_|refine B0 ?_|(refine M0 hc ?_)|refine Br.bnot ?_
    refine Again.by ((n,i),j - i,swr (m - i) (m+j - i) i 0 k) ⟨⟨⟨⟨⟨h4,by dsimp only;omega⟩,by dsimp only;omega,h7⟩,by dsimp only;omega,by dsimp only;rw [swr_same'];exact h9⟩,h10⟩,by dsimp only;omega⟩ ?_
    repeat' first|refine S0 ?_;conv=>whnf|refine Vo ?_|refine Vb ?_|exact T0|(refine Cho.l (Step.out ?_))|refine Vm ?_ ?_
end Kx
open Go Sx Go.Proofs
namespace Kx
theorem Wr.eqm {k:IntKind} {z n:Int} {K:Int->Prop} (h:k.wrap z=n) (q:Step (K n)):Wr k z K:=.raw (h ▸ q)
theorem wmid (i j:Nat) (h:i+j<=2000):IntKind.i64.wrap (((i:Int)+j).fdiv (2 ^ min (Int.toNat 1) IntKind.u64.bits))=(((i+j) / 2:Nat):Int):=by
 rw [show (2 ^ min (Int.toNat 1) IntKind.u64.bits:Int)=2 from rfl,Int.fdiv_eq_ediv_of_nonneg _ (by decide),wi _ (by omega)];omega
set_option maxHeartbeats 8000000 in
theorem symm1_ct (f a m b:Nat) (l:List Bd) (xa xm xb:Int) (ha:xa=a) (hx:xm=m) (hb:xb=b) (h1:a<m) (h2:m<b) (h3:b<=l.length) (hl:l.length<=1000) (c:m - a=1):Ct Tryz.prog 211 [bdsF l,i64 xa,i64 xm,i64 xb,.fn 128 []] fun q outs=>q = .tup []/\outs = [bdsO (symM (f+1) a m b l)]:=by
 subst ha hx hb;rw [symM,if_pos c]
 have hp:∃ p,p=fun h=>ltW (l.getD h Bd.z) (l.getD a Bd.z):=⟨_,rfl⟩
 obtain ⟨p,ep⟩:=hp;rw [<-ep];refine .det (De Tryz.func211 ord211 [] ?_)
 repeat' first|refine S0 ?_;conv=>whnf|refine W6 ?_|refine B1 ?_
 refine Lw ord211 [] (α:=Nat × Nat × Nat) (fun z=>[(0,.own 0),(1,i64 a),(4,.fn 128 []),(10,i64 z.2.1),(11,i64 z.2.2)]) (fun z=>[(0,.arr 119 5 l.length fun i=>Bd.f (l.getD i Bd.z))]) 1 (fun z=>(m<=z.2.1/\z.2.1<=z.2.2/\z.2.2<=b)/\z.2.2 - z.2.1<=z.1/\bsr p (b - m) m b=bsr p z.1 z.2.1 z.2.2) (fun z=>z.2.2 - z.2.1) ?_ ?_
 ·refine Again.by (b - m,m,b) ⟨⟨Nat.le_refl _,by dsimp only;omega,Nat.le_refl _⟩,Nat.le_refl _,rfl⟩ ?_
  repeat' first|refine S0 ?_;conv=>whnf|refine Vo ?_|exact T0|(refine Cho.l (Step.out ?_))|refine Vm ?_ ?_
 ·intro ⟨n,i,j⟩ ⟨⟨h4,h5,h6⟩,h7,h8⟩;dsimp only at h4 h5 h6 h7 h8 ⊢;by_cases hij:i<j
  ·obtain ⟨n,rfl⟩:∃ n',n=n' + 1:=⟨n - 1,by omega⟩;rw [bsr,if_pos hij] at h8
   have hpd:p ((i+j) / 2)=decide (cmpI (l.getD a Bd.z).w (l.getD ((i+j) / 2) Bd.z).w<0):=by rw [ep];rfl
   rw [hpd] at h8;have hmid:=wmid i j (by omega)
   repeat' first|refine S0 ?_;conv=>whnf|refine Vo ?_|refine W6 ?_|refine B1 ?_|(refine Wr.u64 ?_ ?_;omega)|(refine Wr.eqm hmid ?_)|(refine M0 (heavier_ct _ _) ?_)|(refine Br.d (fun h=>?_) fun h=>?_)|refine K0 ?_
   all_goals simp only [tnc] at h
   ·rw [if_pos (decide_eq_true h)] at h8
    refine Again.by (n,(i+j) / 2+1,j) ⟨⟨⟨by dsimp only;omega,by dsimp only;omega,h6⟩,by dsimp only;omega,h8⟩,by dsimp only;omega⟩ ?_
    repeat' first|refine S0 ?_;conv=>whnf|refine Vo ?_|refine Vb ?_|exact T0|(refine Cho.l (Step.out ?_))|refine Vm ?_ ?_
   ·rw [if_neg (fun e=>h (of_decide_eq_true e))] at h8
    refine Again.by (n,i,(i+j) / 2) ⟨⟨⟨h4,by dsimp only;omega,by dsimp only;omega⟩,by dsimp only;omega,h8⟩,by dsimp only;omega⟩ ?_
    repeat' first|refine S0 ?_;conv=>whnf|refine Vo ?_|exact T0|(refine Cho.l (Step.out ?_))|refine Vm ?_ ?_
  ·have hb:bsr p n i j=i:=by cases n<;>simp [bsr,hij]
   rw [hb] at h8;rw [h8]
   repeat' first|refine S0 ?_;conv=>whnf|refine B0 ?_
   refine Lw ord211 [] (α:=Nat × List Bd) (fun z=>[(0,.own 0),(10,i64 i),(13,i64 z.1)]) (fun z=>[(0,.arr 119 5 z.2.length fun i=>Bd.f (z.2.getD i Bd.z))]) 1 (fun z=>(a<=z.1/\z.1<=i - 1/\z.2.length=l.length)/\upS (i - 1 - a) l a=upS (i - 1 - z.1) z.2 z.1) (fun z=>i - 1 - z.1) ?_ ?_
   ·refine Again.by (a,l) ⟨⟨Nat.le_refl _,by dsimp only;omega,rfl⟩,rfl⟩ ?_
    repeat' first|refine S0 ?_;conv=>whnf|refine Vo ?_|exact T0
   ·intro ⟨k,w⟩ ⟨⟨h9,h10,h11⟩,h12⟩;dsimp only at h9 h10 h11 h12 ⊢;by_cases hk:k<i - 1
    ·have e:i - 1 - k=(i - 1 - (k+1))+1:=by omega
     rw [e,upS] at h12
     repeat' first|refine S0 ?_;conv=>whnf|refine Vo ?_|refine W6 ?_|refine B1 ?_
     all_goals refine Again.by (k+1,swB w k (k+1)) ⟨⟨⟨by dsimp only;omega,by dsimp only;omega,by dsimp only;rw [swB_len];exact h11⟩,h12⟩,by dsimp only;omega⟩ ?_
     repeat' first|refine S0 ?_;conv=>whnf|refine Vo ?_|exact T0|refine Vm ?_ ?_
     all_goals exact sw_fin (show k<w.length by omega) (show k+1<w.length by omega) (by omega) (tnc k)
    ·have e:i - 1 - k=0:=by omega
     rw [e,upS] at h12
     repeat' first|refine S0 ?_;conv=>whnf|exact T0|refine W6 ?_|refine B0 ?_|refine T2 ?_ ?_
     rw [h12];exact ⟨rfl,fun _ _=>rfl⟩
end Kx
open Go Sx Go.Proofs
namespace Kx
set_option maxHeartbeats 8000000 in
theorem symm2_ct (f a m b:Nat) (l:List Bd) (xa xm xb:Int) (ha:xa=a) (hx:xm=m) (hb:xb=b) (h1:a<m) (h2:m<b) (h3:b<=l.length) (hl:l.length<=1000) (c:¬ m - a=1) (c2:b - m=1):Ct Tryz.prog 211 [bdsF l,i64 xa,i64 xm,i64 xb,.fn 128 []] fun q outs=>q = .tup []/\outs = [bdsO (symM (f+1) a m b l)]:=by
 subst ha hx hb;rw [symM,if_neg c,if_pos c2]
 have hp:∃ p,p=fun h=>!ltW (l.getD m Bd.z) (l.getD h Bd.z):=⟨_,rfl⟩
 obtain ⟨p,ep⟩:=hp;rw [<-ep];refine .det (De Tryz.func211 ord211 [] ?_)
 repeat' first|refine S0 ?_;conv=>whnf|refine W6 ?_|refine B1 ?_|refine B0 ?_
 refine Lw ord211 [] (α:=Nat × Nat × Nat) (fun z=>[(0,.own 0),(2,i64 m),(4,.fn 128 []),(14,i64 z.2.1),(15,i64 z.2.2)]) (fun z=>[(0,.arr 119 5 l.length fun i=>Bd.f (l.getD i Bd.z))]) 1 (fun z=>(a<=z.2.1/\z.2.1<=z.2.2/\z.2.2<=m)/\z.2.2 - z.2.1<=z.1/\bsr p (m - a) a m=bsr p z.1 z.2.1 z.2.2) (fun z=>z.2.2 - z.2.1) ?_ ?_
 ·refine Again.by (m - a,a,m) ⟨⟨Nat.le_refl _,by dsimp only;omega,Nat.le_refl _⟩,Nat.le_refl _,rfl⟩ ?_
  repeat' first|refine S0 ?_;conv=>whnf|refine Vo ?_|exact T0|(refine Cho.l (Step.out ?_))|refine Vm ?_ ?_
 ·intro ⟨n,i,j⟩ ⟨⟨h4,h5,h6⟩,h7,h8⟩;dsimp only at h4 h5 h6 h7 h8 ⊢;by_cases hij:i<j
  ·obtain ⟨n,rfl⟩:∃ n',n=n' + 1:=⟨n - 1,by omega⟩;rw [bsr,if_pos hij] at h8
   have hpd:p ((i+j) / 2) = !decide (cmpI (l.getD ((i+j) / 2) Bd.z).w (l.getD m Bd.z).w<0):=by rw [ep];rfl
   rw [hpd] at h8;have hmid:=wmid i j (by omega)
   repeat' first|refine S0 ?_;conv=>whnf|refine Vo ?_|refine W6 ?_|refine B1 ?_|(refine Wr.u64 ?_ ?_;omega)|(refine Wr.eqm hmid ?_)|(refine M0 (heavier_ct _ _) ?_)|(refine Br.d (fun h=>?_) fun h=>?_)|refine Br.bnot ?_|refine K0 ?_
   all_goals simp only [tnc] at h
   all_goals first
    | (rw [if_neg (by rw [decide_eq_true h];decide)] at h8
       refine Again.by (n,i,(i+j) / 2) ⟨⟨⟨h4,by dsimp only;omega,by dsimp only;omega⟩,by dsimp only;omega,h8⟩,by dsimp only;omega⟩ ?_)
    | (rw [if_pos (by rw [decide_eq_false h];rfl)] at h8
       refine Again.by (n,(i+j) / 2+1,j) ⟨⟨⟨by dsimp only;omega,by dsimp only;omega,h6⟩,by dsimp only;omega,h8⟩,by dsimp only;omega⟩ ?_)
   repeat' first|refine S0 ?_;conv=>whnf|refine Vo ?_|refine Vb ?_|exact T0|(refine Cho.l (Step.out ?_))|refine Vm ?_ ?_
  ·have hb:bsr p n i j=i:=by cases n<;>simp [bsr,hij]
   rw [hb] at h8;rw [h8]
   repeat' first|refine S0 ?_;conv=>whnf|refine B0 ?_
   refine Lw ord211 [] (α:=Nat × List Bd) (fun z=>[(0,.own 0),(14,i64 i),(17,i64 z.1)]) (fun z=>[(0,.arr 119 5 z.2.length fun i=>Bd.f (z.2.getD i Bd.z))]) 1 (fun z=>(i<=z.1/\z.1<=m/\z.2.length=l.length)/\dnS (m - i) l m=dnS (z.1 - i) z.2 z.1) (fun z=>z.1 - i) ?_ ?_
   ·refine Again.by (m,l) ⟨⟨by dsimp only;omega,Nat.le_refl _,rfl⟩,rfl⟩ ?_
    repeat' first|refine S0 ?_;conv=>whnf|refine Vo ?_|exact T0
   ·intro ⟨k,w⟩ ⟨⟨h9,h10,h11⟩,h12⟩;dsimp only at h9 h10 h11 h12 ⊢;by_cases hk:i<k
    ·have e:k - i=(k - 1 - i)+1:=by omega
     have hk1:((k:Int) - 1).toNat=k - 1:=by omega
     rw [e,dnS] at h12
     repeat' first|refine S0 ?_;conv=>whnf|refine Vo ?_|refine W6 ?_|refine B1 ?_
     all_goals refine Again.by (k - 1,swB w k (k - 1)) ⟨⟨⟨by dsimp only;omega,by dsimp only;omega,by dsimp only;rw [swB_len];exact h11⟩,h12⟩,by dsimp only;omega⟩ ?_
     repeat' first|refine S0 ?_;conv=>whnf|refine Vo ?_|exact T0|refine Vm ?_ ?_
     all_goals exact sw_fin (show k<w.length by omega) (show k - 1<w.length by omega) hk1 (tnc k)
    ·have e:k - i=0:=by omega
     rw [e,dnS] at h12
     repeat' first|refine S0 ?_;conv=>whnf|exact T0|refine B0 ?_|refine T2 ?_ ?_
     rw [h12];exact ⟨rfl,fun _ _=>rfl⟩
end Kx
open Go Sx Go.Proofs
namespace Kx
theorem symM_len (f a m b:Nat) (l:List Bd):(symM f a m b l).length=l.length:=(symM_same f a m b l).1
theorem rotB_len (m n i j:Nat) (l:List Bd):(rotB m n i j l).length=l.length:=(rotB_same m n i j l).1
set_option maxHeartbeats 16000000 in
theorem symm_ct:∀ (f a m b:Nat) (l:List Bd) (xa xm xb:Int) (_:xa=a) (_:xm=m) (_:xb=b) (_:a<m) (_:m<b) (_:b<=l.length) (_:l.length<=1000) (_:b - a<=f),Ct Tryz.prog 211 [bdsF l,i64 xa,i64 xm,i64 xb,.fn 128 []] fun q outs=>q = .tup []/\outs = [bdsO (symM f a m b l)]
 | 0,a,m,b,l,xa,xm,xb,ha,hx,hb,h1,h2,h3,hl,hf=>by omega
 | f+1,a,m,b,l,xa,xm,xb,ha,hx,hb,h1,h2,h3,hl,hf=>by
   have ih:=symm_ct f;by_cases c:m - a=1
   ·exact symm1_ct f a m b l xa xm xb ha hx hb h1 h2 h3 hl c
   by_cases c2:b - m=1
   ·exact symm2_ct f a m b l xa xm xb ha hx hb h1 h2 h3 hl c c2
   subst ha hx hb;rw [symM,if_neg c,if_neg c2];have hM:∃ mid,mid=(a+b) / 2:=⟨_,rfl⟩;obtain ⟨mid,hmid⟩:=hM
   have key:∃ p s0 r0,(p=fun c=>!ltW (l.getD (mid+m - 1 - c) Bd.z) (l.getD c Bd.z))/\symC l a m b=bsr p (r0 - s0) s0 r0/\(mid<m/\s0=mid+m - b/\r0=mid\/¬ mid<m/\s0=a/\r0=m):=by
    by_cases c3:mid<m
    ·refine ⟨_,mid+m - b,mid,rfl,?_,.inl ⟨c3,rfl,rfl⟩⟩;unfold symC;simp only [<-hmid,if_pos c3]
    ·refine ⟨_,a,m,rfl,?_,.inr ⟨c3,rfl,rfl⟩⟩;unfold symC;simp only [<-hmid,if_neg c3]
   obtain ⟨p,s0,r0,ep,hC,hcase⟩:=key;rw [<-hmid]
   have hsr:s0<=r0/\r0<=mid/\mid+m - s0<=b/\mid+m - r0 ≥ m:=by omega
   have hS:=bsr_in p (r0 - s0) s0 r0 hsr.1 (Nat.le_refl _);rw [<-hC] at hS;dsimp only;generalize symC l a m b=s at *;have he:∃ e,e=mid+m - s:=⟨_,rfl⟩;obtain ⟨e,he⟩:=he;rw [<-he]
   have hL1:∃ l1,l1=if s<m/\m<e then rotB m (e - s) (m - s) (e - m) l else l:=⟨_,rfl⟩
   obtain ⟨l1,hl1⟩:=hL1;rw [<-hl1]
   have hL2:∃ l2,l2=if a<s/\s<mid then symM f a s mid l1 else l1:=⟨_,rfl⟩
   obtain ⟨l2,hl2⟩:=hL2;rw [<-hl2]
   have hn1:l1.length=l.length:=by rw [hl1];split;exact rotB_len _ _ _ _ _;rfl
   have hn2:l2.length=l.length:=by rw [hl2];split;exact (symM_len _ _ _ _ _).trans hn1;exact hn1
   have hwm:=wmid a b (by omega);rw [<-hmid] at hwm;refine .det (De Tryz.func211 ord211 [39,41] ?_)
   rcases hcase with ⟨c3,e1,e2⟩ | ⟨c3,e1,e2⟩
   all_goals
    repeat' first|refine S0 ?_;conv=>whnf|refine Vo ?_|refine W6 ?_|refine B1 ?_|refine B0 ?_|(refine Wr.u64 ?_ ?_;omega)|(refine Wr.eqm hwm ?_)
    refine Lw ord211 [39,41] (α:=Nat × Nat × Nat) (fun z=>[(0,.own 0),(1,i64 a),(2,i64 m),(3,i64 b),(4,.fn 128 []),(18,i64 mid),(19,i64 ((mid:Int)+m)),(20,i64 z.2.1),(21,i64 z.2.2),(22,i64 ((mid:Int)+m - 1))]) (fun z=>[(0,.arr 119 5 l.length fun i=>Bd.f (l.getD i Bd.z))]) 1 (fun z=>(s0<=z.2.1/\z.2.1<=z.2.2/\z.2.2<=r0)/\z.2.2 - z.2.1<=z.1/\s=bsr p z.1 z.2.1 z.2.2) (fun z=>z.2.2 - z.2.1) ?_ ?_
    ·refine Again.by (r0 - s0,s0,r0) ⟨⟨Nat.le_refl _,hsr.1,Nat.le_refl _⟩,Nat.le_refl _,hC⟩ ?_
     repeat' first|refine S0 ?_;conv=>whnf|refine Vo ?_|refine Vb ?_|exact T0|(refine Cho.l (Step.out ?_))|refine Vm ?_ ?_
    ·intro ⟨n,i,j⟩ ⟨⟨h4,h5,h6⟩,h7,h8⟩;dsimp only at h4 h5 h6 h7 h8 ⊢;by_cases hij:i<j
     ·obtain ⟨n,rfl⟩:∃ n',n=n' + 1:=⟨n - 1,by omega⟩;rw [bsr,if_pos hij] at h8
      have hpd:p ((i+j) / 2) = !decide (cmpI (l.getD ((i+j) / 2) Bd.z).w (l.getD (mid+m - 1 - (i+j) / 2) Bd.z).w<0):=by rw [ep];rfl
      rw [hpd] at h8;have hmij:=wmid i j (by omega)
      have hidx:((mid:Int)+m - 1 - (((i+j) / 2:Nat):Int)).toNat=mid+m - 1 - (i+j) / 2:=by omega
      repeat' first|refine S0 ?_;conv=>whnf|refine Vo ?_|refine W6 ?_|refine B1 ?_|(refine Wr.u64 ?_ ?_;omega)|(refine Wr.eqm hmij ?_)|(refine M0 (heavier_ct _ _) ?_)|(refine Br.d (fun h=>?_) fun h=>?_)|refine Br.bnot ?_|refine K0 ?_
      all_goals simp only [tnc,hidx] at h
      all_goals first
       | (rw [if_neg (by rw [decide_eq_true h];decide)] at h8
          refine Again.by (n,i,(i+j) / 2) ⟨⟨⟨h4,by dsimp only;omega,by dsimp only;omega⟩,by dsimp only;omega,h8⟩,by dsimp only;omega⟩ ?_)
       | (rw [if_pos (by rw [decide_eq_false h];rfl)] at h8
          refine Again.by (n,(i+j) / 2+1,j) ⟨⟨⟨by dsimp only;omega,by dsimp only;omega,h6⟩,by dsimp only;omega,h8⟩,by dsimp only;omega⟩ ?_)
      repeat' first|refine S0 ?_;conv=>whnf|refine Vo ?_|refine Vb ?_|exact T0|(refine Cho.l (Step.out ?_))|refine Vm ?_ ?_
     ·have hb:bsr p n i j=i:=by cases n<;>simp [bsr,hij]
      rw [hb] at h8;subst h8
      have hei:(mid:Int)+m - s=(e:Int):=by omega
      repeat' first|refine S0 ?_;conv=>whnf|refine W6 ?_|refine B0 ?_
      refine Cw ord211 [41] (α:=Unit) (fun w=>[(0,.own 0),(1,i64 a),(2,i64 m),(3,i64 b),(4,.fn 128 []),(18,i64 mid),(20,i64 s),(24,i64 e)]) (fun w=>[(0,.arr 119 5 l1.length fun i=>Bd.f (l1.getD i Bd.z))]) 1 (fun w=>True) ?_ ?_
      ·by_cases hc:s<m/\m<e
       ·have hcr:=brot_ct l s m e _ _ ((mid:Int)+m - s) rfl rfl hei hc.1 hc.2 (by omega) hl;rw [if_pos hc] at hl1;rw [<-hl1] at hcr
        repeat' first|(refine CallOK.ioL1 (g:=246) (Step.out ?_))|refine S0 ?_;conv=>whnf|refine B1 ?_|(refine M0 hcr ?_)
        all_goals refine Again.by () trivial ?_
        repeat' first|refine S0 ?_;conv=>whnf|refine Vo ?_|exact T0|(refine Cho.l (Step.out ?_))|refine Vm ?_ ?_
       ·rw [if_neg hc] at hl1;subst hl1
        repeat' first|refine S0 ?_;conv=>whnf|refine B1 ?_|refine B0 ?_
        all_goals refine Again.by () trivial ?_
        repeat' first|refine S0 ?_;conv=>whnf|refine Vo ?_|exact T0|(refine Cho.l (Step.out ?_))|refine Vm ?_ ?_
      ·intro _ _
       repeat' first|refine S0 ?_;conv=>whnf
       refine Cw ord211 [] (α:=Unit) (fun w=>[(0,.own 0),(1,i64 a),(2,i64 m),(3,i64 b),(4,.fn 128 []),(18,i64 mid),(20,i64 s),(24,i64 e)]) (fun w=>[(0,.arr 119 5 l2.length fun i=>Bd.f (l2.getD i Bd.z))]) 1 (fun w=>True) ?_ ?_
       ·by_cases hc:a<s/\s<mid
        ·have hcr:=ih a s mid l1 _ _ _ rfl rfl rfl hc.1 hc.2 (by omega) (by omega) (by omega);rw [if_pos hc] at hl2;rw [<-hl2] at hcr
         repeat' first|(refine CallOK.ioL1 (g:=211) (Step.out ?_))|refine S0 ?_;conv=>whnf|refine B1 ?_|(refine M0 hcr ?_)
         all_goals refine Again.by () trivial ?_
         repeat' first|refine S0 ?_;conv=>whnf|refine Vo ?_|exact T0|(refine Cho.l (Step.out ?_))|refine Vm ?_ ?_
        ·rw [if_neg hc] at hl2;subst hl2
         repeat' first|refine S0 ?_;conv=>whnf|refine B0 ?_|(refine Br.d (fun h=>?_) fun h=>?_)
         all_goals refine Again.by () trivial ?_
         repeat' first|refine S0 ?_;conv=>whnf|refine Vo ?_|exact T0|(refine Cho.l (Step.out ?_))|refine Vm ?_ ?_
       ·intro _ _;by_cases hc:mid<e/\e<b
        ·have hcr:=ih mid e b l2 _ _ _ rfl rfl rfl hc.1 hc.2 (by omega) (by omega) (by omega);rw [if_pos hc]
         repeat' first|(refine CallOK.ioL1 (g:=211) (Step.out ?_))|refine S0 ?_;conv=>whnf|exact T0|exact T1|refine B1 ?_|(refine M0 hcr ?_)|refine T2 ?_ ?_
         all_goals exact ⟨rfl,fun _ _=>rfl⟩
        ·rw [if_neg hc]
         repeat' first|refine S0 ?_;conv=>whnf|exact T0|exact T1|refine B1 ?_|refine B0 ?_|(refine Br.d (fun h=>?_) fun h=>?_)|refine T2 ?_ ?_
         all_goals exact ⟨rfl,fun _ _=>rfl⟩
end Kx
open Go Sx Go.Proofs
namespace Kx
theorem insB_len (l:List Bd) (a b:Nat):(insB l a b).length=l.length:=(insB_same l a b).1
theorem stB1_end (n f a:Nat) (l:List Bd) (h:¬ a+20<=n):stB1 n f a l=(a,l):=by cases f<;>simp [stB1,h]
theorem stB2_end (n w f a:Nat) (l:List Bd) (h:¬ a+2*w<=n):stB2 n w f a l=(a,l):=by cases f<;>simp [stB2,h]
theorem stB3_end (n f w:Nat) (l:List Bd) (h:¬ w<n):stB3 n f w l=l:=by cases f<;>simp [stB3,h]
set_option maxHeartbeats 8000000 in
theorem stable_ct (l:List Bd) (hl:l.length<=1000):Ct Tryz.prog 178 [bdsF l,i64 l.length,.fn 128 []] fun q outs=>q = .tup []/\outs = [bdsO (stab l)]:=by
 unfold stab;have hn:∃ n,n=l.length:=⟨_,rfl⟩;obtain ⟨n,hn⟩:=hn;rw [<-hn];rw [<-hn] at hl;dsimp only;refine .det (De Tryz.func178 [] [] ?_)
 repeat' first|refine S0 ?_;conv=>whnf
 refine Lw [] [] (α:=Nat × Nat × List Bd) (fun z=>[(0,.own 0),(1,i64 n),(2,.fn 128 []),(6,i64 20),(7,i64 z.2.1),(8,i64 ((z.2.1:Int)+20))]) (fun z=>[(0,.arr 119 5 z.2.2.length fun i=>Bd.f (z.2.2.getD i Bd.z))]) 1 (fun z=>(z.2.1<=n/\n - z.2.1<=z.1/\z.2.2.length=n)/\stB1 n n 0 l=stB1 n z.1 z.2.1 z.2.2) (fun z=>n - z.2.1) ?_ ?_
 ·refine Again.by (n,0,l) ⟨⟨zle _,Nat.le_refl _,hn.symm⟩,rfl⟩ ?_
  repeat' first|refine S0 ?_;conv=>whnf|refine Vo ?_|refine Vb ?_|exact T0|(refine Cho.l (Step.out ?_))|refine Vm ?_ ?_
 ·intro ⟨f,a,m⟩ ⟨⟨h1,h2,h3⟩,h4⟩;dsimp only at h1 h2 h3 h4 ⊢;by_cases hc:a+20<=n
  ·obtain ⟨f,rfl⟩:∃ f',f=f' + 1:=⟨f - 1,by omega⟩;rw [stB1,if_pos hc] at h4;have hci:=ins_ct m a (a+20) (by omega) (by omega) (by omega)
   repeat' first|(refine CallOK.ioL1 (g:=210) (Step.out ?_))|refine S0 ?_;conv=>whnf|refine W6 ?_|refine B1 ?_|(refine M0 hci ?_)
   refine Again.by (f,a+20,insB m a (a+20)) ⟨⟨⟨by dsimp only;omega,by dsimp only;omega,by dsimp only;rw [insB_len];exact h3⟩,h4⟩,by dsimp only;omega⟩ ?_
   repeat' first|refine S0 ?_;conv=>whnf|refine Vo ?_|refine Vb ?_|exact T0|(refine Cho.l (Step.out ?_))|refine Vm ?_ ?_
  ·rw [stB1_end _ _ _ _ hc] at h4;rw [h4];dsimp only;have hci:=ins_ct m a n (by omega) (by omega) (by omega)
   repeat' first|(refine CallOK.ioL1 (g:=210) (Step.out ?_))|refine S0 ?_;conv=>whnf|refine B0 ?_|(refine M0 hci ?_)
   have hm:(insB m a n).length=n:=by rw [insB_len];exact h3
   generalize insB m a n=k at *;clear h4 hci;clear h1 h2 h3 hc;have hm3:=hm;clear hm;refine Lw [] [] (α:=Nat × Nat × List Bd) (fun z=>[(0,.own 0),(1,i64 n),(2,.fn 128 []),(6,i64 z.2.1)]) (fun z=>[(0,.arr 119 5 z.2.2.length fun i=>Bd.f (z.2.2.getD i Bd.z))]) 1 (fun z=>(20<=z.2.1/\n<=z.2.1+z.1/\z.2.1<=2000/\z.2.2.length=n)/\stB3 n n 20 k=stB3 n z.1 z.2.1 z.2.2) (fun z=>n - z.2.1) ?_ ?_
   ·refine Again.by (n,20,k) ⟨⟨Nat.le_refl _,by dsimp only;omega,by dsimp only;omega,hm3⟩,rfl⟩ ?_
    repeat' first|refine S0 ?_;conv=>whnf|refine Vo ?_|refine Vb ?_|exact T0|(refine Cho.l (Step.out ?_))|refine Vm ?_ ?_
   ·intro ⟨f,w,m⟩ ⟨⟨h1,h2,h2b,h3⟩,h4⟩;dsimp only at h1 h2 h2b h3 h4 ⊢;by_cases hc:w<n
    ·obtain ⟨f,rfl⟩:∃ f',f=f' + 1:=⟨f - 1,by omega⟩;rw [stB3,if_pos hc] at h4;dsimp only at h4
     repeat' first|refine S0 ?_;conv=>whnf|refine W6 ?_|refine B1 ?_
     refine Lw [] [] (α:=Nat × Nat × List Bd) (fun z=>[(0,.own 0),(1,i64 n),(2,.fn 128 []),(6,i64 w),(7,i64 z.2.1),(8,i64 ((z.2.1:Int)+2*(w:Int)))]) (fun z=>[(0,.arr 119 5 z.2.2.length fun i=>Bd.f (z.2.2.getD i Bd.z))]) 1 (fun z=>(z.2.1<=n/\n - z.2.1<=z.1/\z.2.2.length=n)/\stB2 n w n 0 m=stB2 n w z.1 z.2.1 z.2.2) (fun z=>n - z.2.1) ?_ ?_
     ·refine Again.by (n,0,m) ⟨⟨zle _,Nat.le_refl _,h3⟩,rfl⟩ ?_
      repeat' first|refine S0 ?_;conv=>whnf|refine Vo ?_|refine Vb ?_|exact T0|(refine Cho.l (Step.out ?_))|refine Vm ?_ ?_
     ·intro ⟨g,a,q⟩ ⟨⟨h5,h6,h7⟩,h8⟩;dsimp only at h5 h6 h7 h8 ⊢;by_cases hd:a+2*w<=n
      ·obtain ⟨g,rfl⟩:∃ g',g=g' + 1:=⟨g - 1,by omega⟩;rw [stB2,if_pos hd] at h8;have hcs:=symm_ct (2*w) a (a+w) (a+2*w) q a ((a:Int)+w) ((a:Int)+2*(w:Int)) rfl (by omega) (by omega) (by omega) (by omega) (by omega) (by omega) (by omega)
       repeat' first|(refine CallOK.ioL1 (g:=211) (Step.out ?_))|refine S0 ?_;conv=>whnf|refine W6 ?_|refine B1 ?_|(refine M0 hcs ?_)
       refine Again.by (g,a+2*w,symM (2*w) a (a+w) (a+2*w) q) ⟨⟨⟨by dsimp only;omega,by dsimp only;omega,by dsimp only;rw [symM_len];exact h7⟩,h8⟩,by dsimp only;omega⟩ ?_
       repeat' first|refine S0 ?_;conv=>whnf|refine Vo ?_|refine Vb ?_|exact T0|(refine Cho.l (Step.out ?_))|refine Vm ?_ ?_
      ·rw [stB2_end _ _ _ _ _ hd] at h8;rw [h8] at h4;dsimp only at h4;by_cases he:a+w<n
       ·rw [if_pos he] at h4;have hcs:=symm_ct (n - a) a (a+w) n q a ((a:Int)+w) n rfl (by omega) rfl (by omega) (by omega) (by omega) (by omega) (by omega)
        repeat' first|(refine CallOK.ioL1 (g:=211) (Step.out ?_))|refine S0 ?_;conv=>whnf|refine W6 ?_|refine B1 ?_|refine B0 ?_|(refine M0 hcs ?_)
        refine Again.by (f,w*2,symM (n - a) a (a+w) n q) ⟨⟨⟨by dsimp only;omega,by dsimp only;omega,by dsimp only;omega,by dsimp only;rw [symM_len];exact h7⟩,h4⟩,by dsimp only;omega⟩ ?_
        repeat' first|refine S0 ?_;conv=>whnf|refine Vo ?_|refine Vb ?_|exact T0|(refine Cho.l (Step.out ?_))|refine Vm ?_ ?_
       ·rw [if_neg he] at h4
        repeat' first|refine S0 ?_;conv=>whnf|refine W6 ?_|refine B0 ?_
        refine Again.by (f,w*2,q) ⟨⟨⟨by dsimp only;omega,by dsimp only;omega,by dsimp only;omega,h7⟩,h4⟩,by dsimp only;omega⟩ ?_
        repeat' first|refine S0 ?_;conv=>whnf|refine Vo ?_|refine Vb ?_|exact T0|(refine Cho.l (Step.out ?_))|refine Vm ?_ ?_
    ·rw [stB3_end _ _ _ _ hc] at h4;rw [h4]
     repeat' first|refine S0 ?_;conv=>whnf|exact T0|exact T1|refine B0 ?_|refine T2 ?_ ?_
     all_goals exact ⟨rfl,fun _ _=>rfl⟩
theorem sortStable_ct (l:List Bd) (hl:l.length<=1000):Ct Tryz.prog 127 [bdsF l,.fn 128 []] fun q outs=>q = .tup []/\outs = [bdsO (stab l)]:=by
 have hc:=stable_ct l hl;refine .det (De Tryz.func127 [] [] ?_)
 repeat' first|(refine CallOK.ioL1 (g:=178) (Step.out ?_))|refine S0 ?_;conv=>whnf|exact T0|exact T1|(refine M0 hc ?_)|refine T2 ?_ ?_
 all_goals exact ⟨rfl,fun _ _=>rfl⟩
end Kx
