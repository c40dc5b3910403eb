/-
  Lists of refs joined; closures of the greedy way.
  No condition beyond those written in each theorem.
-/
import Derived.Test.YtjommlbfjnifmaaGreatDoorKB5
import Derived.Test.YtjommlbfjnifmaaGreatDoorKA2
import Derived.Test.YtjommlbfjnifmaaGreatDoorFD
set_option linter.unusedSimpArgs false
set_option linter.unusedVariables false
set_option maxRecDepth 4000
open Go Sx Go.Proofs
namespace Kx
theorem rgrow_ct (n:Int) (h0:0<=n/\n<=1000000):Cr 179 [.nil,i64 n] (rfsO []):=by
 refine .det (De Tryz.func179 [] [] ?_)
 repeat' first|refine S0 ?_;conv=>whnf|refine Vo ?_|refine Vb ?_|exact T0|refine W6 ?_|refine B0 ?_|(refine Br.d (fun h=>?_) fun h=>?_)|refine T2 ?_ ?_
 all_goals first
  | trivial
  | exact hb h
  | with_reducible rfl
  | with_reducible exact same_rfl
  | omega
  | (exact ⟨rfl,fun i hi=>absurd hi (by simp)⟩)
theorem flat_step (L:List (List Rf)) (i:Nat) (h:i<L.length):(L.take (i+1)).flatten=(L.take i).flatten ++ L.getD i []:=by
 rw [take1 L [] i h,List.flatten_append];simp
theorem flat_le (L:List (List Rf)) (i:Nat):(L.take i).flatten.length<=L.flatten.length:=by
 conv=>rhs;rw [<-List.take_append_drop i L]
 rw [List.flatten_append,lap];omega
theorem rf_app0 (a b:List Rf) (f:Nat->List D) (hf:∀ i,f i=Rf.f (b.getD i Rf.z)) (n m:Nat) (hn:n=a.length) (hm:m=a.length+b.length):m=(a ++ b).length/\∀ i,i<(a ++ b).length->iteL (i<n) (Rf.f (a.getD i Rf.z)) (f (i - n))=Rf.f ((a ++ b).getD i Rf.z):=by
 subst hn hm;refine ⟨by simp,fun i hi=>?_⟩;rw [hf,ite_rf]
 congr 1
 split
 ·rename_i h;rw [gDe,gDe,List.getElem?_append_left h]
 ·rename_i h;rw [gDe,gDe,List.getElem?_append_right (by omega)]
theorem concat_ct (L:List (List Rf)) (hL:L.length<=100) (hF:L.flatten.length<=1000):Cr 131 [rss L] (rfs L.flatten):=by
 have hg:=fun n h=>rgrow_ct n h
 refine .det (De Tryz.func131 [] [] ?_)
 repeat' first|refine S0 ?_;conv=>whnf
 refine Lw [] [] (α:=Nat) (fun i=>[(0,rss L),(3,i64 (L.take i).flatten.length),(9,rss L),(10,i64 L.length),(11,i64 i)]) (fun i=>[]) 0 (fun i=>i<=L.length) (fun i=>L.length - i) ?_ ?_
 ·refine Again.by 0 (zle _) ?_
  repeat' first|refine S0 ?_;conv=>whnf|refine Vo ?_|exact T0|(rfl)|refine Vm ?_ ?_
 ·intro i hi;have h1:=flat_le L i;by_cases hlt:i<L.length
  ·have hst:=flat_step L i hlt;have h2:=flat_le L (i+1);rw [hst,lap] at h2
   repeat' first|refine S0 ?_;conv=>whnf|refine Vo ?_|refine W6 ?_|refine B1 ?_|refine B0 ?_|(refine Wr.i64 ?_ ?_;focus ((simp only [tnc];omega);done))
   refine Again.by (i+1) ⟨by omega,by omega⟩ ?_
   rw [hst]
   repeat' first|refine S0 ?_;conv=>whnf|refine Vo ?_|exact T0|(rw [lap];simp only [tnc];omega)|refine Vm ?_ ?_
  ·obtain rfl:i=L.length:=by omega
   rw [List.take_length] at *
   repeat' first|refine S0 ?_;conv=>whnf|refine B0 ?_|(refine M0 (rgrow_ct _ ⟨by omega,by omega⟩) ?_)|refine K0 ?_
   refine Lw [] [] (α:=Nat) (fun j=>[(0,rss L),(6,.own 0),(25,rss L),(26,i64 L.length),(27,i64 j)]) (fun j=>[(0,.arr 102 2 (L.take j).flatten.length fun q=>Rf.f ((L.take j).flatten.getD q Rf.z))]) 1 (fun j=>j<=L.length) (fun j=>L.length - j) ?_ ?_
   ·refine Again.by 0 (zle _) ?_
    repeat' first|refine S0 ?_;conv=>whnf|refine Vo ?_|exact T0|(exact ⟨rfl,fun _ _=>rfl⟩)|refine Vm ?_ ?_
   ·intro j hj;have h1:=flat_le L j;by_cases hlj:j<L.length
    ·have hst:=flat_step L j hlj;have h2:=flat_le L (j+1)
     have h3:(L.getD (j:Int).toNat []).length<=1000:=by rw [hst,lap] at h2;rw [tnc];omega
     repeat' first|refine S0 ?_;conv=>whnf|refine Vo ?_|refine Vb ?_|refine W6 ?_|refine B1 ?_
     refine Again.by (j+1) ⟨by omega,by omega⟩ ?_
     rw [hst]
     repeat' first|refine S0 ?_;conv=>whnf|refine Vo ?_|exact T0|refine Vm ?_ ?_
     all_goals exact rf_app0 _ _ _ (fun _=>rfl) _ _ rfl rfl
    ·obtain rfl:j=L.length:=by omega
     rw [List.take_length] at *
     repeat' first|refine S0 ?_;conv=>whnf|exact T0|exact T1|refine B0 ?_|refine T2 ?_ ?_
     all_goals exact ⟨rfl,fun _ _=>rfl⟩
theorem gr2i_ct (l:List Bd) (s:List Dz) (r x:Rf):Cr 130 [x.d,.ref [bds l,.mapb (mpB (apL s))],.ref (Rf.f r)] (.bool (barB s r x)):=by
 refine .det (De Tryz.func130 [] [] ?_)
 repeat' first|refine S0 ?_;conv=>whnf|exact T0|refine T2 ?_ ?_|refine K0 ?_|(refine M0 (g:=97) (bars_ct _ _ _ _) ?_)
theorem gr2_ct (l:List Bd) (s:List Dz) (m:List Rf) (x:Rf) (hml:m.length<=1000):Cr 129 [x.d,.ref [rfs m],.ref [bds l,.mapb (mpB (apL s))]] (.bool (m.any fun o=>barB s x o)):=by
 have hc:=conR_ct m 130 [.ref [bds l,.mapb (mpB (apL s))],.ref (Rf.f x)] (fun o=>barB s x o) (by omega) rfl fun y _=>(gr2i_ct l s x y).mono fun _ _ h=>h.1
 refine .det (De Tryz.func129 [] [] ?_)
 repeat' first|refine S0 ?_;conv=>whnf|exact T0|exact noSh_bool _|(refine M0 hc ?_)|refine T2 ?_ ?_|refine K0 ?_|refine Vm ?_ ?_
end Kx
open Go Sx Go.Proofs
namespace Kx
def swP (l:List (List Rf)) (i j:Nat):List (List Rf):=if i<l.length/\j<l.length then (l.set i (l.getD j [])).set j (l.getD i []) else l
theorem swP_get (l:List (List Rf)) (i j x:Nat) (hi:i<l.length) (hj:j<l.length):(swP l i j).getD x []=if x=j then l.getD i [] else if x=i then l.getD j [] else l.getD x []:=by
 unfold swP;rw [if_pos ⟨hi,hj⟩,getD_setL _ _ _ _ _ (by rw [List.length_set];exact hj)];split
 ·rfl
 ·rw [getD_setL _ _ _ _ _ hi]
theorem swP_perm (l:List (List Rf)) (i j:Nat):(swP l i j).Perm l:=by
 unfold swP;split
 ·rename_i h;have:=@List.set_set_perm _ l i j h.1 h.2;rw [gDe,gDe,List.getElem?_eq_getElem h.1,List.getElem?_eq_getElem h.2];exact this
 ·exact .refl _
theorem swP_len (l:List (List Rf)) (i j:Nat):(swP l i j).length=l.length:=(swP_perm l i j).length_eq
def hdL (l:List (List Rf)) (i:Nat):Rf:=hdR (l.getD i [])
structure InsJ (m:List (List Rf)) (j i:Nat):Prop where
 o:∀ x y,x<y->y<=i->x≠j->y≠j->ltR (hdL m x) (hdL m y)
 j:∀ y,j<y->y<=i->ltR (hdL m j) (hdL m y)
def InsO (m:List (List Rf)) (i:Nat):Prop:=∀ x y,x<y->y<i->ltR (hdL m x) (hdL m y)
theorem InsJ.start {m:List (List Rf)} {i:Nat} (h:InsO m i):InsJ m i i:=⟨fun x y hx hy h1 h2=>h x y hx (by omega),fun y h1 h2=>by omega⟩
theorem InsJ.swap {m:List (List Rf)} {j i:Nat} (h:InsJ m j i) (h0:0<j) (hji:j<=i) (hi:i<m.length) (hl:ltR (hdL m j) (hdL m (j - 1))):InsJ (swP m j (j - 1)) (j - 1) i:=by
 have hg:∀ x,hdL (swP m j (j - 1)) x=if x=j - 1 then hdL m j else if x=j then hdL m (j - 1) else hdL m x:=fun x=>by
  unfold hdL;rw [swP_get _ _ _ _ (by omega) (by omega)];split
  ·rfl
  ·split<;>rfl
 refine ⟨fun x y h1 h2 h3 h4=>?_,fun y h1 h2=>?_⟩
 ·rw [hg,hg,if_neg h3,if_neg h4];by_cases e1:x=j
  ·rw [if_pos e1,if_neg (by omega)];exact h.o _ _ (by omega) h2 (by omega) (by omega)
  ·rw [if_neg e1];by_cases e2:y=j
   ·rw [if_pos e2];exact h.o _ _ (by omega) (by omega) e1 (by omega)
   ·rw [if_neg e2];exact h.o _ _ h1 h2 e1 e2
 ·rw [hg,hg,if_pos rfl,if_neg (by omega)];by_cases e:y=j
  ·rw [if_pos e];exact hl
  ·rw [if_neg e];exact h.j y (by omega) h2
theorem InsJ.stop {m:List (List Rf)} {j i:Nat} (h:InsJ m j i) (hji:j<=i) (hl:0<j->ltR (hdL m (j - 1)) (hdL m j)):InsO m (i+1):=fun x y hx hy=>by
 by_cases e1:x=j
 ·subst e1;exact h.j y hx (by omega)
 ·by_cases e2:y=j
  ·subst e2;by_cases e3:x=y - 1
   ·rw [e3];exact hl (by omega)
   ·exact (h.o x (y - 1) (by omega) (by omega) (by omega) (by omega)).trans (hl (by omega))
  ·exact h.o x y hx (by omega) e1 e2
theorem ordO {m:List (List Rf)} (h:InsO m m.length):m.Pairwise hdLt:=by
 refine List.pairwise_iff_getElem.2 fun x y hx hy hxy=>?_
 have:=h x y hxy hy;unfold hdL at this;rw [gDe,gDe,List.getElem?_eq_getElem hx,List.getElem?_eq_getElem hy] at this;exact this
theorem ite_rfs1 (c:Prop) [Decidable c] (x y:List Rf):iteL c [rfs x] [rfs y] = [rfs (if c then x else y)]:=by
 show [D.ite c (rfs x) (rfs y)]=_
 rw [ite_rfs]
theorem swp_fin {l:List (List Rf)} {i j p q:Nat} (hi:i<l.length) (hj:j<l.length) (hp:p=j) (hq:q=i):l.length=(swP l i j).length/\∀ x,x<(swP l i j).length->iteL (x=p) [rfs (l.getD q [])] (iteL (x=q) [rfs (l.getD p [])] [rfs (l.getD x [])]) = [rfs ((swP l i j).getD x [])]:=by
 subst hp hq;refine ⟨(swP_len _ _ _).symm,fun x _=>?_⟩;rw [ite_rfs1,ite_rfs1,swP_get _ _ _ _ hi hj]
def rssF (l:List (List Rf)):D:=.foar 128 1 l.length fun i=>[rfs (l.getD i [])]
def rssO (l:List (List Rf)):D:=.ftab 128 1 l.length fun i=>[rfs (l.getD i [])]
theorem first_ct (x y:List Rf) (hx:0<x.length) (hy:0<y.length):Cr 173 [rfs x,rfs y] (i64 (cmpR (hdR x) (hdR y))):=by
 refine .det (De Tryz.func173 ord173 [] ?_)
 repeat' first|refine S0 ?_;conv=>whnf|refine Vo ?_|exact T0|refine T2 ?_ ?_|refine K1 ?_|(refine M0 (g:=45) (rcompare_ct _ _) ?_)
 rfl
theorem insp_ct (g:FuncId) (l:List (List Rf)) (hg:∀ x y:List Rf,0<x.length->0<y.length->Cr g [rfs x,rfs y] (i64 (cmpR (hdR x) (hdR y)))) (xb:Int) (hb:xb=l.length) (hl:l.length<=1000) (hne:∀ p ∈ l,p≠[]) (hd:l.Pairwise hdNe):Ct Tryz.prog 140 [rssF l,i64 0,i64 xb,.fn g []] fun q outs=>q = .tup []/\outs = [rssO (srtP l)]:=by
 subst hb;refine .det (De Tryz.func140 ord140 [] ?_)
 repeat' first|refine S0 ?_;conv=>whnf|refine W6 ?_
 refine Lw ord140 [] (α:=Nat × List (List Rf)) (fun z=>[(0,.own 0),(1,i64 0),(2,i64 l.length),(3,.fn g []),(8,i64 z.1)]) (fun z=>[(0,.arr 128 1 z.2.length fun i=>[rfs (z.2.getD i [])])]) 1 (fun z=>(1<=z.1/\z.1<=l.length+1/\z.2.Perm l)/\InsO z.2 z.1) (fun z=>l.length+1 - z.1) ?_ ?_
 ·refine Again.by (1,l) ⟨⟨Nat.le_refl _,by dsimp only;omega,.refl _⟩,fun x y h1 h2=>by dsimp only at h2;omega⟩ ?_
  repeat' first|refine S0 ?_;conv=>whnf|refine Vo ?_|exact T0|(refine Cho.l (Step.out ?_))|refine Vm ?_ ?_
 ·intro ⟨i,m⟩ ⟨⟨h1,h2,h3⟩,h4⟩;dsimp only at h1 h2 h3 h4 ⊢;have hml:=h3.length_eq;by_cases hib:i<l.length
  ·have hmne:∀ x,x<m.length->0<(m.getD x []).length:=fun x hx=>List.length_pos_iff.2 (hne _ (h3.mem_iff.1 (getD_mem hx)))
   repeat' first|refine S0 ?_;conv=>whnf|refine B1 ?_
   refine Lw ord140 [] (α:=Nat × List (List Rf)) (fun w=>[(0,.own 0),(1,i64 0),(2,i64 l.length),(3,.fn g []),(8,i64 i),(9,i64 w.1)]) (fun w=>[(0,.arr 128 1 w.2.length fun i=>[rfs (w.2.getD i [])])]) 1 (fun w=>(w.1<=i/\w.2.Perm l)/\InsJ w.2 w.1 i) (fun w=>w.1) ?_ ?_
   ·refine Again.by (i,m) ⟨⟨Nat.le_refl _,h3⟩,.start h4⟩ ?_
    repeat' first|refine S0 ?_;conv=>whnf|refine Vo ?_|exact T0|(refine Cho.l (Step.out ?_))|refine Vm ?_ ?_
   ·intro ⟨j,k⟩ ⟨⟨h5,h6⟩,h7⟩;dsimp only at h5 h6 h7 ⊢;have hkl:=h6.length_eq
    have hkne:∀ x,x<k.length->0<(k.getD x []).length:=fun x hx=>List.length_pos_iff.2 (hne _ (h6.mem_iff.1 (getD_mem hx)))
    have hkd:k.Pairwise hdNe:=(List.Perm.pairwise_iff (fun h=>hdNe_symm h) h6).2 hd;by_cases haj:0<j
    ·have hj1:((j:Int) - 1).toNat=j - 1:=by omega
     have hne2:hdL k (j - 1)≠hdL k j:=by
      unfold hdL;rw [gDe,gDe,List.getElem?_eq_getElem (show j<k.length by omega),List.getElem?_eq_getElem (show j - 1<k.length by omega)];exact List.pairwise_iff_getElem.1 hkd (j - 1) j (by omega) (by omega) (by omega)
     have hc:=hg (k.getD (j:Int).toNat []) (k.getD ((j:Int) - 1).toNat []) (hkne j (by omega)) (by rw [hj1];exact hkne _ (by omega))
     repeat' first|refine S0 ?_;conv=>whnf|refine Vo ?_|refine W6 ?_|refine B1 ?_|(refine M0 hc ?_)|(refine Br.d (fun h=>?_) fun h=>?_)|refine K0 ?_
     ·rw [hj1] at h;have hl2:ltR (hdL k j) (hdL k (j - 1)):=h
      refine Again.by (j - 1,swP k j (j - 1)) ⟨⟨⟨by dsimp only;omega,(swP_perm _ _ _).trans h6⟩,h7.swap haj h5 (by omega) hl2⟩,by dsimp only;omega⟩ ?_
      repeat' first|refine S0 ?_;conv=>whnf|refine Vo ?_|exact T0|(refine Cho.l (Step.out ?_))|refine Vm ?_ ?_
      exact swp_fin (show j<k.length by omega) (show j - 1<k.length by omega) hj1 (tnc j)
     ·rw [hj1] at h
      have hl2:ltR (hdL k (j - 1)) (hdL k j):=by
       rcases ltR_tri (hdL k (j - 1)) (hdL k j) with e | e | e
       ·exact e
       ·exact absurd e hne2
       ·exact absurd e h
      refine Again.by (i+1,k) ⟨⟨⟨by dsimp only;omega,by dsimp only;omega,h6⟩,h7.stop h5 fun _=>hl2⟩,by dsimp only;omega⟩ ?_
      repeat' first|refine S0 ?_;conv=>whnf|refine Vo ?_|exact T0|(refine Cho.l (Step.out ?_))|refine Vm ?_ ?_
    ·repeat' first|refine S0 ?_;conv=>whnf|refine W6 ?_|refine B0 ?_
     refine Again.by (i+1,k) ⟨⟨⟨by dsimp only;omega,by dsimp only;omega,h6⟩,h7.stop h5 fun e=>absurd e haj⟩,by dsimp only;omega⟩ ?_
     repeat' first|refine S0 ?_;conv=>whnf|refine Vo ?_|exact T0|(refine Cho.l (Step.out ?_))|refine Vm ?_ ?_
  ·have e:m=srtP l:=srtP_self hd (ordO fun x y hx hy=>h4 x y hx (by omega)) h3
   repeat' first|refine S0 ?_;conv=>whnf|exact T0|refine B0 ?_|refine T2 ?_ ?_
   rw [e];exact ⟨rfl,fun _ _=>rfl⟩
end Kx
open Go Sx Go.Proofs
namespace Kx
theorem bitlen_ct (x:Int) (h0:0<=x/\x<=1000):Cr 89 [u64 x] (i64 (Lib.bitLen x.toNat)) :=
 Ct.lib (vs:=[.int .u64 x]) ⟨Tryz.f89,Tryz.func89,by decide,by decide⟩ rfl (fun _=>⟨rfl,rfl⟩) fun w _=>(Kx.bits_Len x w h0.1 (by omega)).mono fun _ _ ⟨h1,h2⟩=>⟨h1,below_same h2⟩
theorem pdqp_ct (g:FuncId) (l:List (List Rf)) (hg:∀ x y:List Rf,0<x.length->0<y.length->Cr g [rfs x,rfs y] (i64 (cmpR (hdR x) (hdR y)))) (xl:Int) (xb:Int) (hb:xb=l.length) (hl:l.length<=12) (hne:∀ p ∈ l,p≠[]) (hd:l.Pairwise hdNe):Ct Tryz.prog 88 [rssF l,i64 0,i64 xb,i64 xl,.fn g []] fun q outs=>q = .tup []/\outs = [rssO (srtP l)]:=by
 subst hb;have hc:=insp_ct g l hg l.length rfl (by omega) hne hd;refine .det (De Tryz.func88 ord88 [] ?_)
 repeat' first|refine S0 ?_;conv=>whnf
 refine Lw ord88 [] (α:=Unit) (fun z=>[(0,.own 0),(1,i64 0),(2,i64 l.length),(3,i64 xl),(4,.fn g [])]) (fun z=>[(0,.arr 128 1 l.length fun i=>[rfs (l.getD i [])])]) 1 (fun z=>True) (fun z=>0) ?_ ?_
 ·refine Again.by () trivial ?_
  repeat' first|refine S0 ?_;conv=>whnf|refine Vo ?_|exact T0|(refine Cho.l (Step.out ?_))|refine Vm ?_ ?_
 ·intro _ _
  repeat' first|(refine CallOK.ioL1 (g:=140) (Step.out ?_))|refine S0 ?_;conv=>whnf|exact T0|exact T1|refine W6 ?_|refine B1 ?_|(refine M0 hc ?_)|refine T2 ?_ ?_
  all_goals exact ⟨rfl,fun _ _=>rfl⟩
theorem sortp_ct (g:FuncId) (l:List (List Rf)) (hg:∀ x y:List Rf,0<x.length->0<y.length->Cr g [rfs x,rfs y] (i64 (cmpR (hdR x) (hdR y)))) (hl:l.length<=12) (hne:∀ p ∈ l,p≠[]) (hd:l.Pairwise hdNe):Ct Tryz.prog 43 [rssF l,.fn g []] fun q outs=>q = .tup []/\outs = [rssO (srtP l)]:=by
 have hb:=bitlen_ct l.length (by omega);have hc:=pdqp_ct g l hg (Lib.bitLen (l.length:Int).toNat) l.length rfl hl hne hd;refine .det (De Tryz.func43 [] [] ?_)
 repeat' first|(refine CallOK.ioL1 (g:=88) (Step.out ?_))|refine S0 ?_;conv=>whnf|exact T0|exact T1|(refine M0 hb ?_)|(refine M0 hc ?_)|(refine Wr.u64 ?_ ?_;omega)|refine T2 ?_ ?_|refine K0 ?_
end Kx
open Go Sx Go.Proofs
namespace Kx
theorem small_ct (B:List Bd) (h:B.length<=648):Cr 75 [bds B] (.bool (decide ((refsL B).length<=8))):=by
 have hc:=refs_ct B h;generalize refsL B=R at *;refine .det (De Tryz.func75 [] [] ?_)
 repeat' first|refine S0 ?_;conv=>whnf|exact T0|(refine M0 hc ?_)|refine T2 ?_ ?_|refine K0 ?_
 all_goals exact decide_eq_decide.2 (by omega)
def flW (W:List Bd->List (List Rf)) (L:List (List Bd)):List (List Rf):=L.flatMap W
theorem flW_step (W:List Bd->List (List Rf)) (L:List (List Bd)) (i:Nat) (h:i<L.length):flW W (L.take (i+1))=flW W (L.take i) ++ W (L.getD i []):=by
 rw [take1 L [] i h,flW,List.flatMap_append];simp [flW]
theorem flW_le (W:List Bd->List (List Rf)) (L:List (List Bd)) (i:Nat):(flW W (L.take i)).length<=(flW W L).length:=by
 conv=>rhs;rw [<-List.take_append_drop i L]
 rw [flW,flW,List.flatMap_append,lap];omega
theorem rss_app2 (a b:List (List Rf)) (f:Nat->List D) (hf:∀ i,f i = [rfs (b.getD i [])]) (n m:Nat) (hn:n=a.length) (hm:m=a.length+b.length):m=(a ++ b).length/\∀ i,i<(a ++ b).length->iteL (i<n) [rfs (a.getD i [])] (f (i - n)) = [rfs ((a ++ b).getD i [])]:=by
 subst hn hm;refine ⟨by simp,fun i hi=>?_⟩;rw [hf,ite_rfs1]
 congr 2
 split
 ·rename_i h;rw [gDe,gDe,List.getElem?_append_left h]
 ·rename_i h;rw [gDe,gDe,List.getElem?_append_right (by omega)]
theorem solveG_ct (g:FuncId) (W:List Bd->List (List Rf)) (l:List Bd) (s:List Dz) (h:BdV l) (hs:decided s=0) (hsn:s.length<=4096) (hg:∀ B ∈ cbs l,Cr g [rul l s,bds B] (.tup [rss (W B),i64 0]))
 (hF:(flW W (cbs l)).length<=12) (hne:∀ p ∈ flW W (cbs l),p≠[]) (hd:(flW W (cbs l)).Pairwise hdNe) (hpl:∀ p ∈ flW W (cbs l),p.length<=24) (hcl:(cbs l).length<=24):Cr 73 [bds l,des s,.fn g []] (.tup [rss (srtP (flW W (cbs l))),i64 (valL l (srtP (flW W (cbs l)))),i64 0]):=by
 have hn:=h.n;have hw:=h.w;have hck:=ucheck_ct l s h hs hsn;have hsp:=split_ct l h;have hso:=sortp_ct 173 (flW W (cbs l)) first_ct hF hne hd;generalize cbs l=C at *;refine .det (De Tryz.func73 [] [] ?_)
 repeat' first|refine S0 ?_;conv=>whnf|refine B1 ?_|(refine M0 hck ?_)|(refine M0 hsp ?_)|refine Br.bnot ?_|refine K0 ?_
 refine Lw [] [] (α:=Nat) (fun i=>[(0,bds l),(2,.fn g []),(9,.loc 0 0),(13,.own 1),(32,bdss C),(33,i64 C.length),(34,i64 i)]) (fun i=>[(0,.var [bds l,.mapb (mpB (apL s))]),(1,.arr 128 1 (flW W (C.take i)).length fun j=>[rfs ((flW W (C.take i)).getD j [])])]) 2 (fun i=>i<=C.length) (fun i=>C.length - i) ?_ ?_
 ·refine Again.by 0 (zle _) ?_
  repeat' first|refine S0 ?_;conv=>whnf|refine Vo ?_|exact T0|(rfl)|(refine Cho.l (Step.out ?_))|refine Vm ?_ ?_
 ·intro i hi;have h1:=flW_le W C i;by_cases hlt:i<C.length
  ·have hst:=flW_step W C i hlt;have h2:=flW_le W C (i+1);rw [hst,lap] at h2;have hgi:=hg _ (getD_mem (z:=[]) hlt)
   repeat' first|refine S0 ?_;conv=>whnf|refine Vo ?_|refine Vb ?_|refine W6 ?_|refine B1 ?_|(refine M0 hgi ?_)|refine Br.bnot ?_|refine K0 ?_
   refine Again.by (i+1) ⟨by omega,by omega⟩ ?_
   rw [hst]
   repeat' first|refine S0 ?_;conv=>whnf|refine Vo ?_|exact T0|(refine Cho.l (Step.out ?_))|refine Vm ?_ ?_
   all_goals exact rss_app2 _ _ _ (fun _=>rfl) _ _ rfl rfl
  ·obtain rfl:i=C.length:=by omega
   rw [List.take_length] at *
   have hsl:(srtP (flW W C)).length<=12:=by rw [(srtP_perm _).length_eq];exact hF
   have hspl:∀ p ∈ srtP (flW W C),p.length<=100:=fun p hp=>by have:=hpl p ((srtP_perm _).mem_iff.1 hp);omega
   repeat' first|(refine CallOK.inl (f:=124) (fn:=Tryz.f124) hΓ hm Tryz.func124 [] [] (by kernel_rfl) (fun V=>?_))|(refine CallOK.ioL1 (g:=43) (Step.out ?_))|refine S0 ?_;conv=>whnf|refine Vo ?_|exact T0|exact noSh_int _ _|exact T1|refine B0 ?_|(refine M0 hso ?_)|refine T2 ?_ ?_|refine K0 ?_|(refine M0 (g:=21) (value_ct _ _ (by omega) (by assumption) (by omega) (by assumption)) ?_)|refine Vm ?_ ?_
end Kx
open Go Sx Go.Proofs
namespace Kx
theorem touch_step (p:List Rf) (l:List Bd) (i:Nat) (h:i<l.length):touch p (l.take (i+1))=if (decide ((l.getD i Bd.z).a ∈ p) || decide ((l.getD i Bd.z).b ∈ p))=true then touch p (l.take i) ++ [l.getD i Bd.z] else touch p (l.take i):=by
 unfold touch;rw [take1 l Bd.z i h,List.filter_append];split
 ·rename_i e;congr 1;exact List.filter_cons_of_pos (p:=fun b:Bd=>decide (b.a ∈ p) || decide (b.b ∈ p)) e
 ·rename_i e;have:[l.getD i Bd.z].filter (fun b:Bd=>decide (b.a ∈ p) || decide (b.b ∈ p)) = []:=List.filter_cons_of_neg (p:=fun b:Bd=>decide (b.a ∈ p) || decide (b.b ∈ p)) e;rw [this,List.append_nil]
theorem ends_ct (p:List Rf) (l:List Bd) (hp:p.length<=1000) (hl:l.length<=648):Cr 82 [rfs p,bds l] (bds (touch p l)):=by
 refine .det (De Tryz.func82 [] [] ?_)
 repeat' first|refine S0 ?_;conv=>whnf
 refine Lw [] [] (α:=Nat) (fun i=>[(0,rfs p),(5,.own 0),(8,bds l),(9,i64 l.length),(10,i64 i)]) (fun i=>[(0,.arr 119 5 (touch p (l.take i)).length fun j=>Bd.f ((touch p (l.take i)).getD j Bd.z))]) 1 (fun i=>i<=l.length) (fun i=>l.length - i) ?_ ?_
 ·refine Again.by 0 (zle _) ?_
  repeat' first|refine S0 ?_;conv=>whnf|refine Vo ?_|exact T0|(rfl)|refine Vm ?_ ?_
 ·intro i hi;have ht:(touch p (l.take i)).length<=648:=Nat.le_trans (List.length_filter_le _ _) (by rw [List.length_take];omega);by_cases hlt:i<l.length
  ·have hst:=touch_step p l i hlt
   repeat' first|refine S0 ?_;conv=>whnf|refine Vo ?_|refine Vb ?_|refine W6 ?_|refine B1 ?_|(refine Br.d (fun h=>?_) fun h=>?_)|refine Br.swap ?_|refine K0 ?_|(refine M0 (g:=41) (rcontains_ct _ _ (by omega)) ?_)
   all_goals simp only [tnc] at *
   ·rw [decide_eq_true h,Bool.true_or,if_pos rfl] at hst
    refine Again.by (i+1) ⟨by omega,by omega⟩ ?_
    rw [hst]
    repeat' first|refine S0 ?_;conv=>whnf|refine Vo ?_|exact T0|refine Vm ?_ ?_
    exact bd_app _ [l.getD i Bd.z] _ (Nat.zero_lt_succ _) (fun j hj=>by match j,hj with | 0,_=>rfl) _ _ rfl rfl
   ·rw [decide_eq_true h,Bool.or_true,if_pos rfl] at hst
    refine Again.by (i+1) ⟨by omega,by omega⟩ ?_
    rw [hst]
    repeat' first|refine S0 ?_;conv=>whnf|refine Vo ?_|exact T0|refine Vm ?_ ?_
    exact bd_app _ [l.getD i Bd.z] _ (Nat.zero_lt_succ _) (fun j hj=>by match j,hj with | 0,_=>rfl) _ _ rfl rfl
   ·rename_i h2;rw [decide_eq_false h,decide_eq_false h2,if_neg (by decide)] at hst
    refine Again.by (i+1) ⟨by omega,by omega⟩ ?_
    rw [hst]
    repeat' first|refine S0 ?_;conv=>whnf|refine Vo ?_|exact T0
  ·obtain rfl:i=l.length:=by omega
   rw [List.take_length]
   repeat' first|refine S0 ?_;conv=>whnf|exact T0|exact T1|refine B0 ?_|refine T2 ?_ ?_
   all_goals exact ⟨rfl,fun _ _=>rfl⟩
end Kx
open Go Sx Go.Proofs
namespace Kx
theorem rlist_ct (l:List Rf) (hl:l.length<=1000):Cr 87 [rfs l] (rfs l):=by
 have hc:=rclone_ct l (by omega);refine .det (De Tryz.func87 [] [] ?_)
 repeat' first|refine S0 ?_;conv=>whnf|exact T0|exact T1|(refine M0 hc ?_)|refine T2 ?_ ?_|refine K0 ?_
def prt1 (P:List (List Rf)):Nat->Nat->List D
 | 0,_=>[.nil]| i+1,j=>iteL (j=i) [rfs (P.getD i [])] (prt1 P i j)
theorem prt1_shp (P:List (List Rf)):∀ i j,i<=j->prt1 P i j = [.nil]\/∃ g1 g2:Nat->Int,prt1 P i j = [.tab 2 0 fun q=>[i64 (g1 q),i64 (g2 q)]]
 | 0,j,_=>.inl rfl
 | i+1,j,h=>by
   have hne:¬ j=i:=by omega
   rw [prt1]
   rcases prt1_shp P i j (by omega) with e | ⟨g1,g2,e⟩
   ·rw [e];refine .inr ⟨fun q=>((P.getD i []).getD q Rf.z).g,fun q=>((P.getD i []).getD q Rf.z).i,?_⟩
    show [D.tab 2 (if j=i then _ else 0) _]=_
    rw [if_neg hne];rfl
   ·rw [e];refine .inr ⟨fun q=>if j=i then ((P.getD i []).getD q Rf.z).g else g1 q,fun q=>if j=i then ((P.getD i []).getD q Rf.z).i else g2 q,?_⟩
    show [D.tab 2 (if j=i then _ else 0) _]=_
    rw [if_neg hne];rfl
theorem prt1_at (P:List (List Rf)) (j:Nat):prt1 P (j+1) j = [rfs (P.getD j [])]:=by
 rw [prt1]
 rcases prt1_shp P j j (Nat.le_refl _) with e | ⟨g1,g2,e⟩
 ·rw [e]
  show [D.tab 2 (if j=j then _ else 0) _]=_
  rw [if_pos rfl];rfl
 ·rw [e]
  show [D.tab 2 (if j=j then _ else 0) (fun q=>[i64 (if j=j then ((P.getD j []).getD q Rf.z).g else g1 q),i64 (if j=j then ((P.getD j []).getD q Rf.z).i else g2 q)])]=_
  simp only [if_pos];rfl
theorem prt1_one (P:List (List Rf)) (i:Nat):∃ d,prt1 P i i = [d]:=by
 rcases prt1_shp P i i (Nat.le_refl _) with e | ⟨g1,g2,e⟩
 ·exact ⟨_,e⟩
 ·exact ⟨_,e⟩
theorem prt1_keep (P:List (List Rf)) (j:Nat):∀ i,j<i->prt1 P i j = [rfs (P.getD j [])]
 | i+1,h=>by
   by_cases e:j=i
   ·subst e;exact prt1_at P j
   ·rw [prt1,prt1_keep P j i (by omega),ite_rfs1,if_neg e]
end Kx
open Go Sx Go.Proofs
namespace Kx
theorem same1_ct (l:List Rf) (hl:l.length<=1000):Cr 48 [rfs l,rfs l] (.bool true):=by
 refine .det (De Tryz.func48 ord48 [] ?_)
 repeat' first|refine S0 ?_;conv=>whnf|refine B1 ?_|refine Br.bnot ?_
 refine Lw ord48 [] (α:=Nat) (fun i=>[(0,rfs l),(1,rfs l),(12,i64 l.length),(13,i64 i)]) (fun i=>[]) 0 (fun i=>i<=l.length) (fun i=>l.length - i) ?_ ?_
 ·refine Again.by 0 (zle _) ?_
  repeat' first|refine S0 ?_;conv=>whnf|refine Vo ?_|exact T0
 ·intro i hi
  repeat' first|refine S0 ?_;conv=>whnf|refine Vo ?_|exact T0|refine W6 ?_|refine B1 ?_|(refine Br.d (fun h=>?_) fun h=>?_)|refine Br.bnot ?_|refine T2 ?_ ?_
  all_goals first
   | (exfalso;exact h ⟨rfl,rfl⟩)
   | (refine Again.by (i+1) ⟨by omega,by omega⟩ ?_)
  repeat' first|refine S0 ?_;conv=>whnf|refine Vo ?_|exact T0
def sol (l:List Bd) (P:List (List Rf)) (v:Int):D:=.agg [bds l,rss P,i64 v]
theorem same_ct (l:List Bd) (P:List (List Rf)) (v:Int) (hl:l.length<=648) (hP:P.length<=100) (hp:∀ p ∈ P,p.length<=100):Cr 19 [sol l P v,sol l P v] (.bool true):=by
 refine .det (De Tryz.func19 ord19 [] ?_)
 repeat' first|refine S0 ?_;conv=>whnf|refine B1 ?_|refine Br.swap ?_|refine Br.bnot ?_
 refine Lw ord19 [] (α:=Nat) (fun i=>[(2,.loc 0 0),(3,.loc 1 0),(32,i64 l.length),(33,i64 i)]) (fun i=>[(0,.var [bds l,rss P,i64 v]),(1,.var [bds l,rss P,i64 v])]) 2 (fun i=>i<=l.length) (fun i=>l.length - i) ?_ ?_
 ·refine Again.by 0 (zle _) ?_
  repeat' first|refine S0 ?_;conv=>whnf|refine Vo ?_|exact T0
 ·intro i hi;by_cases hlt:i<l.length
  ·repeat' first|refine S0 ?_;conv=>whnf|refine Vo ?_|refine W6 ?_|refine B1 ?_|refine Br.bnot ?_
   all_goals first
    | (exfalso;exact h ⟨⟨⟨⟨rfl,rfl⟩,rfl⟩,rfl⟩,rfl⟩)
    | (refine Again.by (i+1) ⟨by omega,by omega⟩ ?_)
   repeat' first|refine S0 ?_;conv=>whnf|refine Vo ?_|exact T0
  ·repeat' first|refine S0 ?_;conv=>whnf|refine B0 ?_
   refine Lw ord19 [] (α:=Nat) (fun j=>[(2,.loc 0 0),(3,.loc 1 0),(50,i64 P.length),(51,i64 j)]) (fun j=>[(0,.var [bds l,rss P,i64 v]),(1,.var [bds l,rss P,i64 v])]) 2 (fun j=>j<=P.length) (fun j=>P.length - j) ?_ ?_
   ·refine Again.by 0 (zle _) ?_
    repeat' first|refine S0 ?_;conv=>whnf|refine Vo ?_|exact T0
   ·intro j hj;by_cases hlj:j<P.length
    ·have hl2:=hp _ (getD_mem (z:=[]) hlj);have hc:=same1_ct (P.getD (j:Int).toNat []) (show (P.getD j []).length<=1000 by omega)
     repeat' first|refine S0 ?_;conv=>whnf|refine Vo ?_|refine W6 ?_|with_reducible refine Br.tt ?_|refine B1 ?_|(refine M0 hc ?_)|refine Br.bnot ?_|refine K1 ?_
     refine Again.by (j+1) ⟨by omega,by omega⟩ ?_
     repeat' first|refine S0 ?_;conv=>whnf|refine Vo ?_|exact T0
    ·repeat' first|refine S0 ?_;conv=>whnf|exact T0|refine B0 ?_|refine T2 ?_ ?_
end Kx
open Go Sx Go.Proofs
namespace Kx
def Wt.dd (w:Wt):D:=.agg [i64 w.p,ints w.a,ints w.d]
theorem fits_ct (x:Int) (h : -65536<=x/\x<=65536):Cr 118 [i64 x] (.bool true):=by
 refine .det (De Tryz.func118 [] [] ?_)
 repeat' first|refine S0 ?_;conv=>whnf|exact T0|refine B1 ?_|refine T2 ?_ ?_
 all_goals exact decide_eq_true (by omega)
theorem wcheck_ct (w:Wt) {fl:Nat} (h:w.ok fl):Cr 67 [w.dd] (i64 0):=by
 have hf:=h.f;have hp:=h.p;have ha:=h.na;have hd:=h.nd;have hc:=fits_ct w.p (by omega);refine .det (De Tryz.func67 [] [] ?_)
 repeat' first|refine S0 ?_;conv=>whnf|with_reducible refine Br.tt ?_|refine B1 ?_|refine B0 ?_|(refine M0 hc ?_)|refine Br.swap ?_|refine Br.bnot ?_|refine K0 ?_
 refine Lw [] [] (α:=Nat) (fun i=>[(1,.loc 0 0),(2,i64 0),(31,i64 w.a.length),(32,i64 i)]) (fun i=>[(0,.var [i64 w.p,ints w.a,ints w.d])]) 1 (fun i=>i<=w.a.length) (fun i=>w.a.length - i) ?_ ?_
 ·refine Again.by 0 (zle _) ?_
  repeat' first|refine S0 ?_;conv=>whnf|refine Vo ?_|exact T0
 ·intro i hi;by_cases hlt:i<w.a.length
  ·have h1:=h.a _ (getD_mem (l:=w.a) (z:=0) hlt);have h2:=h.d _ (getD_mem (l:=w.d) (z:=0) (k:=i) (by omega));have c1:=fits_ct (w.a.getD (i:Int).toNat 0) (show -65536<=w.a.getD i 0/\w.a.getD i 0<=65536 by omega);have c2:=fits_ct (w.d.getD (i:Int).toNat 0) (show -65536<=w.d.getD i 0/\w.d.getD i 0<=65536 by omega)
   repeat' first|refine S0 ?_;conv=>whnf|refine Vo ?_|refine W6 ?_|with_reducible refine Br.tt ?_|refine B1 ?_|(refine M0 c1 ?_)|(refine M0 c2 ?_)|refine Br.swap ?_|refine Br.bnot ?_|refine K0 ?_
   refine Again.by (i+1) ⟨by omega,by omega⟩ ?_
   repeat' first|refine S0 ?_;conv=>whnf|refine Vo ?_|exact T0
  ·repeat' first|refine S0 ?_;conv=>whnf|exact T0|refine B0 ?_|refine T2 ?_ ?_
theorem powers_ct:Cr 108 [] (.vec 6 (fun i=>i64 (pwr i))):=by
 refine .det (De Tryz.func108 [] [] ?_)
 repeat' first|refine S0 ?_;conv=>whnf|exact T0|refine T2 ?_ ?_|refine Vm ?_ ?_
 intro i hi
 match i,hi with
 | 0,_=>rfl| 1,_=>rfl| 2,_=>rfl| 3,_=>rfl| 4,_=>rfl| 5,_=>rfl
theorem pwr_pos (n:Nat) (h:n<=5):1<=pwr n/\pwr n<=243:=by
 match n,h with
 | 0,_=>decide| 1,_=>decide| 2,_=>decide| 3,_=>decide| 4,_=>decide| 5,_=>decide
theorem digits_ct (p:Int) (n:Nat) (hn:1<=n/\n<=5) (hp:0<=p/\p<pwr n):Cr 171 [i64 p,i64 n] (.tup [.tab 1 n (fun i=>[i64 (outC p i)]),i64 0]):=by
 have hp2:¬ pwr (n:Int).toNat<=p:=fun h=>by have h:pwr n<=p:=h;omega
 refine .det (De Tryz.func171 [] [] ?_)
 repeat' first|refine S0 ?_;conv=>whnf|refine Vo ?_|with_reducible refine Br.tt ?_|refine B0 ?_|refine Br.swap ?_|refine Br.bnot ?_|refine K0 ?_|(refine M0 (g:=59) (sfields_ct _ (by omega)) ?_)|(refine M0 (g:=108) (powers_ct) ?_)
 refine Lw [] [] (α:=Nat) (fun i=>[(0,i64 p),(1,i64 n),(6,.own 0),(20,i64 n),(21,i64 i)]) (fun i=>[(0,.arr 3 1 i fun j=>[i64 (outC p j)])]) 1 (fun i=>i<=n) (fun i=>n - i) ?_ ?_
 ·refine Again.by 0 (zle _) ?_
  repeat' first|refine S0 ?_;conv=>whnf|refine Vo ?_|exact T0
 ·intro i hi;by_cases hlt:i<n
  ·have hpi:=pwr_pos i (by omega)
   have hne:pwr (i:Int).toNat≠0:=fun h=>by have h:pwr i=0:=h;omega
   have hpn:=pwr_pos n hn.2
   have hq:0<=p.tdiv (pwr (i:Int).toNat)/\p.tdiv (pwr (i:Int).toNat)<=243:=by
    show 0<=p.tdiv (pwr i)/\p.tdiv (pwr i)<=243
    rw [Int.tdiv_eq_ediv_of_nonneg hp.1];exact ⟨Int.ediv_nonneg hp.1 (by omega),Int.le_trans (Int.ediv_le_self _ hp.1) (by omega)⟩
   repeat' first|refine S0 ?_;conv=>whnf|refine Vo ?_|refine Vb ?_|refine W6 ?_|refine B1 ?_|refine K0 ?_|(refine M0 (g:=108) (powers_ct) ?_)
   refine Again.by (i+1) ⟨by omega,by omega⟩ ?_
   repeat' first|refine S0 ?_;conv=>whnf|refine Vo ?_|exact T0|refine Vm ?_ ?_
   refine ⟨rfl,fun j hj=>?_⟩
   show [i64 (if j<i then outC p j else outC p i)] = [i64 (outC p j)]
   split
   ·rfl
   ·have:j=i:=by omega
    rw [this]
  ·obtain rfl:i=n:=by omega
   repeat' first|refine S0 ?_;conv=>whnf|exact T0|exact T1|refine B0 ?_|refine T2 ?_ ?_
   all_goals exact ⟨rfl,fun _ _=>rfl⟩
end Kx
open Go Sx Go.Proofs
namespace Kx
theorem numN_bd (f:Nat->Int) (h:∀ i,0<=f i/\f i<=2):∀ n,n<=5->0<=numN f n/\numN f n<pwr n
 | 0,_=>by simp only [numN];exact ⟨Int.le_refl _,by decide⟩
 | n+1,hn=>by
   have ih:=numN_bd f h n (by omega);have hf:=h n;have hp:=pwr_pos n (by omega)
   have e:pwr (n+1)=3*pwr n:=by
    match n,hn with
    | 0,_=>decide| 1,_=>decide| 2,_=>decide| 3,_=>decide| 4,_=>decide
   rw [numN,e];have h2:0<=f n*pwr n/\f n*pwr n<=2*pwr n:=⟨Int.mul_nonneg hf.1 (by omega),Int.mul_le_mul_of_nonneg_right hf.2 (by omega)⟩;omega
theorem number_ct (f:Nat->Int) (h:∀ i,0<=f i/\f i<=2) (n:Nat) (hn:1<=n/\n<=5):Cr 61 [.tab 1 n fun i=>[i64 (f i)]] (.tup [i64 (numN f n),i64 0]):=by
 refine .det (De Tryz.func61 [] [] ?_)
 repeat' first|refine S0 ?_;conv=>whnf|with_reducible refine Br.tt ?_|refine Br.bnot ?_|refine K0 ?_|(refine M0 (g:=59) (sfields_ct _ (by omega)) ?_)
 refine Lw [] [] (α:=Nat) (fun i=>[(4,i64 (numN f i)),(11,.tab 1 n fun i=>[i64 (f i)]),(12,i64 n),(13,i64 i)]) (fun i=>[]) 0 (fun i=>i<=n) (fun i=>n - i) ?_ ?_
 ·refine Again.by 0 (zle _) ?_
  repeat' first|refine S0 ?_;conv=>whnf|refine Vo ?_|exact T0|(rfl)|refine Vm ?_ ?_
 ·intro i hi;by_cases hlt:i<n
  ·have hf:0<=f (i:Int).toNat/\f (i:Int).toNat<=2:=h _;have hpi:=pwr_pos i (by omega);have hb:=numN_bd f h i (by omega)
   have hm:0<=f (i:Int).toNat*pwr (i:Int).toNat/\f (i:Int).toNat*pwr (i:Int).toNat<=2*243:=by
    show 0<=f i*pwr i/\f i*pwr i<=2*243
    exact ⟨Int.mul_nonneg (h i).1 (by omega),Int.mul_le_mul (h i).2 hpi.2 (by omega) (by decide)⟩
   repeat' first|refine S0 ?_;conv=>whnf|refine Vo ?_|refine W6 ?_|refine B1 ?_|refine B0 ?_|refine Br.swap ?_|refine K0 ?_|(refine M0 (g:=108) (powers_ct) ?_)
   refine Again.by (i+1) ⟨by omega,by omega⟩ ?_
   repeat' first|refine S0 ?_;conv=>whnf|refine Vo ?_|exact T0|(rfl)|refine Vm ?_ ?_
  ·obtain rfl:i=n:=by omega
   repeat' first|refine S0 ?_;conv=>whnf|exact T0|refine B0 ?_|refine T2 ?_ ?_
end Kx
open Go Sx Go.Proofs
namespace Kx
theorem digS_bd (t s:Int):0<=digS t s/\digS t s<=2:=by
 unfold digS;split
 ·omega
 ·split<;>omega
theorem numN_congr {f g:Nat->Int}:∀ n,(∀ i,i<n->f i=g i)->numN f n=numN g n
 | 0,_=>rfl
 | n+1,h=>by rw [numN,numN,h n (by omega),numN_congr n fun i hi=>h i (by omega)]
theorem pat_row (A:Nat->Int) (i j:Nat) (v:Int) (hv:v=A i):iteL (j=i) [i64 v] [i64 (if j<i then A j else 0)] = [i64 (if j<i+1 then A j else 0)]:=by
 show [i64 (if j=i then v else if j<i then A j else 0)]=_
 congr 2
 by_cases e:j=i
 ·subst e;rw [if_pos rfl,if_pos (Nat.lt_succ_self _),hv]
 ·rw [if_neg e];by_cases h:j<i
  ·rw [if_pos h,if_pos (by omega)]
  ·rw [if_neg h,if_neg (by omega)]
theorem pattern_ct (ts:List Int) (g:Nat->Int) (hn:1<=ts.length/\ts.length<=5) (ht:∀ t ∈ ts,0<=t/\t<=1000) (hg:∀ i,i<ts.length->-1<=g i/\g i<=1000):Cr 25 [ints ts,.tab 1 ts.length fun i=>[i64 (g i)]] (.tup [i64 (numN (fun i=>digS (ts.getD i 0) (g i)) ts.length),i64 0]):=by
 have hc:=number_ct (fun j=>if j<ts.length then digS (ts.getD j 0) (g j) else 0) (fun j=>by split;exact digS_bd _ _;omega) ts.length hn;rw [numN_congr (g:=fun i=>digS (ts.getD i 0) (g i)) ts.length fun i hi=>if_pos hi] at hc;refine .det (De Tryz.func25 [] [] ?_)
 repeat' first|refine S0 ?_;conv=>whnf|refine Vb ?_|with_reducible refine Br.tt ?_|refine B1 ?_|refine Br.swap ?_|refine Br.bnot ?_|refine K0 ?_|(refine M0 (g:=59) (sfields_ct _ (by omega)) ?_)
 refine Lw [] [] (α:=Nat) (fun i=>[(1,.tab 1 ts.length fun i=>[i64 (g i)]),(6,.own 0),(24,ints ts),(25,i64 ts.length),(26,i64 i)]) (fun i=>[(0,.arr 3 1 ts.length fun j=>[i64 (if j<i then digS (ts.getD j 0) (g j) else 0)])]) 1 (fun i=>i<=ts.length) (fun i=>ts.length - i) ?_ ?_
 ·refine Again.by 0 (zle _) ?_
  repeat' first|refine S0 ?_;conv=>whnf|refine Vo ?_|exact T0|(exact ⟨rfl,fun _ _=>rfl⟩)|refine Vm ?_ ?_
 ·intro i hi;by_cases hlt:i<ts.length
  ·have h1:0<=ts.getD (i:Int).toNat 0/\ts.getD (i:Int).toNat 0<=1000:=ht _ (getD_mem hlt);have h2 : -1<=g (i:Int).toNat/\g (i:Int).toNat<=1000:=hg i hlt
   repeat' first|refine S0 ?_;conv=>whnf|refine Vo ?_|refine W6 ?_|refine B1 ?_|refine B0 ?_|(refine Br.d (fun h=>?_) fun h=>?_)|refine Br.swap ?_
   all_goals
    refine Again.by (i+1) ⟨by omega,by omega⟩ ?_
   repeat' first|refine S0 ?_;conv=>whnf|refine Vo ?_|exact T0|refine Vm ?_ ?_
   ·refine ⟨rfl,fun j hj=>pat_row (fun j=>digS (ts.getD j 0) (g j)) i j 0 ?_⟩;have h:g i<0:=h;unfold digS;rw [if_pos h]
   ·rename_i h3;have h3:¬ g i<0:=h3;have h:g i<ts.getD i 0:=h;refine ⟨rfl,fun j hj=>pat_row (fun j=>digS (ts.getD j 0) (g j)) i j 1 ?_⟩;unfold digS;rw [if_neg h3,if_pos h]
   ·rename_i h3;have h3:¬ g i<0:=h3;have h:¬ g i<ts.getD i 0:=h;refine ⟨rfl,fun j hj=>pat_row (fun j=>digS (ts.getD j 0) (g j)) i j 2 ?_⟩;unfold digS;rw [if_neg h3,if_neg h]
  ·obtain rfl:i=ts.length:=by omega
   repeat' first|refine S0 ?_;conv=>whnf|exact T0|refine B0 ?_|(refine M0 hc ?_)|(exact ⟨trivial,trivial,trivial⟩)|refine T2 ?_ ?_|refine K0 ?_|refine Vm ?_ ?_
end Kx
