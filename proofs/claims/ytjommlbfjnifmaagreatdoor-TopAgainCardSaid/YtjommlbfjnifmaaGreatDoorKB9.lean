/-
  Candidates of sheets.
  No condition beyond those written in each theorem.
-/
import Derived.Test.YtjommlbfjnifmaaGreatDoorKB8
import Derived.Lib.TrailingZeros
import Derived.Lib.LaidTab
import Derived.Lib.LaidU8
set_option linter.unusedSimpArgs false
set_option linter.unusedVariables false
set_option maxRecDepth 4000
open Go Sx Go.Proofs
namespace Kx
theorem patS_bd (ts:List Int) (x y:Sn) (hn:ts.length<=5):0<=patS ts x y/\patS ts x y<pwr ts.length :=
 numN_bd _ (fun i=>digS_bd _ _) _ hn
theorem compared_ct (w:Wt) (ts:List Int) {fl:Nat} (hw:w.ok fl) (hts:ts.length=fl) (ht:∀ t ∈ ts,0<=t/\t<=1000) (a b:Rf) (x y:Sn) (hx:SnV fl 0 ⟨x.id,x.v,x.b,[],[]⟩) (hy:SnV fl 0 ⟨y.id,y.v,y.b,[],[]⟩) :
 Cr 34 [w.dd,ints ts,a.d,b.d,x.d,y.d] (.agg (Cd.f ⟨a,b,patS ts x y,scN w (patS ts x y) fl⟩)):=by
 have hf:=hw.f;have hxb:=hx.b;have hyb:=hy.b;dsimp only at hxb hyb;have hc:=comparef_ct ⟨x.id,x.v,x.b⟩ ⟨y.id,y.v,y.b⟩ ts.length (by omega) (by omega) (by dsimp only;omega) (by dsimp only;omega) hx.f hy.f;have hp:=pattern_ct ts (fun i=>dcE (x.b.getD i Bs.z) (y.b.getD i Bs.z)) (by omega) ht (fun i hi=>few_bd (hx.f _ (getD_mem (by dsimp only;omega))) (hy.f _ (getD_mem (by dsimp only;omega))));have hpd:numN (fun i=>digS (ts.getD i 0) (dcE (x.b.getD i Bs.z) (y.b.getD i Bs.z))) ts.length=patS ts x y:=rfl;have hpb:=patS_bd ts x y (by omega);rw [hts] at hpb;have hs:=score_ct w hw (patS ts x y) hpb;rw [hpd] at hp;generalize patS ts x y=p at *;generalize scN w p fl=v at *;refine .det (De Tryz.func34 [] [] ?_)
 repeat' first|refine S0 ?_;conv=>whnf|exact T0|(refine M0 hc ?_)|(refine M0 hp ?_)|(refine M0 hs ?_)|refine T2 ?_ ?_|refine K0 ?_
structure Mk (L:List (List Sn)) (w:Wt) (ts:List Int) (ky:Nat) (F1:Nat->List Cd) (F2:Nat->Nat->List Cd) (F3:Nat->Nat->Nat->List Cd) (F4:Nat->Nat->Nat->Nat->List Cd):Prop where
 z1:F1 0 = []
 z2:∀ r,F2 r 0=F1 r
 z3:∀ r i,F3 r i (r+1)=F2 r i
 z4:∀ r i s,F4 r i s 0=F3 r i s
 s4:∀ r i s k,r<s->s<3->i<(L.getD r []).length->k<(L.getD s []).length->F4 r i s (k+1)=if agN ((L.getD r []).getD i Sn.z) ((L.getD s []).getD k Sn.z) ky=true then F4 r i s k ++ [cmpd w ts r s ((L.getD r []).getD i Sn.z) ((L.getD s []).getD k Sn.z)] else F4 r i s k
 s3:∀ r i s,r<s->s<3->i<(L.getD r []).length->F3 r i (s+1)=F4 r i s (L.getD s []).length
 s2:∀ r i,r<3->i<(L.getD r []).length->F2 r (i+1)=F3 r i 3
 s1:∀ r,r<3->F1 (r+1)=F2 r (L.getD r []).length
 b:∀ r i s k,r<s->s<3->i<(L.getD r []).length->k<=(L.getD s []).length->(F4 r i s k).length<=200
 e:F1 3=mkA L w ts ky
theorem getD_z {l:List Sn} {k:Nat} (h:k<l.length):l.take (k+1)=l.take k ++ [l.getD k Sn.z]:=take1 l Sn.z k h
theorem mk_of (L:List (List Sn)) (w:Wt) (ts:List Int) (ky:Nat) (h3:L.length=3) (hl:∀ l ∈ L,l.length<=4):∃ F1 F2 F3 F4,Mk L w ts ky F1 F2 F3 F4:=by
 have hlr:∀ r,r<3->(L.getD r []).length<=4:=fun r hr=>hl _ (getD_in (by omega))
 refine ⟨fun r=>mkR L w ts ky r,fun r i=>mkR L w ts ky r ++ mkX L w ts ky r ((L.getD r []).take i),fun r i s=>mkR L w ts ky r ++ mkX L w ts ky r ((L.getD r []).take i) ++ mkS L w ts ky r ((L.getD r []).getD i Sn.z) (s - (r+1)),
  fun r i s k=>mkR L w ts ky r ++ mkX L w ts ky r ((L.getD r []).take i) ++ mkS L w ts ky r ((L.getD r []).getD i Sn.z) (s - (r+1)) ++ mkY w ts ky r s ((L.getD r []).getD i Sn.z) ((L.getD s []).take k),rfl,fun r=>?_,fun r i=>?_,fun r i s=>?_,fun r i s k hr hs hi hk=>?_,fun r i s hr hs hi=>?_,fun r i hr hi=>?_,fun r hr=>?_,fun r i s k hr hs hi hk=>?_,?_⟩
 ·simp [mkX]
 ·simp [mkS]
 ·simp [mkY]
 ·rw [getD_z hk,mkY,mkY,List.filterMap_append];by_cases e:agN ((L.getD r []).getD i Sn.z) ((L.getD s []).getD k Sn.z) ky=true
  ·have h2:mkP w ts ky r s ((L.getD r []).getD i Sn.z) ((L.getD s []).getD k Sn.z)=some (cmpd w ts r s ((L.getD r []).getD i Sn.z) ((L.getD s []).getD k Sn.z)):=by unfold mkP;rw [if_pos e]
   rw [List.filterMap_cons,h2,if_pos e];simp only [List.append_assoc,List.filterMap_nil]
  ·have h2:mkP w ts ky r s ((L.getD r []).getD i Sn.z) ((L.getD s []).getD k Sn.z)=none:=by unfold mkP;rw [if_neg e]
   rw [List.filterMap_cons,h2,if_neg e,List.filterMap_nil,List.append_nil]
 ·obtain ⟨j,rfl⟩:∃ j,s=r+1+j:=⟨s - (r+1),by omega⟩;rw [List.take_length,show r+1+j - (r+1)=j by omega,show r+1+j+1 - (r+1)=j+1 by omega,mkS,mkS,List.range_succ,List.flatMap_append,List.flatMap_cons,List.flatMap_nil,List.append_nil,List.append_assoc,List.append_assoc,List.append_assoc]
 ·rw [getD_z hi,mkX,mkX,List.flatMap_append,List.flatMap_cons,List.flatMap_nil,List.append_nil,List.append_assoc];rw [show L.length - (r+1)=3 - (r+1) by omega]
 ·rw [List.take_length,mkR,mkR,List.range_succ,List.flatMap_append,List.flatMap_cons,List.flatMap_nil,List.append_nil]
 ·have h1:=mkR_len (w:=w) (ts:=ts) (ky:=ky) hl h3 (n:=r) (by omega);have h2:=mkX_len (w:=w) (ts:=ts) (ky:=ky) (xs:=(L.getD r []).take i) hl h3 (r:=r) (by omega);have h4:=mkS_len (w:=w) (ts:=ts) (ky:=ky) (x:=(L.getD r []).getD i Sn.z) hl (r:=r) (n:=s - (r+1)) (by omega);have h5:=mkY_len (w:=w) (ts:=ts) (ky:=ky) (r:=r) (s:=s) (x:=(L.getD r []).getD i Sn.z) (ys:=(L.getD s []).take k) (by have:=hlr s hs;rw [List.length_take];omega);have h6:=hlr r (by omega)
  have h7:((L.getD r []).take i).length<=4:=by rw [List.length_take];omega
  rw [lap,lap,lap];omega
 ·show mkR L w ts ky 3=mkA L w ts ky
  rw [mkA,h3]
set_option maxHeartbeats 4000000 in
theorem mkcand_ct (w:Wt) (ts:List Int) (fl ky:Nat) (L:List (List Sn)) (hw:w.ok fl) (hts:ts.length=fl) (ht:∀ t ∈ ts,0<=t/\t<=1000) (hky:1<=ky/\ky<=2) (hL:Sh3 fl ky L):Cr 14 [w.dd,ints ts,i64 ky,shs L] (.tup [cds (mkA L w ts ky),i64 0]):=by
 have h3:=hL.len;have hck:=mkcheck_ct w ts fl ky L hw hts ht hky hL;have hna:=hw.na
 obtain ⟨F1,F2,F3,F4,H⟩:=mk_of L w ts ky h3 fun l hl=>(hL.l l hl).n
 rw [<-H.e];refine .det (De Tryz.func14 [] [] ?_)
 repeat' first|refine S0 ?_;conv=>whnf|refine B1 ?_|(refine M0 hck ?_)|refine Br.bnot ?_|refine K0 ?_
 refine Lw [] [] (α:=Nat) (fun r=>[(1,ints ts),(3,shs L),(4,.loc 0 0),(11,.own 1),(28,shs L),(29,i64 L.length),(30,i64 r)]) (fun r=>[(0,.var [i64 w.p,ints w.a,ints w.d]),(1,.arr 109 6 (F1 r).length fun q=>Cd.f ((F1 r).getD q Cd.z))]) 2 (fun r=>r<=L.length) (fun r=>L.length - r) ?_ ?_
 ·refine Again.by 0 (zle _) ?_
  rw [H.z1]
  repeat' first|refine S0 ?_;conv=>whnf|refine Vo ?_|exact T0|refine Vm ?_ ?_
 ·intro r hr;by_cases hlt:r<L.length
  ·have hSr:=hL.l _ (getD_mem (z:=[]) hlt);have hRn:=hSr.n
   repeat' first|refine S0 ?_;conv=>whnf|refine Vo ?_|refine B1 ?_
   refine Lw [] [] (α:=Nat) (fun i=>[(1,ints ts),(3,shs L),(4,.loc 0 0),(11,.own 1),(12,i64 r),(28,shs L),(29,i64 L.length),(30,i64 r),(35,sns (L.getD r [])),(36,i64 (L.getD r []).length),(37,i64 i)]) (fun i=>[(0,.var [i64 w.p,ints w.a,ints w.d]),(1,.arr 109 6 (F2 r i).length fun q=>Cd.f ((F2 r i).getD q Cd.z))]) 2 (fun i=>i<=(L.getD r []).length) (fun i=>(L.getD r []).length - i) ?_ ?_
   ·refine Again.by 0 (zle _) ?_
    rw [H.z2]
    repeat' first|refine S0 ?_;conv=>whnf|refine Vo ?_|exact T0|(rfl)|(exact ⟨rfl,fun _ _=>rfl⟩)|refine Vm ?_ ?_
   ·intro i hi;by_cases hil:i<(L.getD r []).length
    ·have hsx:=hSr.s _ (getD_mem (z:=Sn.z) hil)
     repeat' first|refine S0 ?_;conv=>whnf|refine Vo ?_|refine W6 ?_|refine B1 ?_
     refine Lw [] [] (α:=Nat) (fun s=>[(1,ints ts),(3,shs L),(4,.loc 0 0),(11,.own 1),(12,i64 r),(15,.loc 2 0),(16,.loc 3 0),(17,i64 s),(28,shs L),(29,i64 L.length),(30,i64 r),(35,sns (L.getD r [])),(36,i64 (L.getD r []).length),(37,i64 i)]) (fun s=>[(0,.var [i64 w.p,ints w.a,ints w.d]),(1,.arr 109 6 (F3 r i s).length fun q=>Cd.f ((F3 r i s).getD q Cd.z)),(2,.var (Sn.f ((L.getD r []).getD i Sn.z))),(3,.var [i64 r,i64 ((L.getD r []).getD i Sn.z).id])]) 4 (fun s=>r<s/\s<=3) (fun s=>3 - s) ?_ ?_
     ·refine Again.by (r+1) (by omega) ?_
      rw [H.z3]
      repeat' first|refine S0 ?_;conv=>whnf|refine Vo ?_|exact T0|(rfl)|(exact ⟨rfl,fun _ _=>rfl⟩)|refine Vm ?_ ?_
     ·intro s ⟨hs1,hs2⟩;by_cases hsl:s<3
      ·have hSs:=hL.l _ (getD_mem (z:=[]) (show s<L.length by omega));have hSn:=hSs.n
       repeat' first|refine S0 ?_;conv=>whnf|refine Vo ?_|refine B1 ?_
       refine Lw [] [] (α:=Nat) (fun k=>[(1,ints ts),(3,shs L),(4,.loc 0 0),(11,.own 1),(12,i64 r),(15,.loc 2 0),(16,.loc 3 0),(17,i64 s),(28,shs L),(29,i64 L.length),(30,i64 r),(35,sns (L.getD r [])),(36,i64 (L.getD r []).length),(37,i64 i),(57,sns (L.getD s [])),(58,i64 (L.getD s []).length),(59,i64 k)]) (fun k=>[(0,.var [i64 w.p,ints w.a,ints w.d]),(1,.arr 109 6 (F4 r i s k).length fun q=>Cd.f ((F4 r i s k).getD q Cd.z)),(2,.var (Sn.f ((L.getD r []).getD i Sn.z))),(3,.var [i64 r,i64 ((L.getD r []).getD i Sn.z).id])]) 4 (fun k=>k<=(L.getD s []).length) (fun k=>(L.getD s []).length - k) ?_ ?_
       ·refine Again.by 0 (zle _) ?_
        rw [H.z4]
        repeat' first|refine S0 ?_;conv=>whnf|refine Vo ?_|exact T0|(rfl)|(exact ⟨rfl,fun _ _=>rfl⟩)|refine Vm ?_ ?_
       ·intro k hk;by_cases hkl:k<(L.getD s []).length
        ·have hsy:=hSs.s _ (getD_mem (z:=Sn.z) hkl);have hs4:=H.s4 r i s k hs1 hsl hil hkl;have hb4:=H.b r i s k hs1 hsl hil (by omega);have hxy:∃ X Y:Sn,X=(L.getD r []).getD i Sn.z/\Y=(L.getD s []).getD k Sn.z:=⟨_,_,rfl,rfl⟩;obtain ⟨X,Y,hX,hY⟩:=hxy;rw [<-hX] at hsx;rw [<-hY] at hsy;have hag:=agree_ct X Y ky (by omega) (by have:=hsx.h;omega) (by have:=hsx.t;omega) (by have:=hsy.h;omega) (by have:=hsy.t;omega);have hcp:=compared_ct w ts hw hts ht ⟨r,X.id⟩ ⟨s,Y.id⟩ X Y ⟨hsx.i,hsx.v,hsx.b,hsx.f,rfl,rfl⟩ ⟨hsy.i,hsy.v,hsy.b,hsy.f,rfl,rfl⟩;rw [<-hna] at hcp;rw [<-hX,<-hY] at hs4;by_cases hA:agN X Y ky=true
         ·rw [if_pos hA] at hs4;rw [hA] at hag;rw [hX,hY] at hag hcp hs4
          repeat' first|refine S0 ?_;conv=>whnf|refine Vo ?_|refine Vb ?_|refine W6 ?_|with_reducible refine Br.tt ?_|refine B1 ?_|refine B0 ?_|(refine M0 hag ?_)|(refine M0 hcp ?_)|refine Br.bnot ?_|refine K0 ?_
          refine Again.by (k+1) ⟨by omega,by omega⟩ ?_
          rw [hs4]
          repeat' first|refine S0 ?_;conv=>whnf|refine Vo ?_|exact T0|refine Vm ?_ ?_
          all_goals exact app1 Cd.f Cd.z ite_cd _ (cmpd w ts r s ((L.getD r []).getD i Sn.z) ((L.getD s []).getD k Sn.z))
         ·rw [if_neg hA] at hs4
          have hA2:agN X Y ky=false:=by simpa using hA
          rw [hA2] at hag;rw [hX,hY] at hag
          repeat' first|refine S0 ?_;conv=>whnf|refine Vo ?_|refine W6 ?_|with_reducible refine Br.ff ?_|refine B1 ?_|(refine M0 hag ?_)|refine Br.bnot ?_|refine K0 ?_
          refine Again.by (k+1) ⟨by omega,by omega⟩ ?_
          rw [hs4]
          repeat' first|refine S0 ?_;conv=>whnf|refine Vo ?_|exact T0
        ·obtain rfl:k=(L.getD s []).length:=by omega
         have hs3:=H.s3 r i s hs1 hsl hil
         repeat' first|refine S0 ?_;conv=>whnf|refine W6 ?_|refine B0 ?_
         refine Again.by (s+1) ⟨⟨by omega,by omega⟩,by omega⟩ ?_
         rw [hs3]
         repeat' first|refine S0 ?_;conv=>whnf|refine Vo ?_|exact T0
      ·obtain rfl:s=3:=by omega
       have hs2:=H.s2 r i (by omega) hil
       repeat' first|refine S0 ?_;conv=>whnf|refine W6 ?_|refine B0 ?_
       refine Again.by (i+1) ⟨by omega,by omega⟩ ?_
       rw [hs2]
       repeat' first|refine S0 ?_;conv=>whnf|refine Vo ?_|exact T0
    ·obtain rfl:i=(L.getD r []).length:=by omega
     have hs1:=H.s1 r (by omega)
     repeat' first|refine S0 ?_;conv=>whnf|refine W6 ?_|refine B0 ?_
     refine Again.by (r+1) ⟨by omega,by omega⟩ ?_
     rw [hs1]
     repeat' first|refine S0 ?_;conv=>whnf|refine Vo ?_|exact T0
  ·obtain rfl:r=3:=by omega
   repeat' first|refine S0 ?_;conv=>whnf|exact T0|exact T1|refine B0 ?_|refine T2 ?_ ?_
   all_goals exact ⟨rfl,fun _ _=>rfl⟩
end Kx
open Go Sx Go.Proofs
namespace Kx
theorem UpD.dev {l:List Dz} (h:UpD 3 0 0 0 l):DeV l:=⟨h.p,h.q,by have:=h.n;omega⟩
theorem DeV.filter {l:List Dz} (h:DeV l) (f:Dz->Bool):DeV (l.filter f):=⟨h.p.filter _,fun c hc=>h.q c (List.mem_filter.1 hc).1,Nat.le_trans (List.length_filter_le _ _) h.n⟩
theorem th_ok {t:Th} (h:1<=t.hi/\t.hi<=60/\t.lo<=t.hi/\t.hi - 59<=t.lo):chkT t=0:=by
 unfold chkT;rw [if_neg (by omega)]
theorem fault_zero {t:Th} {l:List Cd} {s:List Dz} (h1:chkT t=0) (h2:CdV l) (h3:DeV s):fault t l s=0:=by
 unfold fault;rw [if_neg (not_not_intro h1),if_neg (not_not_intro h2.ok)];exact h3.ok
def bdsL (w:Wt) (ts:List Int) (ky:Nat) (t:Th) (L:List (List Sn)) (ds:List Dz):List Bd:=bnd t (standL L ds) (mkA L w ts ky)
section
variable {w:Wt} {ts:List Int} {fl ky:Nat} {t:Th} {L:List (List Sn)} {ds:List Dz}
theorem bdsL_ok (hw:w.ok fl) (hL:Sh3 fl ky L) (h:1<=t.hi/\t.hi<=60/\t.lo<=t.hi/\t.hi - 59<=t.lo):BdV (bdsL w ts ky t L ds):=bnd_ok (mkA_ok hL hw) (by omega)
theorem full_ct (hw:w.ok fl) (hts:ts.length=fl) (ht:∀ t ∈ ts,0<=t/\t<=1000) (hky:1<=ky/\ky<=2) (hL:Sh3 fl ky L) (hth:1<=t.hi/\t.hi<=60/\t.lo<=t.hi/\t.hi - 59<=t.lo) (hd:DeV ds) :
 Cr 18 [w.dd,ints ts,i64 ky,t.d,shs L,des ds] (.tup [sol (bdsL w ts ky t L ds) (solveL stab (bdsL w ts ky t L ds) (standL L ds)) (valL (bdsL w ts ky t L ds) (solveL stab (bdsL w ts ky t L ds) (standL L ds))),i64 0]):=by
 have h3:=hL.len;have hmk:=mkcand_ct w ts fl ky L hw hts ht hky hL;have hg:=gchk_ct t;rw [th_ok hth] at hg;have hdc:=decided_ct ds;rw [hd.ok] at hdc;have hdn:=hd.n;have hst:=standing_ct L ds (hL.ok (by omega)) (by omega);have hS:DeV (standL L ds):=hd.filter _;have hSn:=hS.n;have hb:=bonds_ok t (mkA L w ts ky) (standL L ds) (fault_zero (th_ok hth) (mkA_ok hL hw).v hS);have ho:=of_ct (bdsL w ts ky t L ds) (standL L ds) (bdsL_ok hw hL hth) hS.ok hSn;have e:bnd t (standL L ds) (mkA L w ts ky)=bdsL w ts ky t L ds:=rfl;rw [e] at hb;generalize solveL stab (bdsL w ts ky t L ds) (standL L ds)=P at *;generalize bdsL w ts ky t L ds=B at *;generalize valL B P=v at *;generalize standL L ds=S at *;generalize mkA L w ts ky=C at *;refine .det (De Tryz.func18 [] [] ?_)
 repeat' first|refine S0 ?_;conv=>whnf|exact T0|exact T1|refine B1 ?_|(refine M0 hmk ?_)|(refine M0 hg ?_)|(refine M0 hdc ?_)|(refine M0 hst ?_)|(refine M0 hb ?_)|(refine M0 ho ?_)|refine Br.bnot ?_|refine T2 ?_ ?_|refine K0 ?_
end
end Kx
open Go Sx Go.Proofs
namespace Kx
theorem set_sh {fl ky:Nat} {L:List (List Sn)} {l:List Sn} {i:Nat} (hL:Sh3 fl ky L) (hl:ShV fl ky l):Sh3 fl ky (L.set i l):=by
 refine ⟨by rw [List.length_set];exact hL.n,fun x hx=>?_⟩
 rcases List.mem_or_eq_of_mem_set hx with h | h
 ·exact hL.l x h
 ·rw [h];exact hl
theorem weights_ct (d:Dk) (n:Int) (hf:1<=n/\n<=3):Ct Tryz.prog 8 [d.b,i64 n] fun r outs=>∃ (w:Wt) (d' : Dk),w.ok n.toNat/\r=w.dd/\outs = [Dk.b d']:=by
 obtain ⟨fl,rfl⟩:∃ fl:Nat,n=fl:=⟨n.toNat,by omega⟩;rw [tnc];refine .some2 (De Tryz.func8 ord8 [5] ?_)
 repeat' first|refine S0 ?_;conv=>whnf|(refine CallOK.io1 (g:=28) (Step.out ?_))|(refine Met.by (g:=28) (range_ct _ _ _ (by omega)) ?_;rintro q outs ⟨x,d,hx,rfl,rfl⟩)
 have hx0:=hx;clear hx;refine Lw ord8 [5] (α:=Dk × List Int × List Int × Nat) (fun z=>[(0,.loc 0 0),(1,i64 fl),(4,.loc 1 0),(5,.loc 2 0),(6,i64 z.2.2.2)]) (fun z=>[(0,.var z.1.ls),(1,.var [i64 0,.nil,.nil]),(2,.var [i64 x,.own 3,.own 4]),(3,.arr 3 1 z.2.1.length fun j=>[i64 (z.2.1.getD j 0)]),(4,.arr 3 1 z.2.2.1.length fun j=>[i64 (z.2.2.1.getD j 0)])]) 5 (fun z=>z.2.2.2<=fl/\z.2.1.length=z.2.2.2/\z.2.2.1.length=z.2.2.2/\(∀ x ∈ z.2.1,-3<=x/\x<=60)/\(∀ x ∈ z.2.2.1,-60<=x/\x<=3)) (fun z=>fl - z.2.2.2) ?_ ?_
 ·refine Again.by (d,[],[],0) ⟨zle _,rfl,rfl,nofun,nofun⟩ ?_
  repeat' first|refine S0 ?_;conv=>whnf|refine Vo ?_|refine Vb ?_|exact T0|(rfl)|refine Vm ?_ ?_
 ·intro ⟨d,la,ld,i⟩ ⟨h1,h2,h3,h4,h5⟩;dsimp only at h1 h2 h3 h4 h5 ⊢;by_cases hlt:i<fl
  ·repeat' first|refine S0 ?_;conv=>whnf|refine B1 ?_
   refine Cw ord8 [] (α:=Dk × Int × Int) (fun q=>[(0,.loc 0 0),(1,i64 fl),(4,.loc 1 0),(5,.loc 2 0),(6,i64 i)]) (fun q=>[(0,.var q.1.ls),(1,.var [i64 0,.nil,.nil]),(2,.var [i64 x,.own 3,.own 4]),(3,.arr 3 1 (la ++ [q.2.1]).length fun j=>[i64 ((la ++ [q.2.1]).getD j 0)]),(4,.arr 3 1 (ld ++ [q.2.2]).length fun j=>[i64 ((ld ++ [q.2.2]).getD j 0)])]) 5 (fun q=>(-3<=q.2.1/\q.2.1<=60)/\(-60<=q.2.2/\q.2.2<=3)) ?_ ?_
   ·repeat' first|refine S0 ?_;conv=>whnf|refine Vb ?_|exact T0|refine T2 ?_ ?_|(refine CallOK.io1 (g:=28) (Step.out ?_))|(refine Met.by (g:=28) (range_ct _ _ _ (by omega)) ?_;rintro q outs ⟨x,d,hx,rfl,rfl⟩)
    all_goals
     rename_i x1 d1 hx1
     refine Again.by (d,x1,x) ⟨hx1,hx⟩ ?_
     repeat' first|refine S0 ?_;conv=>whnf|refine Vo ?_|exact T0|refine Vm ?_ ?_
    all_goals exact app_one (fun x:Int=>[i64 x]) 0 (fun _ _=>rfl) _ _ rfl
   ·intro ⟨d,a,b⟩ ⟨ha,hb⟩;dsimp only at ha hb ⊢
    repeat' first|refine S0 ?_;conv=>whnf|refine W6 ?_
    refine Again.by (d,la ++ [a],ld ++ [b],i+1) ⟨⟨by dsimp only;omega,by simp;omega,by simp;omega,fun y hy=>?_,fun y hy=>?_⟩,by dsimp only;omega⟩ ?_
    ·rcases List.mem_append.1 hy with hy | hy
     ·exact h4 y hy
     ·rw [List.mem_singleton.1 hy];exact ha
    ·rcases List.mem_append.1 hy with hy | hy
     ·exact h5 y hy
     ·rw [List.mem_singleton.1 hy];exact hb
    repeat' first|refine S0 ?_;conv=>whnf|refine Vo ?_|refine Vb ?_|exact T0
  ·obtain rfl:i=fl:=by omega
   repeat' first|refine S0 ?_;conv=>whnf|refine B0 ?_
   refine Lf2.by ⟨x,la,ld⟩ d ⟨by omega,hx0,h2,h3,h4,h5⟩ ?_
   repeat' first|refine S0 ?_;conv=>whnf|exact T0|exact T1|refine T2 ?_ ?_
end Kx
open Go Sx Go.Proofs
namespace Kx
theorem set_get (L:List (List Sn)) (l:List Sn) (i:Nat) (hi:i<L.length):L.length=(L.set i l).length/\∀ j,j<(L.set i l).length->iteL (j=i) [sns l] [sns (L.getD j [])] = [sns ((L.set i l).getD j [])]:=by
 refine ⟨by rw [List.length_set],fun j hj=>?_⟩;rw [ite_sns1]
 congr 2
 by_cases e:j=i
 ·subst e;rw [if_pos rfl,gDe,List.getElem?_set_self (by omega)];rfl
 ·rw [if_neg e,gDe,gDe,List.getElem?_set_ne (Ne.symm e)]
set_option maxHeartbeats 4000000 in
theorem again_law (y0:List Int):Cr 3 [ints y0] (.bool true):=by
 refine .det (De Tryz.func3 ord3 [13,14] ?_)
 repeat' first|refine S0 ?_;conv=>whnf|exact T0|refine W6 ?_|with_reducible refine Br.tt ?_|(refine M0 awake_ct ?_)|(refine Br.d (fun h=>?_) fun h=>?_)|refine Br.swap ?_|refine Br.bnot ?_|refine T2 ?_ ?_|(refine CallOK.io1 (g:=7) (Step.out ?_))|(refine CallOK.io1 (g:=8) (Step.out ?_))|(refine CallOK.io1 (g:=9) (Step.out ?_))|refine K0 ?_|(refine M0 (g:=5) (few_ct _) ?_)|(refine Met.by (g:=6) (new_ct _ (by assumption)) ?_;rintro q outs ⟨d,hd,rfl,rfl⟩)|(refine Met.by (g:=7) (next_ct _ _) ?_;rintro q outs ⟨x,d,hx,rfl,rfl⟩)|(refine Met.by (g:=8) (weights_ct _ _ (by omega)) ?_;rintro q outs ⟨w,d,hw,rfl,rfl⟩)|(refine Met.by (g:=9) (thresholds_ct _) ?_;rintro q outs ⟨t,d,ht,rfl,rfl⟩)
 rename_i x1 d1 hx1 d2 d3;obtain ⟨fl,hfl⟩:∃ fl:Nat,fl=(1+x1).toNat:=⟨_,rfl⟩;obtain ⟨ky,hky⟩:∃ ky:Nat,ky=(1+x).toNat:=⟨_,rfl⟩;rw [<-hfl] at hw;have hth:=ht
 have hf3:1<=fl/\fl<=3:=by omega
 have hk2:1<=ky/\ky<=2:=by omega
 refine Lw ord3 [] (α:=Dk × List Int × Nat) (fun z=>[(3,.loc 0 0),(4,i64 fl),(5,i64 ky),(6,.loc 1 0),(7,.loc 2 0),(8,.own 3),(9,i64 z.2.2)]) (fun z=>[(0,.var z.1.ls),(1,.var [i64 w.p,ints w.a,ints w.d]),(2,.var [i64 t.lo,i64 t.hi]),(3,.arr 3 1 z.2.1.length fun j=>[i64 (z.2.1.getD j 0)])]) 4 (fun z=>z.2.2<=fl/\z.2.1.length=z.2.2/\(∀ t ∈ z.2.1,0<=t/\t<=1000)) (fun z=>fl - z.2.2) ?_ ?_
 ·refine Again.by (d,[],0) ⟨zle _,rfl,nofun⟩ ?_
  repeat' first|refine S0 ?_;conv=>whnf|refine Vo ?_|refine Vb ?_|exact T0|(rfl)|refine Vm ?_ ?_
 ·intro ⟨d,ts,i⟩ ⟨hi,hn,hts⟩;dsimp only at hi hn hts ⊢;clear hx hx1 hky hfl ht;by_cases hlt:i<fl
  ·repeat' first|refine S0 ?_;conv=>whnf|refine Vb ?_|refine W6 ?_|refine B1 ?_|(refine CallOK.io1 (g:=7) (Step.out ?_))|(refine Met.by (g:=7) (next_ct _ _) ?_;rintro q outs ⟨x,d,hx,rfl,rfl⟩)
   refine Again.by (d,ts ++ [500+x],i+1) ⟨⟨by dsimp only;omega,by simp;omega,fun y hy=>?_⟩,by dsimp only;omega⟩ ?_
   ·rcases List.mem_append.1 hy with hy | hy
    ·exact hts y hy
    ·rw [List.mem_singleton.1 hy];omega
   repeat' first|refine S0 ?_;conv=>whnf|refine Vo ?_|refine Vb ?_|exact T0|refine Vm ?_ ?_
   all_goals exact app_one (fun x:Int=>[i64 x]) 0 (fun _ _=>rfl) _ _ rfl
  ·obtain rfl:i=fl:=by omega
   repeat' first|refine S0 ?_;conv=>whnf|refine B0 ?_|(refine CallOK.io1 (g:=10) (Step.out ?_))|(refine Met.by (g:=10) (sheets_ct _ _ _ _ _ (by omega) (by omega) (by omega) (by omega)) ?_;rintro q outs ⟨L,d,hL,rfl,rfl⟩)|refine Vm ?_ ?_
   ·have h3:=Sh3.len (fl:=i) (ky:=ky) hL;rw [h3];decide
   ·have h3:=Sh3.len (fl:=i) (ky:=ky) hL;have hL1:Sh3 i ky L:=hL;refine Cw ord3 [14] (α:=Dk × List (List Sn)) (fun q=>[(3,.loc 0 0),(4,i64 i),(5,i64 ky),(6,.loc 1 0),(7,.loc 2 0),(8,ints ts),(10,shs L),(11,shs q.2)]) (fun q=>[(0,.var q.1.ls),(1,.var [i64 w.p,ints w.a,ints w.d]),(2,.var [i64 t.lo,i64 t.hi])]) 3 (fun q=>Sh3 i ky q.2) ?_ ?_
    ·repeat' first|refine S0 ?_;conv=>whnf|refine Vo ?_|(refine CallOK.io1 (g:=7) (Step.out ?_))|(refine CallOK.io1 (g:=11) (Step.out ?_))|(refine Met.by (g:=7) (next_ct _ _) ?_;rintro q outs ⟨x,d,hx,rfl,rfl⟩)|(refine Met.by (g:=11) (sheet_ct _ _ _ _ (by omega) (by omega) (by omega)) ?_;rintro q outs ⟨l,d,hl,rfl,rfl⟩)
     refine Again.by (d,L.set x.toNat l) (set_sh hL1 hl) ?_
     repeat' first|refine S0 ?_;conv=>whnf|refine Vo ?_|exact T0|refine Vm ?_ ?_
     all_goals exact set_get L l x.toNat (by omega)
    ·intro ⟨d,L2⟩ hL2;dsimp only at hL2 ⊢;have h32:=hL2.len
     repeat' first|refine S0 ?_;conv=>whnf
     refine Cw ord3 [] (α:=List Dz) (fun ds=>[(5,i64 ky),(6,.loc 0 0),(7,.loc 1 0),(8,ints ts),(10,shs L),(11,shs L2),(12,des ds)]) (fun ds=>[(0,.var [i64 w.p,ints w.a,ints w.d]),(1,.var [i64 t.lo,i64 t.hi])]) 2 (fun ds=>DeV ds) ?_ ?_
     ·repeat' first|refine S0 ?_;conv=>whnf|(refine CallOK.io1 (g:=12) (Step.out ?_))|(refine Met.by (g:=12) (decs_ct _ _ _ _ (by omega) (by omega)) ?_;rintro q outs ⟨l,d,hl,rfl,rfl⟩)
      refine Again.by l hl.dev ?_
      repeat' first|refine S0 ?_;conv=>whnf|refine Vo ?_|exact T0
     ·intro ds hds;have hdn:=hds.n;have hsa:=standing_ct L ds (hL1.ok (by omega)) (by omega);have hsb:=standing_ct L2 ds (hL2.ok (by omega)) (by omega);have hma:=mkcand_ct w ts i ky L hw hn hts hk2 hL1;have hmb:=mkcand_ct w ts i ky L2 hw hn hts hk2 hL2;have hS1:DeV (standL L ds):=hds.filter _;have hS2:DeV (standL L2 ds):=hds.filter _;have hn1:=hS1.n;have hn2:=hS2.n;have hba:=bonds_ok t (mkA L w ts ky) (standL L ds) (fault_zero (th_ok hth) (mkA_ok hL1 hw).v hS1);have hbb:=bonds_ok t (mkA L2 w ts ky) (standL L2 ds) (fault_zero (th_ok hth) (mkA_ok hL2 hw).v hS2);have hX:BdV (bdsL w ts ky t L ds):=bdsL_ok hw hL1 hth;have hY:BdV (bdsL w ts ky t L2 ds):=bdsL_ok hw hL2 hth;have hfu:=full_ct hw hn hts hk2 hL2 hth hds;rw [show bnd t (standL L ds) (mkA L w ts ky)=bdsL w ts ky t L ds from rfl] at hba;rw [show bnd t (standL L2 ds) (mkA L2 w ts ky)=bdsL w ts ky t L2 ds from rfl] at hbb;generalize bdsL w ts ky t L ds=X at *;generalize bdsL w ts ky t L2 ds=Y at *;generalize standL L ds=S1 at *;generalize standL L2 ds=S2 at *;generalize mkA L w ts ky=CA at *;generalize mkA L2 w ts ky=CB at *;have hoa:=of_ct X S1 hX hS1.ok hn1;have hob:=of_ct Y S2 hY hS2.ok hn2;have hag:=again_ct X Y S1 S2 hX hY hS1.ok hn1 hS2.ok hn2;have hP:=solve_good (sb:=stab) stab_in Y S2;have hPl:=Pers_len hP;have hyl:=hY.len
      have hYp:∀ p ∈ solveL stab Y S2,p.length<=100:=fun p hp=>by
       have:=nodup_len (hP.per p hp).asc.nodup (hP.sub p hp);omega
      have hva:=uvalid_ct Y S2 (solveL stab Y S2) hY hS2.ok hn2 hP (by omega);have hvl:=value_ct Y (solveL stab Y S2) hY.n hY.w (by omega) hYp;have hsm:=same_ct Y (solveL stab Y S2) (valL Y (solveL stab Y S2)) hY.n (by omega) hYp;generalize solveL stab Y S2=Z at *;generalize solveL stab X S1=P at *;generalize valL Y Z=vz at *;generalize valL X P=vp at *;clear hP hPl hyl hYp hX hY hS1 hS2 hn1 hn2 hds hdn h3 h32 hL hL1 hL2 hw hn hts hth hf3 hk2 hi
      repeat' first|refine S0 ?_;conv=>whnf|exact T0|refine B1 ?_|(refine M0 hsa ?_)|(refine M0 hsb ?_)|(refine M0 hma ?_)|(refine M0 hmb ?_)|(refine M0 hba ?_)|(refine M0 hbb ?_)|(refine M0 hoa ?_)|(refine M0 hob ?_)|(refine Met.by hag ?_;rintro q outs ⟨n,-,rfl,rfl⟩)|(refine Met.by hfu ?_;rintro q outs ⟨rfl,rfl⟩)|(refine M0 hsm ?_)|(refine M0 hva ?_)|(refine M0 hvl ?_)|(refine Bm (fun h=>?_) fun h=>?_)|refine T2 ?_ ?_|refine K0 ?_|refine K1 ?_
      exact decide_eq_true rfl
end Kx
open Go Sx Go.Proofs Go.Lib
namespace Kx
theorem laid_one {P:Program} {l:List (String × DataW Unit)} {w:World} (h:laidMet P l w) {n:String} {k:IntKind} {T:List Nat} {N g:Nat} {t e:TypeId}
 (hg:P.globalNamed n=some g) (hty:(P.globals[g]?).map (·.type)=some t) (ht:P.underlying t=some (.array N e)) (he:P.underlying e=some (.int k)) (hce:P.cellsOf e=1) (hct:P.cellsOf t=N)
 (hm:(n,tabData k (T.map fun k:Nat=>(k:Int))) ∈ l):∀ g',P.globalNamed n=some g'->g' < w.heap.size/\¬ False/\∃ ty p,w.heap[g']? = some (.cells (T.map fun j:Nat=>Value.int k j).toArray ty p):=by
 intro g' hg';obtain rfl:g=g':=Option.some.inj (hg.symm.trans hg');obtain ⟨g1,t1,cs,fuel,p,h1,h2,h3,h4⟩:=Go.Lib.laidMet.reads h hm;obtain rfl:=Option.some.inj (hg.symm.trans h1);obtain rfl:=Option.some.inj (hty.symm.trans h2);have hcs:=cells_of_tab ht he hce hct h4;unfold World.var? at h3;rw [hg] at h3;simp only [Option.bind_some] at h3
 cases ho:w.heap[g]? with
 | none=>rw [ho] at h3;cases h3
 | some o =>
   rw [ho] at h3
   cases o<;>simp only [reduceCtorEq,Option.some.injEq] at h3
   rename_i c el fr;subst h3;refine ⟨(Array.getElem?_eq_some_iff.1 ho).1,id,el,fr,?_⟩
   have:∀ a:Array Value,a.toList=(T.map fun k:Nat=>(k:Int)).map (fun z=>Value.int k z)->a=(T.map fun j:Nat=>Value.int k j).toArray:=fun a ha=>by
    apply Array.toList_inj.1;rw [ha,List.map_map];rfl
   rw [this c hcs]
def pw10:List Nat:=[1,10,100,1000,10000,100000,1000000,10000000,100000000,1000000000,10000000000,100000000000,1000000000000,10000000000000,100000000000000,1000000000000000,10000000000000000,100000000000000000,1000000000000000000,10000000000000000000]
theorem laid_of {P:Program} {l:List (String × DataW Unit)} {w:World} (h:laidMet P l w) {g g2:Nat} {t e t2 e2:TypeId}
 (hg:P.globalNamed "math/bits.deBruijn64tab" = some g) (hty:(P.globals[g]?).map (·.type)=some t) (ht:P.underlying t=some (.array 64 e)) (he:P.underlying e=some (.int .u8)) (hce:P.cellsOf e=1) (hct:P.cellsOf t=64)
 (hm:("math/bits.deBruijn64tab",tabData .u8 (Lib.deBruijn64tab.map fun k:Nat=>(k:Int))) ∈ l)
 (hg2:P.globalNamed "internal/strconv.uint64pow10" = some g2) (hty2:(P.globals[g2]?).map (·.type)=some t2) (ht2:P.underlying t2=some (.array 20 e2)) (he2:P.underlying e2=some (.int .u64)) (hce2:P.cellsOf e2=1) (hct2:P.cellsOf t2=20)
 (hm2:("internal/strconv.uint64pow10",tabData .u64 (pw10.map fun k:Nat=>(k:Int))) ∈ l):Sx.Laid P w.heap fun _=>False:=by
 intro x hx
 rcases List.mem_cons.1 hx with rfl | hx
 ·exact laid_one (T:=Lib.deBruijn64tab) h hg hty ht he hce hct hm
 ·obtain rfl:=List.mem_singleton.1 hx;exact laid_one (T:=pw10) h hg2 hty2 ht2 he2 hce2 hct2 hm2
end Kx
