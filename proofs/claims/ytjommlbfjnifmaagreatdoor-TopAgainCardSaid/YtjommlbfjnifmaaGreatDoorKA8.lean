/-
  That the law is awake.
  No condition beyond those written in each theorem.
-/
import Derived.Test.YtjommlbfjnifmaaGreatDoorKA7
import Derived.Test.YtjommlbfjnifmaaGreatDoorKA6
import Derived.Test.YtjommlbfjnifmaaGreatDoorKA5
import Derived.Test.YtjommlbfjnifmaaGreatDoorFD
set_option linter.unusedSimpArgs false
set_option linter.unusedVariables false
set_option maxRecDepth 4000
open Go Sx Go.Proofs
namespace Kx
def Pm.z:Pm:=⟨0,0,0⟩
structure WOk (w:Int × List Int):Prop where
 L:LenOk w.1
 n:w.2.length=(w.1 / 64).toNat
 u:∀ i,i<w.2.length->U64 (w.2.getD i 0)
def MOk (w:Int × List Int):Prop:=w=(0,[])\/WOk w
def AllU (w:List Int):Prop:=∀ x ∈ w,U64 x
theorem setBit_u (w:List Int) (i:Int) (h:AllU w):AllU (setBit w i):=fun x hx=>by
 rcases List.mem_or_eq_of_mem_set hx with hx | rfl
 ·exact h x hx
 ·exact bit_in _ _ _
theorem setBits_u:∀ (l w:List Int),AllU w->AllU (l.foldl setBit w)
 | [],_,h=>h| i :: l,w,h=>setBits_u l _ (setBit_u w i h)
theorem encs_u (p:Pm) (k:Int × Int):∀ (gs:List Str) (w:List Int),AllU w->AllU (gs.foldl (encG p k) w)
 | [],_,h=>h| g :: gs,w,h=>encs_u p k gs _ (setBits_u _ _ h)
theorem fld_ok (s:Sc) (p:Pm) (hp:p.ok) (k:Int × Int) (r:Rc) (i:Nat):MOk (fldW s p k r i):=by
 unfold fldW;split
 ·exact .inl rfl
 ·refine .inr ⟨hp.L,encW_len _ _ _,fun i hi=>?_⟩
  refine encs_u p _ _ _ (fun x hx=>?_) _ (by
   dsimp only at hi ⊢;rw [gDe,List.getElem?_eq_getElem hi]
   exact List.getElem_mem hi)
  rw [(List.mem_replicate.1 hx).2];exact ⟨Int.le_refl _,by decide⟩
def s0:Sc:=⟨[([103,105,118,101,110],1),([98,105,114,116,104],2)],⟨[[100,114]],[],[]⟩⟩
def P0:List Pm:=[⟨64,2,-1⟩,⟨128,3,0⟩]
def raw1:List Str:=[[68,114,46,32,65,110,110],[50,48,48,48,45,48,50,45,48,51]]
def raw2:List Str:=[[65,78,78],[48,51,46,48,50,46,50,48,48,48]]
def v0:List Str:=[[97,110,110],[50,48,48,48,48,50,48,51]]
theorem mk1:mkL s0 raw1 2=v0:=by decide +kernel
theorem mk2:mkL s0 raw2 2=v0:=by decide +kernel
theorem ne1:∀ i<2,nE s0 i (raw1.getD i [])=0:=by decide +kernel
theorem ne2:∀ i<2,nE s0 i (raw2.getD i [])=0:=by decide +kernel
def w0 (i:Nat):Int × List Int:=fldW s0 (P0.getD i Pm.z) (5,0) ⟨1,1,v0⟩ i
set_option maxRecDepth 100000 in
theorem dc0:dice ⟨(w0 0).1,(w0 0).2⟩ ⟨(w0 0).1,(w0 0).2⟩=1000:=by decide +kernel
set_option maxRecDepth 100000 in
theorem dc1:dice ⟨(w0 1).1,(w0 1).2⟩ ⟨(w0 1).1,(w0 1).2⟩=1000:=by decide +kernel
theorem s0_ok:s0.ok:=by
 refine ⟨by decide,by decide,by decide +kernel,fun i j h1 h2=>?_,by decide,⟨by decide,by decide,by decide⟩,by decide +kernel⟩;have h3:j<2:=h2
 obtain ⟨rfl,rfl⟩:i=0/\j=1:=by omega
 decide
theorem v0_ok (a b:Int) (h:1<=a/\a<=90/\1<=b/\b<=90):(Rc.mk a b v0).ok s0:=by
 refine ⟨h.1,h.2.1,h.2.2.1,h.2.2.2,rfl,fun i hi=>?_⟩;have h2:i<2:=hi
 have e:∀ i<2,nB s0 i (v0.getD i [])=true/\(v0.getD i []).length<=64/\(v0.getD i []).all isAn=true:=by decide +kernel
 obtain ⟨e1,e2,e3⟩:=e i h2;exact ⟨e1,e2,fun c hc=>.inl (List.all_eq_true.1 e3 c hc)⟩
theorem P0_ok:PsOk s0.f.length fun i=>P0.getD i Pm.z:=by
 have e:∀ i,i<s0.f.length->i=0\/i=1:=fun i hi=>by have:i<2:=hi;omega
 refine ⟨fun i hi=>?_,fun i hi=>?_,fun i hi=>?_⟩<;>rcases e i hi with rfl | rfl
 ·exact ⟨.inl rfl,by decide,by decide,by decide,by decide⟩
 ·exact ⟨.inr (.inl rfl),by decide,by decide,by decide,by decide⟩
 all_goals decide
theorem enc0_ct (a b:Int) (h:1<=a/\a<=90/\1<=b/\b<=90):Cr 23 [s0.d,.tab 3 2 fun i=>(P0.getD i Pm.z).l,.agg [u64 5,u64 0],(Rc.mk a b v0).d] (.tup [.agg [i64 a,i64 b,.tab 2 2 fun i=>bitL (w0 i)],i64 0]) :=
 erecord_ct s0 s0_ok (fun i=>P0.getD i Pm.z) P0_ok (5,0) ⟨a,b,v0⟩ (v0_ok a b h) w0 fun i hi=>fieldR_ct set_ok s0 s0_ok _ P0_ok (5,0) ⟨a,b,v0⟩ (v0_ok a b h) i hi
theorem cmpW_ct (W:Nat->Int × List Int) (hW:∀ i,i<2->(Bs.mk (W i).1 (W i).2).ok) (hd:∀ i,i<2->dice ⟨(W i).1,(W i).2⟩ ⟨(W i).1,(W i).2⟩=1000) (a b c d:Int):Cr 24 [.agg [i64 a,i64 b,.tab 2 2 fun i=>bitL (W i)],.agg [i64 c,i64 d,.tab 2 2 fun i=>bitL (W i)]] (.tup [.tab 1 2 fun _=>[i64 1000],i64 0]):=by
 obtain ⟨f,hf⟩:∃ f:List Bs,f = [⟨(W 0).1,(W 0).2⟩,⟨(W 1).1,(W 1).2⟩]:=⟨_,rfl⟩
 have hn:f.length=2:=by rw [hf];rfl
 have hg:∀ i,i<2->f.getD i Bs.z=⟨(W i).1,(W i).2⟩:=fun i hi=>by
  rw [hf]
  obtain rfl | rfl:i=0\/i=1:=by omega
  all_goals rfl
 have hok:∀ i,i<f.length->(f.getD i Bs.z).ok:=fun i hi=>by rw [hg i (by omega)];exact hW i (by omega)
 have h1:=compare_ct' ⟨a,b,f⟩ ⟨c,d,f⟩ (by rw [hn];decide) (by rw [hn];decide) rfl hok hok fun _ _=>rfl
 have hb:∀ i,i<f.length->bitL (W i)=(f.getD i Bs.z).l:=fun i hi=>by rw [hg i (by omega)];rfl
 have h2:=h1.arg (args:=[.agg [i64 a,i64 b,.tab 2 2 fun i=>bitL (W i)],.agg [i64 c,i64 d,.tab 2 2 fun i=>bitL (W i)]]) ⟨rfl,⟨rfl,rfl,⟨hn.symm,fun i hi=>hb i hi⟩,trivial⟩,⟨rfl,rfl,⟨hn.symm,fun i hi=>hb i hi⟩,trivial⟩,trivial⟩;refine Ct.res (h2.mono ?_)
 rintro r outs ⟨rfl,rfl⟩
 have hd1:∀ i,i<2->(dices f f f.length).getD i 0=1000:=fun i hi=>by
  rw [hn]
  have:(dices f f 2).getD i 0=dice (f.getD i Bs.z) (f.getD i Bs.z):=by simp [dices,List.getD,hi]
  rw [this,hg i hi];exact hd i hi
 refine ⟨_,_,⟨rfl,rfl⟩,⟨⟨?_,fun i hi=>?_⟩,rfl,trivial⟩,trivial⟩
 ·rw [dices_len];exact hn
 ·show [D.int IntKind.i64 ((dices f f f.length).getD i 0)]=_
  rw [hd1 i hi]
theorem raw_at (s:Sc) {g:FuncId} {R:D->List D->Prop} (a b:Int) (raws:List Str) (f:Nat->List D) (hf:∀ i,i<2->f i = [.str (raws.getD i [])]) (hn:raws.length=2) (H:Ct Tryz.prog g [s.d,i64 a,i64 b,strs raws] R):Ct Tryz.prog g [s.d,i64 a,i64 b,.tab 1 2 f] R :=
 H.arg ⟨rfl,⟨⟨rfl,fun _ _=>rfl⟩,⟨rfl,fun _ _=>rfl⟩,⟨rfl,fun _ _=>rfl⟩,⟨rfl,fun _ _=>rfl⟩,trivial⟩,rfl,rfl,⟨hn.symm,fun i hi=>hf i (by omega)⟩,trivial⟩
theorem awake_ct:Cr 4 [] (.bool true):=by
 have g1:=make_ct s0 s0_ok 1 1 (by decide) raw1 rfl (by decide) ne1;have g2:=make_ct s0 s0_ok 8 2 (by decide) raw2 rfl (by decide) ne2;rw [show s0.f.length=2 from rfl] at g1 g2;rw [mk1] at g1;rw [mk2] at g2
 replace g1:=fun f hf=>raw_at s0 1 1 raw1 f hf rfl g1
 replace g2:=fun f hf=>raw_at s0 8 2 raw2 f hf rfl g2
 have g3:=enc0_ct 1 1 (by decide);have g4:=enc0_ct 8 2 (by decide)
 have hW:∀ i,i<2->(Bs.mk (w0 i).1 (w0 i).2).ok:=fun i hi=>by
  rcases fld_ok s0 (P0.getD i Pm.z) (P0_ok.p i hi) (5,0) ⟨1,1,v0⟩ i with h | h
  ·exfalso
   have:∀ i<2,(w0 i).2≠[]:=by decide +kernel
   exact this i hi (by unfold w0;rw [h])
  ·exact ⟨h.L,h.n⟩
 have g5:=cmpW_ct w0 hW (fun i hi=>by
  obtain rfl | rfl:i=0\/i=1:=by omega
  ·exact dc0
  ·exact dc1) 1 1 8 2
 have g6:=scheck_ct s0 s0_ok;generalize w0=W at *;refine .det (De Tryz.func4 [] [2] ?_)
 repeat' first|refine S0 ?_;conv=>whnf
 refine Cw [] [] (α:=Unit) (fun u=>[(1,.loc 0 0),(2,.tab 3 2 fun i=>(P0.getD i Pm.z).l)]) (fun u=>[(0,.var s0.l)]) 1 (fun u=>True) ?_ ?_
 ·repeat' first|refine S0 ?_;conv=>whnf
  refine Again.by () trivial ?_
  repeat' first|refine S0 ?_;conv=>whnf|exact T0|(exact ⟨rfl,fun i hi=>match i,hi with | 0,_=>rfl | 1,_=>rfl⟩)|(exact ⟨rfl,fun i hi=>match i,hi with | 0,_=>rfl⟩)|refine Vm ?_ ?_
 ·intro _ _
  repeat' first|refine S0 ?_;conv=>whnf|refine Vo ?_|exact T0|refine B1 ?_|(refine CallOK.ctF (g:=22) (Step.out ?_))|(refine M0 (g1 _ fun i hi=>match i,hi with | 0,_=>rfl | 1,_=>rfl) ?_)|(refine M0 (g2 _ fun i hi=>match i,hi with | 0,_=>rfl | 1,_=>rfl) ?_)|(refine M0 g3 ?_)|(refine M0 g4 ?_)|(refine M0 g5 ?_)|(refine M0 (pattern2_ct.arg ⟨rfl,⟨rfl,fun i hi=>match i,hi with | 0,_=>rfl | 1,_=>rfl⟩,⟨rfl,fun _ _=>rfl⟩,trivial⟩) ?_)|(refine M0 g6 ?_)|refine T2 ?_ ?_|refine K0 ?_|refine Vm ?_ ?_
  exact ⟨trivial,trivial,trivial⟩
end Kx
namespace Kx
open Go Sx
theorem foldl_keep {α β:Type} (Q:β->Prop) (f:β->α->β):∀ (l:List α) (s:β),(∀ s,∀ x ∈ l,Q s->Q (f s x))->Q s->Q (l.foldl f s)
 | [],_,_,h=>h| a :: l,s,hf,h=>foldl_keep Q f l (f s a) (fun s x hx=>hf s x (by simp [hx])) (hf s a (by simp) h)
theorem fnd_app (k:List Int) (p:List Int × Int):∀ (l:List (List Int × Int)) (i:Nat),fnd (l ++ [p]) k i=match fnd l k i with | some q=>some q | none=>if p.1=k then some (i+l.length,p.2) else none
 | [],i=>by
   by_cases h:p.1=k<;>simp [fnd,h]
 | x :: l,i=>by
   simp only [List.cons_append,fnd];split
   ·rfl
   ·rw [fnd_app k p l (i+1)];simp only [List.length_cons];rw [show i+1+l.length=i+(l.length+1) by omega]
theorem fnd_mod {k k' : List Int} {v:Int}:∀ (l:List (List Int × Int)) (i:Nat) (p:Nat × Int),fnd l k i=some p->fnd (l.modify (p.1 - i) fun _=>(k,v)) k' i=if k=k' then some (p.1,v) else fnd l k' i
 | [],_,_,h=>by simp [fnd] at h
 | x :: l,i,p,h=>by
   simp only [fnd] at h;split at h
   ·rename_i e;have e:=of_decide_eq_true e;cases h;by_cases hk:k=k'
    ·subst hk;simp [fnd]
    ·simp only [Nat.sub_self,List.modify_zero_cons,fnd,hk,e,decide_false,if_false]
   ·rename_i e;obtain ⟨h1,_⟩:=fnd_at l k (i+1) p h;have ih:=fnd_mod (k':=k') (v:=v) l (i+1) p h;rw [show p.1 - i=(p.1 - (i+1))+1 by omega];simp only [List.modify_succ_cons,fnd];split
    ·rename_i e2;have e2:=of_decide_eq_true e2
     have hk:k≠k':=fun hk=>by subst hk;rw [decide_eq_true e2] at e;cases e
     rw [if_neg hk]
    ·exact ih
theorem mget_put (m:List (List Int × Int)) (k k' : List Int) (v:Int):mget (mput m k v) k' = if k=k' then some v else mget m k':=by
 unfold mput
 cases h:fnd m k 0 with
 | none =>
   rw [mget,fnd_app];by_cases e:k=k'
   ·subst e;rw [h];simp
   ·simp only [e,if_false]
    cases hq:fnd m k' 0<;>simp [mget,hq]
 | some p =>
   have:=fnd_mod (k':=k') (v:=v) m 0 p h;rw [Nat.sub_zero] at this;rw [mget]
   show Option.map _ (fnd (m.modify p.1 fun _=>(k,v)) k' 0)=_
   rw [this];by_cases e:k=k'
   ·simp [e]
   ·simp [e,mget]
theorem mput_wf {m:List (List Int × Int)} {k:List Int} {v:Int} {n:Nat} (h:∀ x ∈ m,x.1.length=n) (hk:k.length=n):∀ x ∈ mput m k v,x.1.length=n:=by
 unfold mput;split
 ·intro x hx
  rcases List.mem_append.1 hx with hx | hx
  ·exact h x hx
  ·rw [List.mem_singleton.1 hx];exact hk
 ·rename_i p hp;intro x hx;obtain ⟨i,hi⟩:=List.mem_iff_getElem?.1 hx;rw [List.getElem?_modify] at hi
  cases hm:m[i]? with
  | none=>rw [hm] at hi;simp at hi
  | some y =>
    rw [hm] at hi;by_cases e:p.1=i
    ·simp [e] at hi;subst hi;exact hk
    ·simp [e] at hi;subst hi;exact h y (List.mem_of_getElem? hm)
end Kx
open Go Sx Go.Proofs
namespace Kx
def cmpI (a b:Int):Int:=if a<b then -1 else if a > b then 1 else 0
theorem isnanG_ct (a:Int):Cr 150 [i64 a] (.bool false):=by
 refine .det (De Tryz.func150 [] [] ?_)
 repeat' first|refine S0 ?_;conv=>whnf|exact T0|refine T2 ?_ ?_
 all_goals first
  | trivial
  | exact hb h
  | with_reducible rfl
  | with_reducible exact same_rfl
  | omega
  | ((simp;done))
theorem compare_ct (a b:Int):Cr 91 [i64 a,i64 b] (i64 (cmpI a b)):=by
 refine .det (De Tryz.func91 [] [] ?_)
 repeat' first|refine S0 ?_;conv=>whnf|exact T0|with_reducible refine Br.ff ?_|(refine Br.d (fun h=>?_) fun h=>?_)|refine T2 ?_ ?_|refine K0 ?_|(refine M0 (g:=150) (isnanG_ct _) ?_)
 all_goals first
  | trivial
  | exact hb h
  | with_reducible rfl
  | with_reducible exact same_rfl
  | omega
  | ((simp only [cmpI];repeat' split<;>omega))
  | ((simp [cmpI, *];done))
  | ((simp [cmpI, *];omega))
def orI:List Int->Int
 | []=>0
 | x :: l=>if x≠0 then x else orI l
theorem or_ct (l:List Int) (hl:l.length<=1000000):Cr 90 [ints l] (i64 (orI l)):=by
 refine .det (De Tryz.func90 [] [] ?_)
 repeat' first|refine S0 ?_;conv=>whnf
 refine Lw [] [] (α:=Nat) (fun i=>[(3,i64 0),(6,ints l),(7,i64 l.length),(8,i64 i)]) (fun i=>[]) 0 (fun i=>i<=l.length/\orI l=orI (l.drop i)) (fun i=>l.length - i) ?_ ?_
 ·refine Again.by 0 ⟨zle _,rfl⟩ ?_
  repeat' first|refine S0 ?_;conv=>whnf|refine Vo ?_|exact T0
 ·intro i ⟨h1,hv⟩
  repeat' first|refine S0 ?_;conv=>whnf|refine Vo ?_|exact T0|refine W6 ?_|(refine Br.d (fun h=>?_) fun h=>?_)|refine Br.bnot ?_|refine T2 ?_ ?_
  all_goals try simp only [tnc] at *
  ·refine Again.by (i+1) ⟨⟨by omega,by rw [hv,drop_step l 0 i (by omega),orI,if_neg (not_not_intro h)]⟩,by omega⟩ ?_
   repeat' first|refine S0 ?_;conv=>whnf|refine Vo ?_|exact T0
  ·rw [hv,drop_step l 0 i (by omega),orI,if_pos h]
  ·rw [hv,ddl (show l.length<=i by omega)];rfl
theorem orL_ct (l:List Int) (hl:l.length<=1000000):Cr 90 [.tab 1 l.length fun i=>selC (l.map fun x=>[i64 x]) i] (i64 (orI l)) :=
 (or_ct l hl).arg ⟨rfl,⟨rfl,fun i hi=>selC_get (fun x:Int=>[i64 x]) 0 (fun _ _=>rfl) l i hi⟩,trivial⟩
theorem or2 (a b:Int):orI [a,b]=if a≠0 then a else b:=by simp only [orI];(repeat' split)<;>simp_all
theorem or3 (a b c:Int):orI [a,b,c]=if a≠0 then a else if b≠0 then b else c:=by simp only [orI];(repeat' split)<;>simp_all
structure Rf where
 g:Int
 i:Int
deriving DecidableEq
def Rf.d (r:Rf):D:=.agg [i64 r.g,i64 r.i]
def refB (r:Rf):Bool:=decide (0<=r.g) && decide (r.g<4) && decide (1<=r.i) && decide (r.i<=1048576)
def cplB (a b:Rf):Bool:=refB a && refB b && decide (a.g<b.g)
def cmpR (a b:Rf):Int:=if cmpI a.g b.g≠0 then cmpI a.g b.g else cmpI a.i b.i
def cmpC (a b c e:Rf):Int:=if cmpR a c≠0 then cmpR a c else cmpR b e
theorem ref_ct (r:Rf):Cr 151 [r.d] (.bool (refB r)):=by
 refine .det (De Tryz.func151 [] [] ?_)
 repeat' first|refine S0 ?_;conv=>whnf|exact T0|(refine Br.d (fun h=>?_) fun h=>?_)|refine T2 ?_ ?_
 all_goals first
  | trivial
  | exact hb h
  | with_reducible rfl
  | with_reducible exact same_rfl
  | omega
  | ((simp [refB, *];done))
  | ((simp [refB, *];omega))
theorem rcompare_ct (a b:Rf):Cr 45 [a.d,b.d] (i64 (cmpR a b)):=by
 refine .det (De Tryz.func45 ord45 [] ?_)
 repeat' first|refine S0 ?_;conv=>whnf|exact T0|exact noSh_int _ _|(refine M0 (orL_ct [cmpI a.g b.g,cmpI a.i b.i] (by simp)) ?_)|refine T2 ?_ ?_|refine K1 ?_|(refine M0 (g:=91) (compare_ct _ _) ?_)|refine Vm ?_ ?_
 all_goals exact or2 _ _
theorem couple_ct (a b:Rf):Cr 92 [a.d,b.d] (.bool (cplB a b)):=by
 refine .det (De Tryz.func92 [] [] ?_)
 repeat' first|refine S0 ?_;conv=>whnf|exact T0|(refine Bm (fun h=>?_) fun h=>?_)|refine T2 ?_ ?_|refine K0 ?_|(refine M0 (g:=151) (ref_ct _) ?_)
 all_goals first
  | trivial
  | exact hb h
  | with_reducible rfl
  | with_reducible exact same_rfl
  | omega
  | ((simp [cplB, *];done))
  | ((simp [cplB, *];omega))
theorem couples_ct (a b c e:Rf):Cr 123 [a.d,b.d,c.d,e.d] (i64 (cmpC a b c e)):=by
 refine .det (De Tryz.func123 ord123 [] ?_)
 repeat' first|refine S0 ?_;conv=>whnf|exact T0|exact noSh_int _ _|(refine M0 (orL_ct [cmpR a c,cmpR b e] (by simp)) ?_)|refine T2 ?_ ?_|refine K1 ?_|(refine M0 (g:=45) (rcompare_ct _ _) ?_)|refine Vm ?_ ?_
 all_goals exact or2 _ _
theorem cmpR_same {a b:Rf} (h:a.g=b.g/\a.i=b.i):cmpR a b=0:=by simp only [cmpR,cmpI];(repeat' split)<;>omega
def verB (n:Int):Bool:=decide (1<=n) && decide (n<=1048576)
theorem version_ct (n:Int):Cr 93 [i64 n] (.bool (verB n)):=by
 refine .det (De Tryz.func93 [] [] ?_)
 repeat' first|refine S0 ?_;conv=>whnf|exact T0|(refine Br.d (fun h=>?_) fun h=>?_)|refine T2 ?_ ?_
 all_goals first
  | trivial
  | exact hb h
  | with_reducible rfl
  | with_reducible exact same_rfl
  | omega
  | ((simp [verB, *];done))
  | ((simp [verB, *];omega))
structure Th where
 lo:Int
 hi:Int
def Th.d (t:Th):D:=.agg [i64 t.lo,i64 t.hi]
def chkT (t:Th):Int:=if t.hi<1\/65536<t.hi\/t.lo < -65536\/t.hi<t.lo then 2 else 0
def cls (t:Th) (w:Int):Int:=if t.hi<=w then 2 else if t.lo<=w then 1 else 0
theorem gchk_ct (t:Th):Cr 46 [t.d] (i64 (chkT t)):=by
 refine .det (De Tryz.func46 [] [] ?_)
 repeat' first|refine S0 ?_;conv=>whnf|exact T0|(refine Br.d (fun h=>?_) fun h=>?_)|refine Br.swap ?_|refine T2 ?_ ?_
 all_goals simp only [chkT]
 all_goals split<;>omega
theorem class_ct (t:Th) (w:Int):Cr 37 [t.d,i64 w] (i64 (cls t w)):=by
 refine .det (De Tryz.func37 [] [] ?_)
 repeat' first|refine S0 ?_;conv=>whnf|exact T0|(refine Br.d (fun h=>?_) fun h=>?_)|refine T2 ?_ ?_
 all_goals simp only [cls]
 all_goals (repeat' split)<;>omega
end Kx
open Go Sx Go.Proofs
namespace Kx
structure Cd where
 a:Rf
 b:Rf
 p:Int
 w:Int
deriving DecidableEq
def Cd.f (c:Cd):List D:=[i64 c.a.g,i64 c.a.i,i64 c.b.g,i64 c.b.i,i64 c.p,i64 c.w]
def Cd.z:Cd:=⟨⟨0,0⟩,⟨0,0⟩,0,0⟩
def cds (l:List Cd):D:=.tab 6 l.length fun i=>Cd.f (l.getD i Cd.z)
structure Dz where
 a:Rf
 b:Rf
 va:Int
 vb:Int
 s:Bool
deriving DecidableEq
def Dz.f (c:Dz):List D:=[i64 c.a.g,i64 c.a.i,i64 c.b.g,i64 c.b.i,i64 c.va,i64 c.vb,.bool c.s]
def Dz.d (c:Dz):D:=.agg c.f
def Dz.z:Dz:=⟨⟨0,0⟩,⟨0,0⟩,0,0,false⟩
def des (l:List Dz):D:=.tab 7 l.length fun i=>Dz.f (l.getD i Dz.z)
def cmpD (x y:Dz):Int:=if cmpC x.a x.b y.a y.b≠0 then cmpC x.a x.b y.a y.b else if cmpI x.va y.va≠0 then cmpI x.va y.va else cmpI x.vb y.vb
theorem decisions_ct (x y:Dz):Cr 94 [x.d,y.d] (i64 (cmpD x y)):=by
 refine .det (De Tryz.func94 ord94 [] ?_)
 repeat' first|refine S0 ?_;conv=>whnf|exact T0|exact noSh_int _ _|(refine M0 (couples_ct x.a x.b y.a y.b) ?_)|(refine M0 (orL_ct [cmpC x.a x.b y.a y.b,cmpI x.va y.va,cmpI x.vb y.vb] (by simp)) ?_)|refine T2 ?_ ?_|refine K1 ?_|(refine M0 (g:=91) (compare_ct _ _) ?_)|refine Vm ?_ ?_
 all_goals exact or3 _ _ _
def cdGo:Option Cd->List Cd->Int
 | _,[]=>0
 | o,c :: l=>if cplB c.a c.b=false then 41 else if c.w < -1048576\/1048576<c.w then 40 else if (match o with | none=>false | some x=>decide (0<=cmpC x.a x.b c.a c.b))=true then 12 else cdGo (some c) l
def cands (l:List Cd):Int:=if 4096<l.length then 1 else cdGo none l
def prev {α:Type} (z:α) (l:List α) (i:Nat):Option α:=match i with | 0=>none | i+1=>some (l.getD i z)
theorem cdGo_step (o:Option Cd) (l:List Cd) (i:Nat) (h:i<l.length):cdGo o (l.drop i)=if cplB (l.getD i Cd.z).a (l.getD i Cd.z).b=false then 41 else if (l.getD i Cd.z).w < -1048576\/1048576<(l.getD i Cd.z).w then 40 else if (match o with | none=>false | some x=>decide (0<=cmpC x.a x.b (l.getD i Cd.z).a (l.getD i Cd.z).b))=true then 12 else cdGo (some (l.getD i Cd.z)) (l.drop (i+1)):=by
 rw [drop_step l Cd.z i h];rfl
theorem prev_pos {α:Type} {z:α} {l:List α} {i:Nat} (h:0<i):prev z l i=some (l.getD (i - 1) z):=by
 cases i with
 | zero=>omega| succ i=>rfl
theorem pred_nat (i:Nat) (h:0<i):((i:Int) - 1).toNat=i - 1:=by omega
section
variable {l:List Cd} {i:Nat} (h:(i:Int)<l.length)
include h
theorem cd41 (h1:cplB (l.getD i Cd.z).a (l.getD i Cd.z).b=false) (o:Option Cd):41=cdGo o (l.drop i):=by rw [cdGo_step o l i (by omega),if_pos h1]
theorem cd40 (h1:cplB (l.getD i Cd.z).a (l.getD i Cd.z).b=true) (h2:(l.getD i Cd.z).w < -1048576\/1048576<(l.getD i Cd.z).w) (o:Option Cd):40=cdGo o (l.drop i):=by rw [cdGo_step o l i (by omega),if_neg (by rw [h1];simp),if_pos h2]
theorem cd12 (h1:cplB (l.getD i Cd.z).a (l.getD i Cd.z).b=true) (h2:¬(l.getD i Cd.z).w < -1048576) (h3:¬1048576<(l.getD i Cd.z).w) (h4:0<(i:Int))
 (h5:0<=cmpC (l.getD ((i:Int) - 1).toNat Cd.z).a (l.getD ((i:Int) - 1).toNat Cd.z).b (l.getD i Cd.z).a (l.getD i Cd.z).b):12=cdGo (prev Cd.z l i) (l.drop i):=by
 rw [cdGo_step _ l i (by omega),if_neg (by rw [h1];simp),if_neg (by omega),prev_pos (by omega),if_pos];rw [pred_nat i (by omega)] at h5;simpa using h5
theorem cdN (h1:cplB (l.getD i Cd.z).a (l.getD i Cd.z).b=true) (h2:¬(l.getD i Cd.z).w < -1048576) (h3:¬1048576<(l.getD i Cd.z).w)
 (h5:0<(i:Int)->¬0<=cmpC (l.getD ((i:Int) - 1).toNat Cd.z).a (l.getD ((i:Int) - 1).toNat Cd.z).b (l.getD i Cd.z).a (l.getD i Cd.z).b):cdGo (prev Cd.z l i) (l.drop i)=cdGo (prev Cd.z l (i+1)) (l.drop (i+1)):=by
 rw [cdGo_step _ l i (by omega),if_neg (by rw [h1];simp),if_neg (by omega),if_neg]
 ·rfl
 ·cases i with
  | zero=>simp [prev]
  | succ j =>
    have:=h5 (by omega);rw [pred_nat (j+1) (by omega)] at this;simpa [prev] using this
end
theorem cands_ct (l:List Cd):Cr 72 [cds l] (i64 (cands l)):=by
 refine .det (De Tryz.func72 ord72 [] ?_)
 repeat' first|refine S0 ?_;conv=>whnf|exact T0|(refine Br.d (fun h=>?_) fun h=>?_)|refine T2 ?_ ?_
 ·rw [cands,if_pos (by omega)]
 ·have hval:cands l=cdGo none l:=by rw [cands,if_neg (by omega)]
  refine Lw ord72 [] (α:=Nat) (fun i=>[(0,cds l),(8,cds l),(9,i64 l.length),(10,i64 i)]) (fun i=>[]) 0 (fun i=>i<=l.length/\cdGo none l=cdGo (prev Cd.z l i) (l.drop i)) (fun i=>l.length - i) ?_ ?_
  ·refine Again.by 0 ⟨zle _,rfl⟩ ?_
   repeat' first|refine S0 ?_;conv=>whnf|refine Vo ?_|exact T0
  ·intro i ⟨hi,hv⟩
   repeat' first|refine S0 ?_;conv=>whnf|refine Vo ?_|exact T0|refine W6 ?_|(refine M0 (couple_ct (l.getD (i:Int).toNat Cd.z).a (l.getD (i:Int).toNat Cd.z).b) ?_)|(refine M0 (couples_ct (l.getD ((i:Int) - 1).toNat Cd.z).a (l.getD ((i:Int) - 1).toNat Cd.z).b (l.getD (i:Int).toNat Cd.z).a (l.getD (i:Int).toNat Cd.z).b) ?_)|(refine Br.d (fun h=>?_) fun h=>?_)|refine Br.swap ?_|refine Br.bnot ?_|(refine Bm (fun h=>?_) fun h=>?_)|refine T2 ?_ ?_|refine K0 ?_|refine K1 ?_
   all_goals try simp only [tnc] at *
   all_goals first
    | (rw [hval,hv];first | exact cd41 ‹_› ‹_› _ | exact cd40 ‹_› ‹_› (.inl ‹_›) _ | exact cd40 ‹_› ‹_› (.inr ‹_›) _ | exact cd12 ‹_› ‹_› ‹_› ‹_› ‹_› ‹_›)
    | (rw [hval,hv,ddl (by omega)];rfl)
    | refine Again.by (i+1) ⟨⟨by omega,by rw [hv];exact cdN ‹_› ‹_› ‹_› ‹_› (fun hp=>by first | exact absurd hp ‹_› | assumption)⟩,by omega⟩ ?_
   all_goals
    repeat' first|refine S0 ?_;conv=>whnf|refine Vo ?_|exact T0
def deGo:Option Dz->List Dz->Int
 | _,[]=>0
 | o,c :: l=>if cplB c.a c.b=false then 41 else if (verB c.va && verB c.vb)=false then 42 else if (match o with | none=>false | some x=>decide (0<=cmpD x c))=true then 12 else deGo (some c) l
def decided (l:List Dz):Int:=if 4096<l.length then 1 else deGo none l
theorem deGo_step (o:Option Dz) (l:List Dz) (i:Nat) (h:i<l.length):deGo o (l.drop i)=if cplB (l.getD i Dz.z).a (l.getD i Dz.z).b=false then 41 else if (verB (l.getD i Dz.z).va && verB (l.getD i Dz.z).vb)=false then 42 else if (match o with | none=>false | some x=>decide (0<=cmpD x (l.getD i Dz.z)))=true then 12 else deGo (some (l.getD i Dz.z)) (l.drop (i+1)):=by
 rw [drop_step l Dz.z i h];rfl
section
variable {l:List Dz} {i:Nat} (h:(i:Int)<l.length)
include h
theorem de41 (h1:cplB (l.getD i Dz.z).a (l.getD i Dz.z).b=false) (o:Option Dz):41=deGo o (l.drop i):=by rw [deGo_step o l i (by omega),if_pos h1]
theorem de42a (h1:cplB (l.getD i Dz.z).a (l.getD i Dz.z).b=true) (h2:verB (l.getD i Dz.z).va=false) (o:Option Dz):42=deGo o (l.drop i):=by rw [deGo_step o l i (by omega),if_neg (by rw [h1];simp),if_pos (by rw [h2];rfl)]
theorem de42b (h1:cplB (l.getD i Dz.z).a (l.getD i Dz.z).b=true) (h2:verB (l.getD i Dz.z).vb=false) (o:Option Dz):42=deGo o (l.drop i):=by rw [deGo_step o l i (by omega),if_neg (by rw [h1];simp),if_pos (by rw [h2,Bool.and_false])]
theorem de12 (h1:cplB (l.getD i Dz.z).a (l.getD i Dz.z).b=true) (h2:verB (l.getD i Dz.z).va=true) (h3:verB (l.getD i Dz.z).vb=true) (h4:0<(i:Int))
 (h5:0<=cmpD (l.getD ((i:Int) - 1).toNat Dz.z) (l.getD i Dz.z)):12=deGo (prev Dz.z l i) (l.drop i):=by
 rw [deGo_step _ l i (by omega),if_neg (by rw [h1];simp),if_neg (by rw [h2,h3];simp),prev_pos (by omega),if_pos];rw [pred_nat i (by omega)] at h5;simpa using h5
theorem deN (h1:cplB (l.getD i Dz.z).a (l.getD i Dz.z).b=true) (h2:verB (l.getD i Dz.z).va=true) (h3:verB (l.getD i Dz.z).vb=true)
 (h5:0<(i:Int)->¬0<=cmpD (l.getD ((i:Int) - 1).toNat Dz.z) (l.getD i Dz.z)):deGo (prev Dz.z l i) (l.drop i)=deGo (prev Dz.z l (i+1)) (l.drop (i+1)):=by
 rw [deGo_step _ l i (by omega),if_neg (by rw [h1];simp),if_neg (by rw [h2,h3];simp),if_neg]
 ·rfl
 ·cases i with
  | zero=>simp [prev]
  | succ j =>
    have:=h5 (by omega);rw [pred_nat (j+1) (by omega)] at this;simpa [prev] using this
end
theorem decided_ct (l:List Dz):Cr 47 [des l] (i64 (decided l)):=by
 refine .det (De Tryz.func47 ord47 [] ?_)
 repeat' first|refine S0 ?_;conv=>whnf|exact T0|(refine Br.d (fun h=>?_) fun h=>?_)|refine T2 ?_ ?_
 ·rw [decided,if_pos (by omega)]
 ·have hval:decided l=deGo none l:=by rw [decided,if_neg (by omega)]
  refine Lw ord47 [] (α:=Nat) (fun i=>[(0,des l),(8,des l),(9,i64 l.length),(10,i64 i)]) (fun i=>[]) 0 (fun i=>i<=l.length/\deGo none l=deGo (prev Dz.z l i) (l.drop i)) (fun i=>l.length - i) ?_ ?_
  ·refine Again.by 0 ⟨zle _,rfl⟩ ?_
   repeat' first|refine S0 ?_;conv=>whnf|refine Vo ?_|exact T0
  ·intro i ⟨hi,hv⟩
   repeat' first|refine S0 ?_;conv=>whnf|refine Vo ?_|exact T0|refine W6 ?_|(refine M0 (couple_ct (l.getD (i:Int).toNat Dz.z).a (l.getD (i:Int).toNat Dz.z).b) ?_)|(refine M0 (decisions_ct (l.getD ((i:Int) - 1).toNat Dz.z) (l.getD (i:Int).toNat Dz.z)) ?_)|(refine Br.d (fun h=>?_) fun h=>?_)|refine Br.swap ?_|refine Br.bnot ?_|(refine Bm (fun h=>?_) fun h=>?_)|refine T2 ?_ ?_|refine K0 ?_|refine K1 ?_|(refine M0 (g:=93) (version_ct _) ?_)
   all_goals try simp only [tnc] at *
   all_goals first
    | (rw [hval,hv];first | exact de41 ‹_› ‹_› _ | exact de42a ‹_› ‹_› ‹_› _ | exact de42b ‹_› ‹_› ‹_› _ | exact de12 ‹_› ‹_› ‹_› ‹_› ‹_› ‹_›)
    | (rw [hval,hv,ddl (by omega)];rfl)
    | refine Again.by (i+1) ⟨⟨by omega,by rw [hv];exact deN ‹_› ‹_› ‹_› ‹_› (fun hp=>by first | exact absurd hp ‹_› | assumption)⟩,by omega⟩ ?_
   all_goals
    repeat' first|refine S0 ?_;conv=>whnf|refine Vo ?_|exact T0
def fault (t:Th) (l:List Cd) (s:List Dz):Int:=if chkT t≠0 then chkT t else if cands l≠0 then cands l else decided s
theorem grcheck_ct (t:Th) (l:List Cd) (s:List Dz):Cr 35 [t.d,cds l,des s] (i64 (fault t l s)):=by
 refine .det (De Tryz.func35 [] [] ?_)
 repeat' first|refine S0 ?_;conv=>whnf|exact T0|(refine Br.d (fun h=>?_) fun h=>?_)|refine Br.bnot ?_|refine T2 ?_ ?_|refine K0 ?_|(refine M0 (g:=46) (gchk_ct _) ?_)|(refine M0 (g:=47) (decided_ct _) ?_)|(refine M0 (g:=72) (cands_ct _) ?_)
 all_goals simp_all [fault]
end Kx
open Go Sx Go.Proofs
namespace Kx
def deK (d:Dz):List Int:=[d.a.g,d.a.i,d.b.g,d.b.i]
def cdK (d:Cd):List Int:=[d.a.g,d.a.i,d.b.g,d.b.i]
def sayF (e:List (List Int × Int)) (d:Dz):List (List Int × Int):=if (mget e (deK d)).isSome=true then e else mput e (deK d) (b2i d.s)
def sayGo (e:List (List Int × Int)) (l:List Dz):List (List Int × Int):=l.foldl sayF e
def saidL (l:List Dz):List (List Int × Int):=sayGo [] l
def tell:List Dz->List Int->Option Bool
 | [],_=>none
 | d :: l,k=>if deK d=k then some d.s else tell l k
theorem mget_go (l:List Dz) (k:List Int):∀ e,mget (sayGo e l) k=(mget e k).or ((tell l k).map b2i):=by
 induction l with
 | nil=>intro e;simp [sayGo,tell]
 | cons d l ih =>
   intro e
   show mget (sayGo (sayF e d) l) k=_
   rw [ih,tell,sayF];split
   ·rename_i h;by_cases hk:deK d=k
    ·subst hk;obtain ⟨b,hb⟩:=Option.isSome_iff_exists.1 h;rw [hb];simp
    ·rw [if_neg hk]
   ·rename_i h;rw [mget_put];by_cases hk:deK d=k
    ·subst hk
     have:mget e (deK d)=none:=by cases hm:mget e (deK d)<;>simp_all
     rw [if_pos rfl,if_pos rfl,this];simp
    ·rw [if_neg hk,if_neg hk]
theorem mget_said (l:List Dz) (k:List Int):mget (saidL l) k=(tell l k).map b2i:=by rw [saidL,mget_go];simp [mget,fnd]
theorem say_len {l:List Dz}:∀ {e},(∀ x ∈ e,x.1.length=4)->∀ x ∈ sayGo e l,x.1.length=4:=fun {e} h=>foldl_keep (fun e=>∀ x ∈ e,x.1.length=4) sayF l e (fun e d _ h=>by
 unfold sayF;split
 ·exact h
 ·exact mput_wf h rfl) h
theorem said_len (l:List Dz):∀ x ∈ saidL l,x.1.length=4:=say_len (by simp)
theorem sayGo_step (e:List (List Int × Int)) (l:List Dz) (i:Nat) (h:i<l.length):sayGo e (l.drop i)=sayGo (sayF e (l.getD i Dz.z)) (l.drop (i+1)):=by
 rw [drop_step l Dz.z i h];rfl
def mpB (l:List (List Int × Int)):MpL:=⟨true,true,l⟩
theorem said_ct (l:List Dz) (hn:l.length<=4096):Cr 36 [des l] (.mapb (mpB (saidL l))):=by
 refine .det (De Tryz.func36 [] [] ?_)
 repeat' first|refine S0 ?_;conv=>whnf
 refine Lw [] [] (α:=Nat × List (List Int × Int)) (fun z=>[(3,.mref 0),(10,des l),(11,i64 l.length),(12,i64 z.1)]) (fun z=>[(0,.mp (mpB z.2))]) 1 (fun z=>z.1<=l.length/\saidL l=sayGo z.2 (l.drop z.1)/\∀ x ∈ z.2,x.1.length=4) (fun z=>l.length - z.1) ?_ ?_
 ·refine Again.by (0,[]) ⟨zle _,rfl,by simp⟩ ?_
  repeat' first|refine S0 ?_;conv=>whnf|refine Vo ?_|exact T0|refine Vm ?_ ?_
  all_goals rfl
 ·intro ⟨i,e⟩ ⟨h1,h2,h3⟩;dsimp only at h1 h2 h3 ⊢
  repeat' first|refine S0 ?_;conv=>whnf|refine Vo ?_|exact T0|refine W6 ?_|(refine Vc.om ?_ ?_;focus (first | exact ⟨⟨rfl,rfl⟩,h3⟩ | rfl;done))|(refine Br.d (fun h=>?_) fun h=>?_)|refine Br.bnot ?_|(refine Bm (fun h=>?_) fun h=>?_)|refine T2 ?_ ?_
  all_goals try simp only [tnc] at *
  ·refine Again.by (i+1,e) ⟨⟨by dsimp only;omega,?_,h3⟩,by dsimp only;omega⟩ ?_
   ·rw [h2,sayGo_step e l i (by omega),sayF,if_pos (show (mget e (deK (l.getD i Dz.z))).isSome=true from h)]
   ·repeat' first|refine S0 ?_;conv=>whnf|refine Vo ?_|exact T0
  ·refine Again.by (i+1,mput e (deK (l.getD i Dz.z)) (b2i (l.getD i Dz.z).s)) ⟨⟨by dsimp only;omega,?_,mput_wf h3 rfl⟩,by dsimp only;omega⟩ ?_
   ·rw [h2,sayGo_step e l i (by omega),sayF,if_neg (show ¬(mget e (deK (l.getD i Dz.z))).isSome=true by rw [show (mget e (deK (l.getD i Dz.z))).isSome=false from h];simp)]
   ·repeat' first|refine S0 ?_;conv=>whnf|refine Vo ?_|exact T0|refine Vm ?_ ?_
    all_goals rfl
  ·rw [h2,ddl (by omega)];rfl
structure Bd where
 a:Rf
 b:Rf
 w:Int
deriving DecidableEq
def Bd.f (c:Bd):List D:=[i64 c.a.g,i64 c.a.i,i64 c.b.g,i64 c.b.i,i64 c.w]
def Bd.z:Bd:=⟨⟨0,0⟩,⟨0,0⟩,0⟩
def bds (l:List Bd):D:=.tab 5 l.length fun i=>Bd.f (l.getD i Bd.z)
def counts (t:Th) (s:List Dz) (c:Cd):Bool:=(decide (cls t c.w=2) && ((tell s (cdK c)).getD false || !(tell s (cdK c)).isSome)) || (decide (cls t c.w=1) && (tell s (cdK c)).getD false)
def bndOf (t:Th) (c:Cd):Bd:=⟨c.a,c.b,max c.w t.hi⟩
def bnd (t:Th) (s:List Dz):List Cd->List Bd
 | []=>[]
 | c :: l=>if counts t s c=true then bndOf t c :: bnd t s l else bnd t s l
theorem bnd_step (t:Th) (s:List Dz) (l:List Cd) (i:Nat) (h:i<l.length):bnd t s (l.drop i)=if counts t s (l.getD i Cd.z)=true then bndOf t (l.getD i Cd.z) :: bnd t s (l.drop (i+1)) else bnd t s (l.drop (i+1)):=by
 rw [drop_step l Cd.z i h];rfl
theorem fault_le {t:Th} {l:List Cd} {s:List Dz} (h:fault t l s=0):l.length<=4096/\s.length<=4096/\cands l=0/\decided s=0/\chkT t=0:=by
 unfold fault at h;split at h
 ·contradiction
 split at h
 ·contradiction
 rename_i h1 h2;have h1:=Classical.not_not.1 h1;have h2:=Classical.not_not.1 h2;refine ⟨?_,?_,h2,h,h1⟩
 ·unfold cands at h2;split at h2
  ·cases h2
  ·omega
 ·unfold decided at h;split at h
  ·cases h
  ·omega
theorem getD_app {α:Type} (l m:List α) (i:Nat) (z:α):(l ++ m).getD i z=if i<l.length then l.getD i z else m.getD (i - l.length) z:=by
 simp only [gDe,List.getElem?_append];split<;>rfl
theorem app1 {α:Type} (F:α->List D) (z:α) (hF:∀ (c:Prop) [Decidable c] (x y:α),iteL c (F x) (F y)=F (if c then x else y)) (l:List α) (x:α) :
 l.length+1=(l ++ [x]).length/\∀ i,i<(l ++ [x]).length->iteL (i<l.length) (F (l.getD i z)) (selC [F x] (i - l.length))=F ((l ++ [x]).getD i z):=by
 refine ⟨by simp,fun i hi=>?_⟩
 have hi:i<l.length+1:=by simpa using hi
 by_cases h:i<l.length
 ·rw [show selC [F x] (i - l.length)=F x by rw [show i - l.length=0 by omega];rfl,hF,if_pos h,getD_app,if_pos h]
 ·rw [show i=l.length by omega,Nat.sub_self,show selC [F x] 0=F x from rfl,hF,if_neg (by omega),getD_app,if_neg (by omega),Nat.sub_self];rfl
theorem ite_bd (c:Prop) [Decidable c] (x y:Bd):iteL c (Bd.f x) (Bd.f y)=Bd.f (if c then x else y):=by
 show [i64 (if c then _ else _),i64 (if c then _ else _),i64 (if c then _ else _),i64 (if c then _ else _),i64 (if c then _ else _)]=_
 split<;>rfl
theorem ite_cd (c:Prop) [Decidable c] (x y:Cd):iteL c (Cd.f x) (Cd.f y)=Cd.f (if c then x else y):=by
 show [i64 (if c then _ else _),i64 (if c then _ else _),i64 (if c then _ else _),i64 (if c then _ else _),i64 (if c then _ else _),i64 (if c then _ else _)]=_
 split<;>rfl
theorem bonds_ok (t:Th) (l:List Cd) (s:List Dz) (hf:fault t l s=0):Cr 15 [t.d,cds l,des s] (.tup [bds (bnd t s l),i64 0]):=by
 obtain ⟨hl,hs,_⟩:=fault_le hf;refine .det (De Tryz.func15 [] [] ?_)
 repeat' first|refine S0 ?_;conv=>whnf|refine B1 ?_|refine Br.bnot ?_|refine K0 ?_|(refine M0 (g:=35) (grcheck_ct _ _ _) ?_)|(refine M0 (g:=36) (said_ct _ (by assumption)) ?_)
 refine Lw [] [] (α:=Nat × List Bd) (fun z=>[(3,.loc 0 0),(9,.mapb (mpB (saidL s))),(10,.own 1),(25,cds l),(26,i64 l.length),(27,i64 z.1)]) (fun z=>[(0,.var [i64 t.lo,i64 t.hi]),(1,.arr 119 5 z.2.length fun j=>Bd.f (z.2.getD j Bd.z))]) 2 (fun z=>z.1<=l.length/\z.2 ++ bnd t s (l.drop z.1)=bnd t s l/\z.2.length<=z.1) (fun z=>l.length - z.1) ?_ ?_
 ·refine Again.by (0,[]) ⟨zle _,rfl,Nat.le_refl _⟩ ?_
  repeat' first|refine S0 ?_;conv=>whnf|refine Vo ?_|exact T0|refine Vm ?_ ?_
  all_goals rfl
 ·intro ⟨i,e⟩ ⟨h1,h2,h3⟩;dsimp only at h1 h2 h3 ⊢
  repeat' first|refine S0 ?_;conv=>whnf|refine Vo ?_|refine Vb ?_|exact T0|refine W6 ?_|refine B0 ?_|(refine Vc.om ?_ ?_;focus (exact ⟨⟨rfl,rfl⟩,said_len s⟩;done))|(refine Br.d (fun h=>?_) fun h=>?_)|refine Br.swap ?_|refine Br.bnot ?_|(refine Bm (fun h=>?_) fun h=>?_)|refine T2 ?_ ?_|refine K0 ?_|(refine M0 (g:=37) (class_ct _ _) ?_)
  all_goals try simp only [tnc] at *
  all_goals try
   have hc:counts t s (l.getD i Cd.z)=true:=by clear h1 h2 h3 hf hl hs;unfold counts cdK;(try simp only [mpB,mget_said] at *);generalize tell s _=o at *;(rcases o with _ | _ | _)<;>simp_all [b2i];done
   refine Again.by (i+1,e ++ [bndOf t (l.getD i Cd.z)]) ⟨⟨by dsimp only;omega,?_,by simp;omega⟩,by dsimp only;omega⟩ ?_
   ·rw [<-h2,bnd_step t s l i (by omega),if_pos hc,List.append_assoc];rfl
   ·repeat' first|refine S0 ?_;conv=>whnf|refine Vo ?_|exact T0|refine Vm ?_ ?_
    exact app1 Bd.f Bd.z ite_bd e (bndOf t (l.getD i Cd.z))
  all_goals try
   have hc:counts t s (l.getD i Cd.z)=false:=by clear h1 h2 h3 hf hl hs;unfold counts cdK;(try simp only [mpB,mget_said] at *);generalize tell s _=o at *;(rcases o with _ | _ | _)<;>simp_all [b2i];done
   refine Again.by (i+1,e) ⟨⟨by dsimp only;omega,?_,by dsimp only;omega⟩,by dsimp only;omega⟩ ?_
   ·rw [<-h2,bnd_step t s l i (by omega),if_neg (by rw [hc];simp)]
   ·repeat' first|refine S0 ?_;conv=>whnf|refine Vo ?_|exact T0
  ·have he:e=bnd t s l:=by rw [<-h2,ddl (by omega),bnd,List.append_nil]
   rw [he];exact ⟨rfl,fun _ _=>rfl⟩
end Kx
open Go Sx Go.Proofs
namespace Kx
def bls (l:List Bool):D:=.tab 1 l.length fun i=>[.bool (l.getD i false)]
structure Sn where
 id:Int
 v:Int
 b:List Bs
 h:List Int
 t:List Bool
def Sn.f (s:Sn):List D:=[i64 s.id,i64 s.v,bss s.b,u64s s.h,bls s.t]
def Sn.d (s:Sn):D:=.agg s.f
def Sn.z:Sn:=⟨0,0,[],[],[]⟩
def sns (l:List Sn):D:=.tab 5 l.length fun i=>Sn.f (l.getD i Sn.z)
def shs (l:List (List Sn)):D:=.tab 1 l.length fun i=>[sns (l.getD i [])]
def findI:List Sn->Int->Int->Int
 | [],_,_=>-1
 | s :: l,n,k=>if s.id=n then k else findI l n (k+1)
theorem findI_step (l:List Sn) (n k:Int) (i:Nat) (h:i<l.length):findI (l.drop i) n k=if (l.getD i Sn.z).id=n then k else findI (l.drop (i+1)) n (k+1):=by
 rw [drop_step l Sn.z i h];rfl
theorem clo_ct (s:Sn) (n:Int):Cr 117 [s.d,.ref [i64 n]] (.bool (decide (s.id=n))):=by
 refine .det (De Tryz.func117 [] [] ?_)
 repeat' first|refine S0 ?_;conv=>whnf|exact T0|refine T2 ?_ ?_
theorem cindexf_ct (l:List Sn) (n:Int) (hl:l.length<=100000):Cr 116 [sns l,.fn 117 [.ref [i64 n]]] (i64 (findI l n 0)):=by
 refine .det (De Tryz.func116 [] [] ?_)
 repeat' first|refine S0 ?_;conv=>whnf
 refine Lw [] [] (α:=Nat) (fun i=>[(0,sns l),(1,.fn 117 [.ref [i64 n]]),(7,i64 l.length),(8,i64 i)]) (fun i=>[]) 0 (fun i=>i<=l.length/\findI l n 0=findI (l.drop i) n i) (fun i=>l.length - i) ?_ ?_
 ·refine Again.by 0 ⟨zle _,rfl⟩ ?_
  repeat' first|refine S0 ?_;conv=>whnf|refine Vo ?_|exact T0|(refine Cho.l (Step.out ?_))|(exact ⟨rfl,rfl⟩)|refine Vm ?_ ?_
 ·intro i ⟨h1,h2⟩
  repeat' first|refine S0 ?_;conv=>whnf|refine Vo ?_|exact T0|refine W6 ?_|(refine M0 (clo_ct (l.getD (i:Int).toNat Sn.z) n) ?_)|(refine Br.d (fun h=>?_) fun h=>?_)|refine T2 ?_ ?_|refine K0 ?_
  all_goals try simp only [tnc] at *
  ·rw [h2,findI_step l n i i (by omega),if_pos h]
  ·refine Again.by (i+1) ⟨⟨by omega,by rw [h2,findI_step l n i i (by omega),if_neg h];rfl⟩,by omega⟩ ?_
   repeat' first|refine S0 ?_;conv=>whnf|refine Vo ?_|exact T0|(refine Cho.l (Step.out ?_))|(exact ⟨rfl,rfl⟩)|refine Vm ?_ ?_
  ·rw [h2,ddl (by omega)];rfl
theorem cfind_ct (l:List Sn) (n:Int) (hl:l.length<=100000):Cr 66 [sns l,i64 n] (i64 (findI l n 0)):=by
 refine .det (De Tryz.func66 [] [] ?_)
 repeat' first|refine S0 ?_;conv=>whnf|exact T0|exact noSh_int _ _|refine T2 ?_ ?_|refine K0 ?_|(refine M0 (g:=116) (cindexf_ct _ _ (by assumption)) ?_)|refine Vm ?_ ?_
theorem findI_in:∀ (l:List Sn) (n k:Int),findI l n k = -1\/(k<=findI l n k/\findI l n k<k+l.length)
 | [],_,_=>.inl rfl
 | s :: l,n,k=>by
   rw [findI];split
   ·right;simp only [List.length_cons];omega
   ·rcases findI_in l n (k+1) with h | h
    ·exact .inl h
    ·right;simp only [List.length_cons];omega
def curB (L:List (List Sn)) (r:Rf) (v:Int):Bool:=if r.g<0\/(L.length:Int)<=r.g then false else decide (0<=findI (L.getD r.g.toNat []) r.i 0) && decide (((L.getD r.g.toNat []).getD (findI (L.getD r.g.toNat []) r.i 0).toNat Sn.z).v=v)
structure ShOK (L:List (List Sn)):Prop where
 n:L.length<=100000
 l:∀ l ∈ L,l.length<=100000
theorem current_ct (L:List (List Sn)) (r:Rf) (v:Int) (hL:ShOK L):Cr 31 [shs L,r.d,i64 v] (.bool (curB L r v)):=by
 have h0:=hL.n
 have h1:=fun (h:r.g.toNat<L.length)=>hL.l _ (getD_in (z:=[]) h)
 have h2:=findI_in (L.getD r.g.toNat []) r.i 0;refine .det (De Tryz.func31 ord31 [] ?_)
 repeat' first|refine S0 ?_;conv=>whnf|refine Vo ?_|exact T0|(refine M0 (cfind_ct (L.getD r.g.toNat []) r.i (h1 (by omega))) ?_)|(refine Br.d (fun h=>?_) fun h=>?_)|refine Br.swap ?_|refine T2 ?_ ?_|refine K1 ?_
 ·rw [curB,if_pos (by omega)]
 ·rw [curB,if_pos (by omega)]
 ·rw [curB,if_neg (by omega),decide_eq_true ‹0<=findI _ _ _›,Bool.true_and]
 ·rw [curB,if_neg (by omega),decide_eq_false ‹¬0<=findI _ _ _›,Bool.false_and]
def stB (L:List (List Sn)) (d:Dz):Bool:=curB L d.a d.va && curB L d.b d.vb
def standL (L:List (List Sn)) (l:List Dz):List Dz:=l.filter (stB L)
theorem ite_de (c:Prop) [Decidable c] (x y:Dz):iteL c (Dz.f x) (Dz.f y)=Dz.f (if c then x else y):=by
 show [i64 (if c then _ else _),i64 (if c then _ else _),i64 (if c then _ else _),i64 (if c then _ else _),i64 (if c then _ else _),i64 (if c then _ else _),.bool (if c then _ else _)]=_
 split<;>rfl
theorem standing_ct (L:List (List Sn)) (l:List Dz) (hL:ShOK L) (hl:l.length<=100000):Cr 13 [shs L,des l] (des (standL L l)):=by
 refine .det (De Tryz.func13 [] [] ?_)
 repeat' first|refine S0 ?_;conv=>whnf
 refine Lw [] [] (α:=Nat) (fun i=>[(0,shs L),(5,.own 0),(8,des l),(9,i64 l.length),(10,i64 i)]) (fun i=>[(0,.arr 104 7 ((l.take i).filter (stB L)).length fun j=>Dz.f (((l.take i).filter (stB L)).getD j Dz.z))]) 1 (fun i=>i<=l.length) (fun i=>l.length - i) ?_ ?_
 ·refine Again.by 0 (zle _) ?_
  repeat' first|refine S0 ?_;conv=>whnf|refine Vo ?_|exact T0|refine Vm ?_ ?_
  all_goals rfl
 ·intro i hi;have hlen:((l.take i).filter (stB L)).length<=i:=Nat.le_trans (List.length_filter_le _ _) (by rw [List.length_take];omega)
  repeat' first|refine S0 ?_;conv=>whnf|refine Vo ?_|refine Vb ?_|exact T0|refine W6 ?_|(refine M0 (current_ct L (l.getD (i:Int).toNat Dz.z).a (l.getD (i:Int).toNat Dz.z).va hL) ?_)|(refine M0 (current_ct L (l.getD (i:Int).toNat Dz.z).b (l.getD (i:Int).toNat Dz.z).vb hL) ?_)|(refine Br.d (fun h=>?_) fun h=>?_)|(refine Bm (fun h=>?_) fun h=>?_)|refine T2 ?_ ?_|refine K0 ?_
  all_goals try simp only [tnc,Bool.not_true] at *
  all_goals first
   | (have hc:stB L (l.getD i Dz.z)=true:=by unfold stB;simp only [‹curB L (l.getD i Dz.z).a _=_›,‹curB L (l.getD i Dz.z).b _=_›];rfl
      refine Again.by (i+1) ⟨by omega,by omega⟩ ?_
      rw [filter_step (stB L) l Dz.z i (by omega),if_pos hc])
   | (have hc:stB L (l.getD i Dz.z)=false:=by unfold stB;first | (simp only [‹curB L (l.getD i Dz.z).a _=_›,‹curB L (l.getD i Dz.z).b _=_›];rfl) | (simp only [‹curB L (l.getD i Dz.z).a _=_›];rfl)
      refine Again.by (i+1) ⟨by omega,by omega⟩ ?_
      rw [filter_step (stB L) l Dz.z i (by omega),if_neg (by rw [hc];simp),List.append_nil])
   | rw [List.take_of_length_le (by omega)]
  all_goals try
   repeat' first|refine S0 ?_;conv=>whnf|refine Vo ?_|exact T0|refine Vm ?_ ?_
  all_goals try exact app1 Dz.f Dz.z ite_de _ (l.getD i Dz.z)
  all_goals try exact ⟨rfl,fun _ _=>rfl⟩
end Kx
open Go Sx Go.Proofs
namespace Kx
theorem range_ct (d:Dk) (a b:Int) (h : -1000<=a/\a<=b/\b<=1000):Ct Tryz.prog 28 [d.b,i64 a,i64 b] fun r outs=>∃ x d',(a<=x/\x<=b)/\r=i64 x/\outs = [Dk.b d']:=by
 refine .some2 (De Tryz.func28 [] [] ?_)
 repeat' first|refine S0 ?_;conv=>whnf|refine W6 ?_|(refine CallOK.io1 (g:=7) (Step.out ?_))|(refine Met.by (g:=7) (next_ct _ _) ?_;rintro q outs ⟨x,d,hx,rfl,rfl⟩)
 refine Lf2.by (a+x) d (by omega) ?_
 repeat' first|refine S0 ?_;conv=>whnf|exact T0|exact T1|refine T2 ?_ ?_
theorem thresholds_ct (d:Dk):Ct Tryz.prog 9 [d.b] fun r outs=>∃ (t:Th) (d' : Dk),(1<=t.hi/\t.hi<=60/\t.lo<=t.hi/\t.hi - 59<=t.lo)/\r=t.d/\outs = [Dk.b d']:=by
 refine .some2 (De Tryz.func9 ord9 [] ?_)
 repeat' first|refine S0 ?_;conv=>whnf|refine W6 ?_|refine T2 ?_ ?_|(refine CallOK.io1 (g:=7) (Step.out ?_))|(refine Met.by (g:=7) (next_ct _ _) ?_;rintro q outs ⟨x,d,hx,rfl,rfl⟩)
 all_goals
  rename_i d1 x0 d2 hx0
  refine Lf2.by ⟨1+x0 - x,1+x0⟩ d (by dsimp only;omega) ?_
  repeat' first|refine S0 ?_;conv=>whnf|exact T0|exact T1|refine T2 ?_ ?_
def ltP (a b:Rf) (r i s k:Int):Prop:=a.g<r\/(a.g=r/\(a.i<i\/(a.i=i/\(b.g<s\/(b.g=s/\b.i<k)))))
theorem ltP_cmp {a b:Rf} {r i s k:Int} (h:ltP a b r i s k):cmpC a b ⟨r,i⟩ ⟨s,k⟩<0:=by
 unfold ltP at h;simp only [cmpC,cmpR,cmpI]
 (repeat' split)<;>omega
theorem ltP_mono {a b:Rf} {r i s k r' i' s' k' : Int} (h:ltP a b r i s k) (hl:r<r'\/(r=r'/\(i<i'\/(i=i'/\(s<s'\/(s=s'/\k<=k')))))):ltP a b r' i' s' k':=by
 unfold ltP at h ⊢;omega
structure Up {α:Type} (A B:α->Rf) (lt:α->α->Prop) (q:α->Prop) (m:Int) (r i s k:Int) (l:List α):Prop where
 p:l.Pairwise lt
 b:∀ x ∈ l,ltP (A x) (B x) r i s k
 q:∀ x ∈ l,q x
 n:(l.length:Int)<=m*(r*216+i*36+s*6+k)
theorem Up.mono {α:Type} {A B:α->Rf} {lt:α->α->Prop} {q:α->Prop} {m r i s k r' i' s' k' : Int} {l:List α} (h:Up A B lt q m r i s k l) (hm:0<=m) (hl:r<r'\/(r=r'/\(i<i'\/(i=i'/\(s<s'\/(s=s'/\k<=k'))))))
 (hn:r*216+i*36+s*6+k<=r' * 216+i' * 36+s' * 6+k'):Up A B lt q m r' i' s' k' l :=
 ⟨h.p,fun x hx=>ltP_mono (h.b x hx) hl,h.q,Int.le_trans h.n (Int.mul_le_mul_of_nonneg_left hn hm)⟩
theorem Up.push {α:Type} {A B:α->Rf} {lt:α->α->Prop} {q:α->Prop} {m r i s k:Int} {l:List α} (h:Up A B lt q m r i s k l) (y:α) (hm:1<=m) (hA:A y=⟨r,i⟩) (hB:B y=⟨s,k⟩) (hq:q y) (hlt:∀ x,ltP (A x) (B x) r i s k->lt x y):Up A B lt q m r i s (k+1) (l ++ [y]):=by
 refine ⟨List.pairwise_append.2 ⟨h.p,by simp,fun x hx z hz=>?_⟩,fun x hx=>?_,fun x hx=>?_,?_⟩
 ·rw [List.mem_singleton.1 hz];exact hlt x (h.b x hx)
 ·rcases List.mem_append.1 hx with hx | hx
  ·exact ltP_mono (h.b x hx) (by omega)
  ·rw [List.mem_singleton.1 hx,hA,hB];exact .inr ⟨rfl,.inr ⟨rfl,.inr ⟨rfl,Int.lt_succ _⟩⟩⟩
 ·rcases List.mem_append.1 hx with hx | hx
  ·exact h.q x hx
  ·rw [List.mem_singleton.1 hx];exact hq
 ·have:=h.n
  have e:m*(r*216+i*36+s*6+(k+1))=m*(r*216+i*36+s*6+k)+m:=by
   rw [show r*216+i*36+s*6+(k+1)=(r*216+i*36+s*6+k)+1 by omega,Int.mul_add,Int.mul_one]
  rw [e,lap];simp only [List.length_singleton];omega
end Kx
