/-
  Block keys, checked; the blocks of records for each.
  No condition beyond those written in each theorem.
-/
import Derived.Test.YtmomigckcngegaaGreatDoorKC5
import Derived.Test.YtmomigckcngegaaGreatDoorKB4
import Derived.Test.YtmomigckcngegaaGreatDoorKB3
import Derived.Test.YtmomigckcngegaaGreatDoorKB2
import Derived.Test.YtmomigckcngegaaGreatDoorKB1
import Derived.Test.YtmomigckcngegaaGreatDoorKA9
import Derived.Test.YtmomigckcngegaaGreatDoorKC2
import Derived.Test.YtmomigckcngegaaGreatDoorKC3
import Derived.Test.YtmomigckcngegaaGreatDoorKC4
import Derived.Lib.TrailingZeros
import Derived.Lib.LaidTab
import Derived.Lib.LaidU8
set_option linter.unusedSimpArgs false
set_option linter.unusedVariables false
set_option maxRecDepth 4000
open Go Sx Go.Proofs
namespace Kx
theorem bfits_ct (t k:Int):Ct Tryz.prog 144 [i64 t,i64 k] fun r outs=>r = .bool (fitB t k)∧outs = []:=by
 refine .det (De Tryz.func144 [] [] ?_)
 repeat' first|(refine S0 ?_;conv=>whnf)|exact T0|(refine B1 ?_)|(refine Br.d (fun h=>?_) fun h=>?_)|(refine T2 ?_ ?_)
 all_goals first
  | trivial
  | exact hb h
  | with_reducible rfl
  | with_reducible exact same_rfl
  | omega
  | ((simp [fitB, *];done))
  | ((simp_all [fitB];done))
  | ((simp only [fitB];simp;omega))
theorem kright_ct (s:Sc) (c:Cp) (hc:CpOk s c):Ct Tryz.prog 102 [s.d,.agg (cpF c)] fun r outs=>r = .bool true∧outs = []:=by
 have h0:=hc.b0;have h1:=hc.b1
 have hf:=hc.ft
 refine .det (De Tryz.func102 ord102 [] ?_)
 repeat' first|(refine S0 ?_;conv=>whnf)|(refine Vo ?_)|exact T0|(refine B1 ?_)|(refine T2 ?_ ?_)|(refine K1 ?_)|(refine Met.by (g:=144) (bfits_ct _ _) ?_;rintro q outs ⟨rfl,rfl⟩)
 all_goals exact hf
theorem border_ct (a b:Cp):Ct Tryz.prog 103 [.agg (cpF a),.agg (cpF b)] fun r outs=>r=i64 (orI (cmpI a.1 b.1) (cmpI a.2 b.2))∧outs = []:=by
 refine .det (De Tryz.func103 ord103 [] ?_)
 repeat' first|(refine S0 ?_;conv=>whnf)|exact T0|exact noSh_int _ _|(refine Met.by (or_ct _ _) ?_;rintro q outs ⟨rfl,rfl⟩)|(refine T2 ?_ ?_)|(refine K1 ?_)|(refine Met.by (g:=30) (compare_i _ _) ?_;rintro q outs ⟨rfl,rfl⟩)|(refine Vm ?_ ?_)
theorem ord_lt {a b:Cp} (h:a.1<b.1):orI (cmpI a.1 b.1) (cmpI a.2 b.2) = -1:=by
 have:cmpI a.1 b.1 = -1:=if_pos h
 rw [orI,this];rfl
theorem bkey_ct (s:Sc) (k:List Cp) (hk:KyOk s k):Ct Tryz.prog 61 [s.d,.agg [cps k]] fun r outs=>r=i64 0∧outs = []:=by
 have hn:=hk.o.n;have hp:=hk.p
 refine .det (De Tryz.func61 ord61 [] ?_)
 repeat' first|(refine S0 ?_;conv=>whnf)|(refine B0 ?_)|(refine Br.swap ?_)
 all_goals try omega
 refine CodeOK.loopW hΓ hm ord61 [] (by kernel_rfl) (α:=Nat) (fun i=>[(2,.loc 0 0),(3,.loc 1 0),(4,i64 0),(18,cps k),(19,i64 k.length),(20,i64 i)]) (fun i=>[(0,.var s.l),(1,.var [cps k])]) 2 (fun i=>i≤k.length) (fun i=>k.length - i) ?_ ?_
 ·refine Again.by 0 (Nat.zero_le _) ?_
  repeat' first|(refine S0 ?_;conv=>whnf)|(refine Vo ?_)|exact T0
 ·intro i hi
  dsimp only at hi ⊢
  have hc:i<k.length→CpOk s (k.getD (i:Int).toNat (0,0)):=fun h=>by rw [Int.toNat_natCast];exact hk.o.c i h
  have ho:0<(i:Int)→i<k.length→Ct Tryz.prog 103 [.agg (cpF (k.getD ((i:Int) - 1).toNat (0,0))),.agg (cpF (k.getD (i:Int).toNat (0,0)))] fun r outs=>r=i64 (-1)∧outs = []:=fun h1 h2=>by
   have e:=ord_lt (a:=k.getD ((i:Int) - 1).toNat (0,0)) (b:=k.getD (i:Int).toNat (0,0)) (by
    rw [Int.toNat_natCast,show ((i:Int) - 1).toNat=i - 1 by omega]
    have:=hk.o.asc (i - 1) (by omega)
    rwa [show i - 1+1=i by omega] at this)
   have:=border_ct (k.getD ((i:Int) - 1).toNat (0,0)) (k.getD (i:Int).toNat (0,0))
   rwa [e] at this
  repeat' first|(refine S0 ?_;conv=>whnf)|(refine Vo ?_)|exact T0|(refine W6 ?_)|(with_reducible refine Br.tt ?_)|(refine B0 ?_)|(refine Met.by (kright_ct s _ (hc (by omega))) ?_;rintro q outs ⟨rfl,rfl⟩)|(refine Met.by (ho (by assumption) (by omega)) ?_;rintro q outs ⟨rfl,rfl⟩)|(refine Br.d (fun h=>?_) fun h=>?_)|(refine Br.swap ?_)|(refine Br.bnot ?_)|(refine T2 ?_ ?_)|(refine K1 ?_)
  all_goals
   refine Again.by (i+1) ⟨by omega,by omega⟩ ?_
  ·repeat' first|(refine S0 ?_;conv=>whnf)|(refine Vo ?_)|exact T0
  ·repeat' first|(refine S0 ?_;conv=>whnf)|(refine Vo ?_)|exact T0
theorem bcheckK_ct (s:Sc) (hs:s.ok) (K:List (List Cp)) (hK:K.length≤8) (hk:∀ k ∈ K,KyOk s k):Ct Tryz.prog 32 [s.d,kys K] fun r outs=>r=i64 0∧outs = []:=by
 refine .det (De Tryz.func32 [] [] ?_)
 repeat' first|(refine S0 ?_;conv=>whnf)|(refine B1 ?_)|(refine B0 ?_)|(refine Br.bnot ?_)|(refine K0 ?_)|(refine Met.by (g:=23) (scheck_ct _ (by assumption)) ?_;rintro q outs ⟨rfl,rfl⟩)
 all_goals try omega
 refine CodeOK.loopW hΓ hm [] [] (by kernel_rfl) (α:=Nat) (fun i=>[(2,.loc 0 0),(4,i64 0),(17,kys K),(18,i64 K.length),(19,i64 i)]) (fun i=>[(0,.var s.l)]) 1 (fun i=>i≤K.length) (fun i=>K.length - i) ?_ ?_
 ·refine Again.by 0 (Nat.zero_le _) ?_
  repeat' first|(refine S0 ?_;conv=>whnf)|(refine Vo ?_)|exact T0
 ·intro i hi
  dsimp only at hi ⊢
  have hc:i<K.length→KyOk s (K.getD (i:Int).toNat []):=fun h=>by rw [Int.toNat_natCast];exact hk _ (mem_getD h)
  repeat' first|(refine S0 ?_;conv=>whnf)|(refine Vo ?_)|exact T0|(refine W6 ?_)|(refine B1 ?_)|(refine Met.by (bkey_ct s _ (hc (by omega))) ?_;rintro q outs ⟨rfl,rfl⟩)|(refine Br.d (fun h=>?_) fun h=>?_)|(refine Br.bnot ?_)|(refine T2 ?_ ?_)|(refine K0 ?_)
  refine Again.by (i+1) ⟨by omega,by omega⟩ ?_
  repeat' first|(refine S0 ?_;conv=>whnf)|(refine Vo ?_)|exact T0
theorem bks_ite (c:Prop) [Decidable c] (a b:List Bk):iteL c [bks a] [bks b] = [bks (if c then a else b)]:=by
 show [D.tab 2 (if c then a.length else b.length) fun i=>[D.int .u64 (if c then (a.getD i (0,[])).1 else (b.getD i (0,[])).1),if c then ints (a.getD i (0,[])).2 else ints (b.getD i (0,[])).2]]=_
 split<;>rfl
theorem bks_app (A:List (List Bk)) (L:List Bk):A.length+1=(A ++ [L]).length∧∀ i,i<(A ++ [L]).length→iteL (i<A.length) [bks (A.getD i [])] (selC [[bks L]] (i - A.length)) = [bks ((A ++ [L]).getD i [])] :=
 ⟨by simp,fun i hi=>by
  rw [List.length_append,List.length_cons,List.length_nil] at hi
  show iteL (i<A.length) [bks (A.getD i [])] [bks L]=_
  rw [bks_ite]
  by_cases e:i<A.length
  ·rw [if_pos e,getD_ap1 _ _ _ _ e]
  ·obtain rfl:i=A.length:=by omega
   rw [if_neg e,getD_last]⟩
theorem ball_ct (q:Int × Int) (s:Sc) (hs:s.ok) (K:List (List Cp)) (hK:K.length≤8) (hk:∀ k ∈ K,KyOk s k) (R:List Rc) (hR:RsOk s R) (h30:R.length≤30):Ct Tryz.prog 11 [s.d,.agg [u64 q.1,u64 q.2],kys K,rcs R] fun r outs=>∃ A:List (List Bk),(A.length=K.length∧∀ L ∈ A,BkOk L∧(L.flatMap Prod.snd).length≤R.length)∧r = .tup [bkk A,i64 0]∧outs = []:=by
 refine .some (De Tryz.func11 [] [] ?_)
 repeat' first|(refine S0 ?_;conv=>whnf)|(refine B1 ?_)|(refine Br.bnot ?_)|(refine K0 ?_)|(refine Met.by (g:=32) (bcheckK_ct _ (by assumption) _ (by omega) (by assumption)) ?_;rintro q outs ⟨rfl,rfl⟩)|(refine Met.by (g:=33) (rAll_ct _ (by assumption) _ (by assumption)) ?_;rintro q outs ⟨rfl,rfl⟩)
 refine CodeOK.loopW hΓ hm [] [] (by kernel_rfl) (α:=List (List Bk)) (fun z=>[(3,rcs R),(4,.loc 0 0),(5,.loc 1 0),(8,.nil),(9,i64 0),(12,.own 2),(27,kys K),(28,i64 K.length),(29,i64 z.length)]) (fun z=>[(0,.var s.l),(1,.var [u64 q.1,u64 q.2]),(2,.arr 95 1 z.length fun i=>[bks (z.getD i [])])]) 3 (fun z=>z.length≤K.length∧(∀ L ∈ z,BkOk L∧(L.flatMap Prod.snd).length≤R.length)) (fun z=>K.length - z.length) ?_ ?_
 ·refine Again.by [] ⟨Nat.zero_le _,nofun⟩ ?_
  repeat' first|(refine S0 ?_;conv=>whnf)|(refine Vo ?_)|exact T0|(refine Vm ?_ ?_)
 ·intro z ⟨hz,hl⟩
  dsimp only at hz hl ⊢
  have hc:z.length<K.length→KyOk s (K.getD (z.length:Int).toNat []):=fun h=>by rw [Int.toNat_natCast];exact hk _ (mem_getD h)
  repeat' first|(refine S0 ?_;conv=>whnf)|(refine Vo ?_)|(refine Vb ?_)|(refine W6 ?_)|(refine Met.by (blocks_ct q s _ (hc (by omega)) z.length (by omega) R hR h30) ?_;rintro q outs ⟨L,hL,rfl,rfl⟩)|(refine Br.d (fun h=>?_) fun h=>?_)|(refine K0 ?_)
  ·refine Again.by (z ++ [L]) ⟨⟨by simp;omega,fun y hy=>?_⟩,by simp;omega⟩ ?_
   ·rcases List.mem_append.1 hy with h | h
    ·exact hl y h
    ·rw [List.mem_singleton.1 h];exact hL
   repeat' first|(refine S0 ?_;conv=>whnf)|(refine Vo ?_)|exact T0|(exact bks_app z L)|(simp;done)|(refine Vm ?_ ?_)
  ·refine Lf.by z ⟨by omega,hl⟩ ?_
   repeat' first|(refine S0 ?_;conv=>whnf)|exact T0|exact T1|(refine T2 ?_ ?_)
end Kx
open Go Sx Go.Proofs
namespace Kx
def AllU (w:List Int):Prop:=∀ x ∈ w,U64 x
theorem setBit_u (w:List Int) (i:Int) (h:AllU w):AllU (setBit w i):=fun x hx=>by
 rcases List.mem_or_eq_of_mem_set hx with hx | rfl
 ·exact h x hx
 ·exact bit_in _ _ _
theorem setBits_u:∀ (l w:List Int),AllU w→AllU (l.foldl setBit w)
 | [],_,h=>h
 | i :: l,w,h=>setBits_u l _ (setBit_u w i h)
theorem encs_u (p:Pm) (k:Int × Int):∀ (gs:List Str) (w:List Int),AllU w→AllU (gs.foldl (encG p k) w)
 | [],_,h=>h
 | g :: gs,w,h=>encs_u p k gs _ (setBits_u _ _ h)
theorem fld_ok (s:Sc) (p:Pm) (hp:p.ok) (k:Int × Int) (r:Rc) (i:Nat):MOk (fldW s p k r i):=by
 unfold fldW
 split
 ·exact .inl rfl
 ·refine .inr ⟨hp.L,encW_len _ _ _,fun i hi=>?_⟩
  refine encs_u p _ _ _ (fun x hx=>?_) _ (by
   dsimp only at hi ⊢
   rw [List.getD_eq_getElem?_getD,List.getElem?_eq_getElem hi]
   exact List.getElem_mem hi)
  rw [(List.mem_replicate.1 hx).2]
  exact ⟨Int.le_refl _,by decide⟩
def s0:Sc:=⟨[([103,105,118,101,110],1),([98,105,114,116,104],2)],⟨[[100,114]],[],[]⟩⟩
def P0:List Pm:=[⟨64,2,-1⟩,⟨128,3,0⟩]
def raw1:List Str:=[[68,114,46,32,65,110,110],[50,48,48,48,45,48,50,45,48,51]]
def raw2:List Str:=[[65,78,78],[48,51,46,48,50,46,50,48,48,48]]
def v0:List Str:=[[97,110,110],[50,48,48,48,48,50,48,51]]
theorem mk1:mkL s0 raw1 2=v0:=by decide +kernel
theorem mk2:mkL s0 raw2 2=v0:=by decide +kernel
theorem ne1:∀ i<2,nE s0 i (raw1.getD i [])=0:=by decide +kernel
theorem ne2:∀ i<2,nE s0 i (raw2.getD i [])=0:=by decide +kernel
def w0 (i:Nat):Int × List Int:=fldW s0 (P0.getD i Pm.z) (5,0) ⟨1,1,v0⟩ i
set_option maxRecDepth 100000 in
theorem dc0:dice ⟨(w0 0).1,(w0 0).2⟩ ⟨(w0 0).1,(w0 0).2⟩=1000:=by decide +kernel
set_option maxRecDepth 100000 in
theorem dc1:dice ⟨(w0 1).1,(w0 1).2⟩ ⟨(w0 1).1,(w0 1).2⟩=1000:=by decide +kernel
theorem s0_ok:s0.ok:=by
 refine ⟨by decide,by decide,by decide +kernel,fun i j h1 h2=>?_,by decide,⟨by decide,by decide,by decide⟩,by decide +kernel⟩
 have h3:j<2:=h2
 obtain ⟨rfl,rfl⟩:i=0∧j=1:=by omega
 decide
theorem v0_ok (a b:Int) (h:1≤a∧a≤90∧1≤b∧b≤90):(Rc.mk a b v0).ok s0:=by
 refine ⟨h.1,h.2.1,h.2.2.1,h.2.2.2,rfl,fun i hi=>?_⟩
 have h2:i<2:=hi
 have e:∀ i<2,nB s0 i (v0.getD i [])=true∧(v0.getD i []).length≤64∧(v0.getD i []).all isAn=true:=by decide +kernel
 obtain ⟨e1,e2,e3⟩:=e i h2
 exact ⟨e1,e2,fun c hc=>.inl (List.all_eq_true.1 e3 c hc)⟩
theorem P0_ok:PsOk s0.f.length fun i=>P0.getD i Pm.z:=by
 have e:∀ i,i<s0.f.length→i=0∨i=1:=fun i hi=>by have:i<2:=hi;omega
 refine ⟨fun i hi=>?_,fun i hi=>?_,fun i hi=>?_⟩<;>rcases e i hi with rfl | rfl
 ·exact ⟨.inl rfl,by decide,by decide,by decide,by decide⟩
 ·exact ⟨.inr (.inl rfl),by decide,by decide,by decide,by decide⟩
 all_goals decide
theorem enc0_ct (a b:Int) (h:1≤a∧a≤90∧1≤b∧b≤90):Ct Tryz.prog 20 [s0.d,.tab 3 2 fun i=>(P0.getD i Pm.z).l,.agg [u64 5,u64 0],(Rc.mk a b v0).d] fun q outs=>q = .tup [.agg [i64 a,i64 b,.tab 2 2 fun i=>bitL (w0 i)],i64 0]∧outs = [] :=
 erecord_ct s0 s0_ok (fun i=>P0.getD i Pm.z) P0_ok (5,0) ⟨a,b,v0⟩ (v0_ok a b h) w0 fun i hi=>fieldR_ct set_ok s0 s0_ok _ P0_ok (5,0) ⟨a,b,v0⟩ (v0_ok a b h) i hi
theorem cmpW_ct (W:Nat→Int × List Int) (hW:∀ i,i<2→(Bs.mk (W i).1 (W i).2).ok) (hd:∀ i,i<2→dice ⟨(W i).1,(W i).2⟩ ⟨(W i).1,(W i).2⟩=1000) (a b c d:Int):Ct Tryz.prog 21 [.agg [i64 a,i64 b,.tab 2 2 fun i=>bitL (W i)],.agg [i64 c,i64 d,.tab 2 2 fun i=>bitL (W i)]] fun r outs=>r = .tup [.tab 1 2 fun _=>[i64 1000],i64 0]∧outs = []:=by
 obtain ⟨f,hf⟩:∃ f:List Bs,f = [⟨(W 0).1,(W 0).2⟩,⟨(W 1).1,(W 1).2⟩]:=⟨_,rfl⟩
 have hn:f.length=2:=by rw [hf];rfl
 have hg:∀ i,i<2→f.getD i Bs.z=⟨(W i).1,(W i).2⟩:=fun i hi=>by
  rw [hf]
  obtain rfl | rfl:i=0∨i=1:=by omega
  all_goals rfl
 have hok:∀ i,i<f.length→(f.getD i Bs.z).ok:=fun i hi=>by rw [hg i (by omega)];exact hW i (by omega)
 have h1:=compare_ct' ⟨a,b,f⟩ ⟨c,d,f⟩ (by rw [hn];decide) (by rw [hn];decide) rfl hok hok fun _ _=>rfl
 have hb:∀ i,i<f.length→bitL (W i)=(f.getD i Bs.z).l:=fun i hi=>by rw [hg i (by omega)];rfl
 have h2:=h1.arg (args:=[.agg [i64 a,i64 b,.tab 2 2 fun i=>bitL (W i)],.agg [i64 c,i64 d,.tab 2 2 fun i=>bitL (W i)]]) ⟨rfl,⟨rfl,rfl,⟨hn.symm,fun i hi=>hb i hi⟩,trivial⟩,⟨rfl,rfl,⟨hn.symm,fun i hi=>hb i hi⟩,trivial⟩,trivial⟩
 refine Ct.res (h2.mono ?_)
 rintro r outs ⟨rfl,rfl⟩
 have hd1:∀ i,i<2→(dices f f f.length).getD i 0=1000:=fun i hi=>by
  rw [hn]
  have:(dices f f 2).getD i 0=dice (f.getD i Bs.z) (f.getD i Bs.z):=by simp [dices,List.getD,hi]
  rw [this,hg i hi];exact hd i hi
 refine ⟨_,_,⟨rfl,rfl⟩,⟨⟨?_,fun i hi=>?_⟩,rfl,trivial⟩,trivial⟩
 ·rw [dices_len];exact hn
 ·show [D.int IntKind.i64 ((dices f f f.length).getD i 0)]=_
  rw [hd1 i hi]
theorem raw_at (s:Sc) {g:FuncId} {R:D→List D→Prop} (a b:Int) (raws:List Str) (f:Nat→List D) (hf:∀ i,i<2→f i = [.str (raws.getD i [])]) (hn:raws.length=2) (H:Ct Tryz.prog g [s.d,i64 a,i64 b,strs raws] R):Ct Tryz.prog g [s.d,i64 a,i64 b,.tab 1 2 f] R :=
 H.arg ⟨rfl,⟨⟨rfl,fun _ _=>rfl⟩,⟨rfl,fun _ _=>rfl⟩,⟨rfl,fun _ _=>rfl⟩,⟨rfl,fun _ _=>rfl⟩,trivial⟩,rfl,rfl,⟨hn.symm,fun i hi=>hf i (by omega)⟩,trivial⟩
theorem awake_ct:Ct Tryz.prog 4 [] fun r outs=>r = .bool true∧outs = []:=by
 have g1:=make_ct s0 s0_ok 1 1 (by decide) raw1 rfl (by decide) ne1
 have g2:=make_ct s0 s0_ok 8 2 (by decide) raw2 rfl (by decide) ne2
 rw [show s0.f.length=2 from rfl] at g1 g2
 rw [mk1] at g1
 rw [mk2] at g2
 replace g1:=fun f hf=>raw_at s0 1 1 raw1 f hf rfl g1
 replace g2:=fun f hf=>raw_at s0 8 2 raw2 f hf rfl g2
 have g3:=enc0_ct 1 1 (by decide)
 have g4:=enc0_ct 8 2 (by decide)
 have hW:∀ i,i<2→(Bs.mk (w0 i).1 (w0 i).2).ok:=fun i hi=>by
  rcases fld_ok s0 (P0.getD i Pm.z) (P0_ok.p i hi) (5,0) ⟨1,1,v0⟩ i with h | h
  ·exfalso
   have:∀ i<2,(w0 i).2≠[]:=by decide +kernel
   exact this i hi (by unfold w0;rw [h])
  ·exact ⟨h.L,h.n⟩
 have g5:=cmpW_ct w0 hW (fun i hi=>by
  obtain rfl | rfl:i=0∨i=1:=by omega
  ·exact dc0
  ·exact dc1) 1 1 8 2
 have g6:=scheck_ct s0 s0_ok
 generalize w0=W at *
 refine .det (De Tryz.func4 [] [2] ?_)
 repeat' first|(refine S0 ?_;conv=>whnf)
 refine CodeOK.cutW hΓ hm [] [] (by kernel_rfl) (α:=Unit) (fun u=>[(1,.loc 0 0),(2,.tab 3 2 fun i=>(P0.getD i Pm.z).l)]) (fun u=>[(0,.var s0.l)]) 1 (fun u=>True) ?_ ?_
 ·repeat' first|(refine S0 ?_;conv=>whnf)
  refine Again.by () trivial ?_
  repeat' first|(refine S0 ?_;conv=>whnf)|exact T0|(exact ⟨rfl,fun i hi=>match i,hi with | 0,_=>rfl | 1,_=>rfl⟩)|(exact ⟨rfl,fun i hi=>match i,hi with | 0,_=>rfl⟩)|(refine Vm ?_ ?_)
 ·intro _ _
  repeat' first|(refine S0 ?_;conv=>whnf)|(refine Vo ?_)|exact T0|(refine B1 ?_)|(refine CallOK.ctF (g:=19) (Step.out ?_))|(refine Met.by (g1 _ fun i hi=>match i,hi with | 0,_=>rfl | 1,_=>rfl) ?_;rintro q outs ⟨rfl,rfl⟩)|(refine Met.by (g2 _ fun i hi=>match i,hi with | 0,_=>rfl | 1,_=>rfl) ?_;rintro q outs ⟨rfl,rfl⟩)|(refine Met.by g3 ?_;rintro q outs ⟨rfl,rfl⟩)|(refine Met.by g4 ?_;rintro q outs ⟨rfl,rfl⟩)|(refine Met.by g5 ?_;rintro q outs ⟨rfl,rfl⟩)|(refine Met.by (pattern2_ct.arg ⟨rfl,⟨rfl,fun i hi=>match i,hi with | 0,_=>rfl | 1,_=>rfl⟩,⟨rfl,fun _ _=>rfl⟩,trivial⟩) ?_;rintro q outs ⟨rfl,rfl⟩)|(refine Met.by g6 ?_;rintro q outs ⟨rfl,rfl⟩)|(refine T2 ?_ ?_)|(refine K0 ?_)|(refine Vm ?_ ?_)
  exact ⟨trivial,trivial,trivial⟩
end Kx
open Go Sx Go.Proofs
namespace Kx
theorem mput_len (m:MpT) (r:List Int) (v:Int):(mput m r v).length≤m.length+1:=by
 unfold mput
 split<;>simp
theorem agT_len (i:Nat) (s:Int):∀ (ts:List Int) (m:MpT),(agT i s ts m).length≤m.length+ts.length
 | [],_=>Nat.le_refl _
 | t :: ts,m=>by
   have h:=agT_len i s ts (upA i s t m)
   have h2:(upA i s t m).length≤m.length+1:=mput_len _ _ _
   show (agT i s ts (upA i s t m)).length≤_
   rw [List.length_cons];omega
theorem agS_len (i:Nat) (ts:List Int):∀ (ss:List Int) (m:MpT),(agS i ss ts m).length≤m.length+ss.length*ts.length
 | [],_=>by simp [agS]
 | s :: ss,m=>by
   have h:=agS_len i ts ss (agT i s ts m)
   have h2:=agT_len i s ts m
   show (agS i ss ts (agT i s ts m)).length≤_
   rw [List.length_cons,Nat.succ_mul];omega
theorem agX_len (i:Nat) (x y:Bk) (m:MpT):(agX i x y m).length≤m.length+x.2.length*y.2.length:=by
 unfold agX
 split
 ·exact agS_len i _ _ _
 ·omega
theorem agY_len (i:Nat) (x:Bk):∀ (ys:List Bk) (m:MpT),(agY i x ys m).length≤m.length+x.2.length*(ys.flatMap Prod.snd).length
 | [],_=>by simp [agY]
 | y :: ys,m=>by
   have h:=agY_len i x ys (agX i x y m)
   have h2:=agX_len i x y m
   show (agY i x ys (agX i x y m)).length≤_
   rw [List.flatMap_cons,List.length_append,Nat.mul_add];omega
theorem agB_len (i:Nat) (ys:List Bk):∀ (xs:List Bk) (m:MpT),(agB i xs ys m).length≤m.length+(xs.flatMap Prod.snd).length*(ys.flatMap Prod.snd).length
 | [],_=>by simp [agB]
 | x :: xs,m=>by
   have h:=agB_len i ys xs (agY i x ys m)
   have h2:=agY_len i x ys m
   show (agB i xs ys (agY i x ys m)).length≤_
   rw [List.flatMap_cons,List.length_append,Nat.add_mul];omega
theorem agN_len (A B:List (List Bk)):∀ n,(∀ i,i<n→((A.getD i []).flatMap Prod.snd).length≤8∧((B.getD i []).flatMap Prod.snd).length≤8)→(agN A B n).length≤64*n
 | 0,_=>Nat.le_refl _
 | n+1,h=>by
   have h1:=agN_len A B n fun i hi=>h i (by omega)
   have h2:=agB_len n (B.getD n []) (A.getD n []) (agN A B n)
   obtain ⟨h3,h4⟩:=h n (by omega)
   have h5:=Nat.mul_le_mul h3 h4
   show (agB n (A.getD n []) (B.getD n []) (agN A B n)).length≤_
   omega
end Kx
open Go Sx Go.Proofs
namespace Kx
structure KsOk (s:Sc) (K:List (List Cp)):Prop where
 n:K.length≤4
 k:∀ k ∈ K,KyOk s k
 a:(atL K).length≤10
def upM (a e:Int):Int:=bitI .or .i64 a (IntKind.i64.wrap (1*2 ^ min e.toNat IntKind.i64.bits))
theorem bits_in:∀ n<5,∀ m<2 ^ n,(∀ e ∈ bitsN ((m:Nat):Int) 8,0≤e∧e<((n:Nat):Int))∧(bitsN ((m:Nat):Int) 8).foldl upM 0=((m:Nat):Int)∧(bitsN ((m:Nat):Int) 8).length≤8:=by decide +kernel
theorem foldl_step {l:List Int} {j:Nat} (h:j<l.length):(l.take (j+1)).foldl upM 0=upM ((l.take j).foldl upM 0) (l.getD j 0):=by
 rw [List.take_add_one,List.getElem?_eq_getElem h,List.foldl_append,List.getD_eq_getElem?_getD,List.getElem?_eq_getElem h];rfl
def BsOk (K:List (List Cp)) (A:List (List Bk)):Prop:=A.length=K.length∧∀ L ∈ A,BkOk L∧(L.flatMap Prod.snd).length≤8
theorem KyOk.len {s:Sc} {k:List Cp} (h:KyOk s k):k.length≤3:=h.o.n
theorem kys_len {s:Sc} {K:List (List Cp)} (h:∀ k ∈ K,KyOk s k):∀ i,i<K.length→(K.getD i []).length≤3:=fun i hi=>(h _ (mem_getD hi)).len
theorem plans_ct (xs:List Int):Ct Tryz.prog 3 [ints xs] fun r outs=>r = .bool true∧outs = []:=by
 refine .det (De Tryz.func3 ord3 [5] ?_)
 repeat' first|(refine S0 ?_;conv=>whnf)|exact T0|(with_reducible refine Br.tt ?_)|(refine Met.by awake_ct ?_;rintro q outs ⟨rfl,rfl⟩)|(refine Br.d (fun h=>?_) fun h=>?_)|(refine Br.swap ?_)|(refine Br.bnot ?_)|(refine T2 ?_ ?_)|(refine CallOK.io1 (g:=7) (Step.out ?_))|(refine K0 ?_)|(refine Met.by (g:=5) (few_ct _) ?_;rintro q outs ⟨rfl,rfl⟩)|(refine Met.by (g:=6) (new_ct _ (by assumption)) ?_;rintro q outs ⟨d,hd,rfl,rfl⟩)|(refine Met.by (g:=7) (schema_ct _) ?_;rintro q outs ⟨s,d,hs,rfl,rfl⟩)
 refine CodeOK.cutW hΓ hm ord3 [6] (by kernel_rfl) (α:=Sc × (Int × Int) × List (List Cp) × Dk) (fun z=>[(3,.loc 0 0),(4,.loc 1 0),(5,.loc 2 0),(6,kys z.2.2.1)]) (fun z=>[(0,.var z.2.2.2.ls),(1,.var z.1.l),(2,.var [u64 z.2.1.1,u64 z.2.1.2])]) 3 (fun z=>ScD z.1∧z.2.2.1.length≤4∧∀ k ∈ z.2.2.1,KyOk z.1 k) ?_ ?_
 ·repeat' first|(refine S0 ?_;conv=>whnf)|exact T0|(refine T2 ?_ ?_)|(refine CallOK.io1 (g:=8) (Step.out ?_))|(refine CallOK.io1 (g:=9) (Step.out ?_))|(refine Met.by (g:=8) (key_ct _) ?_;rintro q outs ⟨k,d,hk,rfl,rfl⟩)|(refine Met.by (g:=9) (bkeys_ct _ _ (by assumption)) ?_;rintro q outs ⟨K,d,⟨hK,hKy⟩,rfl,rfl⟩)
  all_goals refine Again.by (s,k,K,d) ⟨hs,hK,hKy⟩ ?_
  repeat' first|(refine S0 ?_;conv=>whnf)|(refine Vo ?_)|exact T0
 ·intro ⟨s,q,K,d⟩ ⟨hs,hK,hKy⟩
  dsimp only at hs hK hKy ⊢
  have h3:=kys_len hKy
  repeat' first|(refine S0 ?_;conv=>whnf)
  refine CodeOK.cutW hΓ hm ord3 [8,9] (by kernel_rfl) (α:=List (List Cp)) (fun z=>[(3,.loc 0 0),(4,.loc 1 0),(5,.loc 2 0),(6,kys z)]) (fun z=>[(0,.var d.ls),(1,.var s.l),(2,.var [u64 q.1,u64 q.2])]) 3 (fun z=>KsOk s z) ?_ ?_
  ·repeat' first|(refine S0 ?_;conv=>whnf)|(refine Met.by (atoms_ct K (by omega) (fun i hi=>by have:=h3 i hi;omega)) ?_;rintro q outs ⟨rfl,rfl⟩)|(refine Br.d (fun h=>?_) fun h=>?_)|(refine K0 ?_)|(refine Vm ?_ ?_)
   ·have:=atL_len K 3 h3;omega
   ·have h0:0<K.length:=by have:=atL_len K 3 h3;omega
    refine Again.by [K.getD 0 []] ⟨by simp,fun k hk=>?_,?_⟩ ?_
    ·rw [List.mem_singleton.1 hk];exact hKy _ (mem_getD h0)
    ·have:=atL_len [K.getD 0 []] 3 (fun i hi=>by
      obtain rfl:i=0:=by simpa using hi
      exact h3 0 h0)
     simp at this ⊢;omega
    repeat' first|(refine S0 ?_;conv=>whnf)|(refine Vo ?_)|exact T0|(exact ⟨rfl,fun i hi=>by rw [show i=0 from Nat.lt_one_iff.1 hi];rfl⟩)|(refine Vm ?_ ?_)
   ·refine Again.by K ⟨hK,hKy,by omega⟩ ?_
    repeat' first|(refine S0 ?_;conv=>whnf)|(refine Vo ?_)|exact T0
  ·intro K hK
   have hsk:=hs.ok
   have hKn:=hK.n
   repeat' first|(refine S0 ?_;conv=>whnf)
   refine CodeOK.cutW hΓ hm ord3 [9] (by kernel_rfl) (α:=List (List Bk) × Dk) (fun y=>[(3,.loc 0 0),(4,.loc 1 0),(5,.loc 2 0),(6,kys K),(7,bkk y.1),(8,i64 0)]) (fun y=>[(0,.var y.2.ls),(1,.var s.l),(2,.var [u64 q.1,u64 q.2])]) 3 (fun y=>BsOk K y.1) ?_ ?_
   ·repeat' first|(refine S0 ?_;conv=>whnf)|exact T0|(refine Met.by (ball_ct q s hsk K (by omega) hK.k _ (‹RsOk s _∧_›).1 (by have:=(‹RsOk s _∧_›).2;omega)) ?_;rintro q outs ⟨A2,⟨hAn,hA⟩,rfl,rfl⟩)|(refine T2 ?_ ?_)|(refine CallOK.io1 (g:=12) (Step.out ?_))|(refine K1 ?_)|(refine Met.by (g:=12) (records_ct _ _ (by assumption) _ (by omega)) ?_;rintro q outs ⟨l,d,hl,rfl,rfl⟩)
    all_goals refine Again.by (A2,‹Dk›) ⟨hAn,fun L hL=>⟨(hA L hL).1,by have:=(hA L hL).2;have:=(‹RsOk s _∧_›).2;omega⟩⟩ ?_
    repeat' first|(refine S0 ?_;conv=>whnf)|(refine Vo ?_)|exact T0
   ·intro ⟨A,d⟩ hA
    dsimp only at hA ⊢
    repeat' first|(refine S0 ?_;conv=>whnf)
    refine CodeOK.cutW hΓ hm ord3 [16] (by kernel_rfl) (α:=List (List Bk) × Dk) (fun y=>[(3,.loc 0 0),(4,.loc 1 0),(5,.loc 2 0),(6,kys K),(7,bkk A),(8,i64 0),(9,bkk y.1),(10,i64 0)]) (fun y=>[(0,.var y.2.ls),(1,.var s.l),(2,.var [u64 q.1,u64 q.2])]) 3 (fun y=>BsOk K y.1) ?_ ?_
    ·repeat' first|(refine S0 ?_;conv=>whnf)|exact T0|(refine Met.by (ball_ct q s hsk K (by omega) hK.k _ (‹RsOk s _∧_›).1 (by have:=(‹RsOk s _∧_›).2;omega)) ?_;rintro q outs ⟨A2,⟨hAn,hA⟩,rfl,rfl⟩)|(refine T2 ?_ ?_)|(refine CallOK.io1 (g:=12) (Step.out ?_))|(refine K1 ?_)|(refine Met.by (g:=12) (records_ct _ _ (by assumption) _ (by omega)) ?_;rintro q outs ⟨l,d,hl,rfl,rfl⟩)
     all_goals refine Again.by (A2,‹Dk›) ⟨hAn,fun L hL=>⟨(hA L hL).1,by have:=(hA L hL).2;have:=(‹RsOk s _∧_›).2;omega⟩⟩ ?_
     repeat' first|(refine S0 ?_;conv=>whnf)|(refine Vo ?_)|exact T0
    ·intro ⟨B,d⟩ hB
     dsimp only at hB ⊢
     have hA8:∀ i,i<A.length→BkOk (A.getD i [])∧((A.getD i []).flatMap Prod.snd).length≤8:=fun i hi=>hA.2 _ (mem_getD hi)
     have hB8:∀ i,i<B.length→BkOk (B.getD i [])∧((B.getD i []).flatMap Prod.snd).length≤8:=fun i hi=>hB.2 _ (mem_getD hi)
     have hAn:=hA.1;have hBn:=hB.1
     have fl:∀ (M:List (List Bk)),(∀ i,i<M.length→BkOk (M.getD i [])∧((M.getD i []).flatMap Prod.snd).length≤8)→∀ i k,((M.getD i []).getD k (0,[])).2.length≤64:=fun M hM i k=>by
      by_cases hi:i<M.length
      ·have h8:=(hM i hi).2
       generalize M.getD i []=L at *
       by_cases hk:k<L.length
       ·have hm:=mem_getD (z:=((0:Int),([]:List Int))) hk
        generalize L.getD k (0,[])=x at *
        obtain ⟨a,b,rfl⟩:=List.append_of_mem hm
        simp only [List.flatMap_append,List.flatMap_cons,List.length_append] at h8
        omega
       ·rw [List.getD_eq_getElem?_getD (l:=L),List.getElem?_eq_none (by omega)];exact Nat.zero_le _
      ·rw [List.getD_eq_getElem?_getD (l:=M),List.getElem?_eq_none (by omega)];simp
     have hL:(agN A B A.length).length≤4096:=by
      have:=agN_len A B A.length fun i hi=>⟨(hA8 i hi).2,(hB8 i (by omega)).2⟩
      omega
     have he:=every_ct A B (by omega) (by omega) (fun i hi=>(hA8 i hi).1) (fun i hi=>(hB8 i hi).1) (fl A hA8) (fl B hB8) hL
     have hat:=atoms_ct K (by omega) (fun i hi=>by have:=kys_len hK.k i hi;omega)
     have ha10:=hK.a
     repeat' first|(refine S0 ?_;conv=>whnf)|(refine Met.by he ?_;rintro q outs ⟨E,⟨hE1,hE2⟩,rfl,rfl⟩)|(refine Met.by hat ?_;rintro q outs ⟨rfl,rfl⟩)|(refine K0 ?_)
     refine CodeOK.loopW hΓ hm ord3 [] (by kernel_rfl) (α:=List Int × Dk) (fun z=>[(3,.loc 0 0),(4,.loc 1 0),(5,.loc 2 0),(6,kys K),(7,bkk A),(8,i64 0),(9,bkk B),(10,i64 0),(11,ints E),(12,i64 0),(13,.own 3),(80,i64 (atL K).length),(81,i64 z.1.length)]) (fun z=>[(0,.var z.2.ls),(1,.var s.l),(2,.var [u64 q.1,u64 q.2]),(3,.arr 3 1 z.1.length fun i=>[i64 (z.1.getD i 0)])]) 4 (fun z=>z.1.length≤(atL K).length∧∀ x ∈ z.1,0≤x∧x≤64) (fun z=>(atL K).length - z.1.length) ?_ ?_
     ·refine Again.by ([],d) ⟨Nat.zero_le _,nofun⟩ ?_
      repeat' first|(refine S0 ?_;conv=>whnf)|(refine Vo ?_)|exact T0|(rfl)|(refine Vm ?_ ?_)
     ·intro ⟨r,d⟩ ⟨hr,hrb⟩
      dsimp only at hr hrb ⊢
      repeat' first|(refine S0 ?_;conv=>whnf)|(refine Vb ?_)|(refine W6 ?_)|(refine Br.d (fun h=>?_) fun h=>?_)|(refine CallOK.io1 (g:=14) (Step.out ?_))|(refine Met.by (g:=14) (next_ct _ _) ?_;rintro q outs ⟨x,d,hx,rfl,rfl⟩)
      ·refine Again.by (r ++ [x],d) ⟨⟨by simp;omega,fun y hy=>?_⟩,by simp;omega⟩ ?_
       ·rcases List.mem_append.1 hy with h | h
        ·exact hrb y h
        ·rw [List.mem_singleton.1 h];have:=hx.2.2 (by omega);have:=hx.1;omega
       repeat' first|(refine S0 ?_;conv=>whnf)|(refine Vo ?_)|exact T0|(exact app_one (fun x:Int=>[i64 x]) 0 (fun _ _=>rfl) r x rfl)|(simp;done)|(refine Vm ?_ ?_)
      ·have hKr:KrOk K r:=⟨by omega,fun i hi=>by have:=kys_len hK.k i hi;omega,ha10,by omega,hrb⟩
       have hr2:r.length=(atL K).length:=by omega
       have hEb:∀ x ∈ E,0≤x∧x≤4096:=fun x hx=>by
        obtain ⟨j,hj,rfl⟩:=List.getElem_of_mem hx
        have:=hE2 j hj
        rw [List.getD_eq_getElem?_getD,List.getElem?_eq_getElem hj] at this
        simp only [Option.getD_some] at this
        rw [this]
        have:=cntL_in (agN A B A.length) j
        omega
       have hE0:E.getD 0 0=0:=by
        rw [hE2 0 (by rw [hE1];exact Nat.two_pow_pos _)]
        have:∀ l:MpT,cntL l 0=0:=fun l=>by
         induction l with
         | nil=>rfl
         | cons x l ih=>rw [cntL,hitB0,ih];rfl
        exact this _
       skip
       refine CodeOK.cutW hΓ hm ord3 [] (by kernel_rfl) (α:=Int × Dk) (fun y=>[(3,.loc 0 0),(4,.loc 1 0),(5,.loc 2 0),(6,kys K),(7,bkk A),(8,i64 0),(9,bkk B),(10,i64 0),(11,ints E),(12,i64 0),(13,ints r),(14,i64 y.1)]) (fun y=>[(0,.var y.2.ls),(1,.var s.l),(2,.var [u64 q.1,u64 q.2])]) 3 (fun y=>0≤y.1∧y.1<40) ?_ ?_
       ·repeat' first|(refine S0 ?_;conv=>whnf)|(refine CallOK.io1 (g:=14) (Step.out ?_))|(refine Met.by (g:=14) (next_ct _ _) ?_;rintro q outs ⟨x,d,hx,rfl,rfl⟩)
        refine Again.by (x,d) ⟨hx.1,hx.2.2 (by omega)⟩ ?_
        repeat' first|(refine S0 ?_;conv=>whnf)|(refine Vo ?_)|exact T0
       ·intro ⟨bu,d⟩ ⟨hb0,hb1⟩
        dsimp only at hb0 hb1 ⊢
        have hch:=choose_ct K r E bu hKr (by omega) (by rw [hE1,hAn]) hEb hb0 (by rw [hE0];exact hb0)
        repeat' first|(refine S0 ?_;conv=>whnf)|(refine B1 ?_)|(refine B0 ?_)|(refine Met.by hch ?_;rintro q outs ⟨m,⟨hm1,hm2,hm3⟩,rfl,rfl⟩)|(refine Br.swap ?_)|(refine Br.bnot ?_)|(refine K0 ?_)
        have hbi:=bits_in K.length (by omega) m (by rw [hE1,hAn] at hm1;exact hm1)
        refine CodeOK.loopW hΓ hm ord3 [] (by kernel_rfl) (α:=Nat) (fun j=>[(3,.loc 0 0),(4,.loc 1 0),(5,.loc 2 0),(6,kys K),(7,bkk A),(8,i64 0),(9,bkk B),(10,i64 0),(11,ints E),(12,i64 0),(13,ints r),(14,i64 bu),(15,.loc 3 0),(16,i64 0),(17,i64 (((bitsN (m:Int) 8).take j).foldl upM 0)),(120,ints (bitsN (m:Int) 8)),(121,i64 (bitsN (m:Int) 8).length),(122,i64 j)]) (fun j=>[(0,.var d.ls),(1,.var s.l),(2,.var [u64 q.1,u64 q.2]),(3,.var [ints (bitsN (m:Int) 8),i64 (E.getD m 0),i64 (msW K r m)])]) 4 (fun j=>j≤(bitsN (m:Int) 8).length) (fun j=>(bitsN (m:Int) 8).length - j) ?_ ?_
        ·refine Again.by 0 (Nat.zero_le _) ?_
         repeat' first|(refine S0 ?_;conv=>whnf)|(refine Vo ?_)|exact T0|(rfl)|(refine Vm ?_ ?_)
        ·intro j hj
         by_cases hjl:j<(bitsN (m:Int) 8).length
         ·have hej:0≤(bitsN (m:Int) 8).getD (j:Int).toNat 0∧(bitsN (m:Int) 8).getD (j:Int).toNat 0<K.length:=hbi.1 _ (mem_getD (by simpa using hjl))
          repeat' first|(refine S0 ?_;conv=>whnf)|(refine Vo ?_)|(refine W6 ?_)|(refine B1 ?_)|(refine B0 ?_)|(refine Wr.raw ?_)|(refine Br.swap ?_)
          refine Again.by (j+1) ⟨by omega,by omega⟩ ?_
          rw [foldl_step hjl]
          repeat' first|(refine S0 ?_;conv=>whnf)|(refine Vo ?_)|exact T0|(rfl)|(refine Vm ?_ ?_)
         ·obtain rfl:j=(bitsN (m:Int) 8).length:=by omega
          rw [List.take_length,hbi.2.1]
          have hml:=mlist_ct A B (by omega) (by omega) (fun i hi=>(hA8 i hi).1) (fun i hi=>(hB8 i hi).1) (fl A hA8) (fl B hB8) hL m (by omega) (by rw [shl_pow _ (by omega)];rw [hE1] at hm1;exact_mod_cast hm1)
          have hpm:=pmissed_ct K r hKr m (by omega) (by rw [hE1,hAn] at hm1;exact_mod_cast hm1)
          have hoE:=hE2 m hm1
          have hshl:∀ n<5,IntKind.i64.wrap (1*2 ^ min ((n:Nat):Int).toNat IntKind.i64.bits)=((2 ^ n:Nat):Int):=by decide +kernel
          have h16:2 ^ K.length≤16:=Nat.pow_le_pow_right (by omega) hKn
          have hsk2:=hshl K.length (by omega)
          repeat' first|(refine S0 ?_;conv=>whnf)|(refine B1 ?_)|(refine B0 ?_)|(refine Met.by hml ?_;rintro q outs ⟨o,ho,rfl,rfl⟩)|(refine Met.by hpm ?_;rintro q outs ⟨rfl,rfl⟩)|(refine Br.swap ?_)|(refine Br.bnot ?_)|(refine K0 ?_)
          all_goals try omega
          refine CodeOK.loopW hΓ hm ord3 [] (by kernel_rfl) (α:=Nat) (fun j=>[(6,kys K),(7,bkk A),(9,bkk B),(13,ints r),(14,i64 bu),(15,.loc 3 0),(24,i64 j)]) (fun j=>[(3,.var [ints (bitsN (m:Int) 8),i64 (E.getD m 0),i64 (msW K r m)])]) 4 (fun j=>j≤2 ^ K.length) (fun j=>2 ^ K.length - j) ?_ ?_
          ·refine Again.by 0 (Nat.zero_le _) ?_
           repeat' first|(refine S0 ?_;conv=>whnf)|(refine Vo ?_)|exact T0
          ·intro j hj
           have hun:=fun hj2:j<2 ^ K.length=>union_ct A B (by omega) (by omega) (fun i hi=>(hA8 i hi).1) (fun i hi=>(hB8 i hi).1) (fl A hA8) (fl B hB8) hL j (by omega) (by rw [shl_pow _ (by omega),hAn];exact_mod_cast hj2)
           have hpj:=fun hj2:j<2 ^ K.length=>pmissed_ct K r hKr j (by omega) (by exact_mod_cast hj2)
           have hEj:=fun hj2:j<2 ^ K.length=>hE2 j (by rw [hE1,hAn];exact hj2)
           have hmj:=fun hj2:j<2 ^ K.length=>hm3 j (by rw [hE1,hAn];exact hj2)
           repeat' first|(refine S0 ?_;conv=>whnf)|(refine Vo ?_)|exact T0|(refine W6 ?_)|(refine B1 ?_)|(refine B0 ?_)|(refine Wr.eq hsk2 ?_)|(refine Met.by (hun (by omega)) ?_;rintro q outs ⟨rfl,rfl⟩)|(refine Met.by (hpj (by omega)) ?_;rintro q outs ⟨rfl,rfl⟩)|(refine Br.d (fun h=>?_) fun h=>?_)|(refine Br.swap ?_)|(refine Br.bnot ?_)|(refine T2 ?_ ?_)|(refine K0 ?_)
           ·refine Again.by (j+1) ⟨by omega,by omega⟩ ?_
            repeat' first|(refine S0 ?_;conv=>whnf)|(refine Vo ?_)|exact T0
           ·refine Again.by (j+1) ⟨by omega,by omega⟩ ?_
            repeat' first|(refine S0 ?_;conv=>whnf)|(refine Vo ?_)|exact T0
end Kx
open Go Sx Go.Proofs Go.Lib
namespace Kx
theorem laid_of {P:Program} {l:List (String × DataW Unit)} {w:World} (h:laidMet P l w) {g:Nat} {t e:TypeId}
 (hg:P.globalNamed "math/bits.deBruijn64tab" = some g) (hty:(P.globals[g]?).map (·.type)=some t) (ht:P.underlying t=some (.array 64 e)) (he:P.underlying e=some (.int .u8)) (hce:P.cellsOf e=1) (hct:P.cellsOf t=64)
 (hm:("math/bits.deBruijn64tab",tabData .u8 (Lib.deBruijn64tab.map fun k:Nat=>(k:Int))) ∈ l):Sx.Laid P w.heap fun _=>False:=by
 intro x hx g' hg'
 obtain rfl:x=("math/bits.deBruijn64tab",Lib.deBruijn64tab):=List.mem_singleton.1 hx
 obtain rfl:g=g':=Option.some.inj (hg.symm.trans hg')
 obtain ⟨g1,t1,cs,fuel,p,h1,h2,h3,h4⟩:=Go.Lib.laidMet.reads h hm
 obtain rfl:=Option.some.inj (hg.symm.trans h1)
 obtain rfl:=Option.some.inj (hty.symm.trans h2)
 have hcs:=cells_of_tab ht he hce hct h4
 unfold World.var? at h3
 rw [hg] at h3
 simp only [Option.bind_some] at h3
 cases ho:w.heap[g]? with
 | none=>rw [ho] at h3;cases h3
 | some o =>
   rw [ho] at h3
   cases o<;>simp only [reduceCtorEq,Option.some.injEq] at h3
   subst h3
   refine ⟨(Array.getElem?_eq_some_iff.1 ho).1,id,fun j hj=>?_⟩
   unfold cellAt
   rw [ho]
   simp only [Nat.zero_add]
   rw [←Array.getElem?_toList,hcs]
   simp [List.map_map]
   rfl
end Kx
