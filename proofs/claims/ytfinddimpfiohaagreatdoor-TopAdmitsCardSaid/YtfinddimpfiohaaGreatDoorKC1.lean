/-
  Messages that are valid.
-/
import Derived.Test.YtfinddimpfiohaaGreatDoorKB9
import Derived.Lib.TrailingZeros
import Derived.Lib.LaidU8
set_option linter.unusedSimpArgs false
set_option linter.unusedVariables false
set_option maxRecDepth 4000
open Go Sx Go.Proofs
namespace Kx
theorem erOk_of {S:Stg} (hS:S.ok) (k:Int × Int) {r:Rc} (hr:r.ok S.s):ErOk r.id r.ver S.s.f.length fun i=>fldW S.s (S.P.getD i Pm.z) k r i :=
 ⟨hr.i1,hr.i2,hr.v1,hr.v2,hS.s.ok.n1,hS.s.ok.n5,fun i hi=>fld_ok _ _ (hS.ps.p i hi) _ _ _⟩
structure ShOk (S:Stg) (l:List Rc) (Z:List Hz):Prop where
 rs:RsOk S.s l
 n:l.length<=12
 z:ZsOk S Z
 zn:Z.length=l.length
theorem ShOk.at_ {S:Stg} {l:List Rc} {Z:List Hz} (h:ShOk S l Z) {j:Nat} (hj:j<l.length):ZOk S (Z.getD j []):=h.z _ (getD_in (by rw [h.zn];exact hj))
theorem shCheck_ct (S:Stg) (hS:S.ok) (k:Int × Int) (l:List Rc) (Z:List Hz) (h:ShOk S l Z):Cr 128 [i64 S.s.f.length,i64 S.K.length,shN S k l Z l.length] (i64 0):=by
 have n1:=hS.s.ok.n1;have n5:=hS.s.ok.n5;have hK1:=hS.K1;have hK5:=hS.K5;have hn:=h.n;refine .det (De Tryz.func128 ord128 [] ?_);repeat' first|apply S0;conv=>whnf|refine B0 ?_|refine Br.swap ?_
 refine Lw ord128 [] (α:=Nat) (fun i=>[(0,i64 S.s.f.length),(1,i64 S.K.length),(2,shN S k l Z l.length),(28,shN S k l Z l.length),(29,i64 l.length),(30,i64 i)]) (fun i=>[]) 0 (fun i=>i<=l.length) (fun i=>l.length - i) ?_ ?_
 ·refine Again.by 0 (zle _) ?_;repeat' first|apply S0;conv=>whnf|refine Vo ?_|exact T0
 ·intro i hi
  have hr:=fun h9:(i:Int)<l.length=>h.rs.ok (l.getD (i:Int).toNat Rc.z) (getD_in (by omega))
  have hz:=fun h9:(i:Int)<l.length=>(h.at_ (j:=(i:Int).toNat) (by omega)).1
  have hv:=fun h9:(i:Int)<l.length=>evalid_ct _ _ _ _ (erOk_of hS k (hr h9))
  have ha:(i:Int)<l.length->0<(i:Int)->(l.getD ((i:Int) - 1).toNat Rc.z).id<(l.getD (i:Int).toNat Rc.z).id:=fun h9 h0=>by
   have:=h.rs.asc (i - 1) (by omega)
   rwa [show i - 1+1=i by omega,show i - 1=((i:Int) - 1).toNat by omega,show l.getD i Rc.z=l.getD (i:Int).toNat Rc.z from rfl] at this
  by_cases hlt:(i:Int)<l.length
  ·have hz:=hz hlt;have hv:=hv hlt;have ha:=ha hlt;repeat' first|apply S0;conv=>whnf|refine Vo ?_|refine W6 ?_|with_reducible refine Br.tt ?_|refine B1 ?_|refine B0 ?_|(refine M0 hv ?_)|(refine Br.d (fun h=>?_) fun h=>?_)|refine Br.swap ?_|refine Br.bnot ?_|refine K0 ?_
   all_goals try
    refine Again.by (i+1) ⟨by omega,by omega⟩ ?_;repeat' first|apply S0;conv=>whnf|refine Vo ?_|exact T0
    done
   all_goals
    have:=ha (by omega);omega
  ·repeat' first|apply S0;conv=>whnf|exact T0|refine B0 ?_|refine T2 ?_ ?_
def ixS (id:Int):List Rc->Nat->Int
 | [],_=>-1
 | r :: l,i=>if r.id=id then i else ixS id l (i+1)
theorem ixS_in (id:Int):∀ (l:List Rc) (i:Nat),(∃ r ∈ l,r.id=id)->0<=ixS id l i
 | [],_,h=>by obtain ⟨_,h,_⟩:=h;cases h
 | r :: l,i,h=>by
   rw [ixS];split
   ·omega
   ·rename_i hne;obtain ⟨x,hx,he⟩:=h
    rcases List.mem_cons.1 hx with rfl | hx
    ·exact absurd he hne
    ·exact ixS_in id l _ ⟨x,hx,he⟩
theorem fcl_ct (S:Stg) (k:Int × Int) (r:Rc) (z:Hz) (id:Int):Cr 190 [.agg (snL S k r z),.ref [i64 id]] (.bool (decide (r.id=id))):=by
 refine .det (De Tryz.func190 [] [] ?_);repeat' first|apply S0;conv=>whnf|exact T0|refine T2 ?_ ?_
theorem shIx_ct (S:Stg) (k:Int × Int) (l:List Rc) (Z:List Hz) (id:Int) (hn:l.length<=12):Cr 189 [shN S k l Z l.length,.fn 190 [.ref [i64 id]]] (i64 (ixS id l 0)):=by
 refine .det (De Tryz.func189 [] [] ?_);repeat' first|apply S0;conv=>whnf
 refine Lw [] [] (α:=Nat) (fun i=>[(0,shN S k l Z l.length),(1,.fn 190 [.ref [i64 id]]),(7,i64 l.length),(8,i64 i)]) (fun i=>[]) 0 (fun i=>i<=l.length/\ixS id l 0=ixS id (l.drop i) i) (fun i=>l.length - i) ?_ ?_
 ·refine Again.by 0 ⟨zle _,rfl⟩ ?_;repeat' first|apply S0;conv=>whnf|refine Vo ?_|exact T0|refine Cho.l ?_|(refine Vc.mk ⟨rfl,rfl⟩ (Step.out ?_))
 ·intro i ⟨hi,he⟩;dsimp only at hi he ⊢;by_cases hlt:(i:Int)<l.length
  ·have hc:=fcl_ct S k (l.getD (i:Int).toNat Rc.z) (Z.getD (i:Int).toNat []) id
   have he2:ixS id (l.drop i) i=if (l.getD (i:Int).toNat Rc.z).id=id then (i:Int) else ixS id (l.drop (i+1)) (i+1):=by rw [drop_step l Rc.z i (by omega)];rfl
   by_cases hv:(l.getD (i:Int).toNat Rc.z).id=id
   ·rw [decide_eq_true hv] at hc;rw [if_pos hv] at he2;rw [he,he2];repeat' first|apply S0;conv=>whnf|refine Vo ?_|exact T0|with_reducible refine Br.tt ?_|refine B1 ?_|(refine M0 hc ?_)|refine T2 ?_ ?_|refine K0 ?_
   ·rw [decide_eq_false hv] at hc;rw [if_neg hv] at he2;repeat' first|apply S0;conv=>whnf|refine Vo ?_|refine W6 ?_|with_reducible refine Br.ff ?_|refine B1 ?_|(refine M0 hc ?_)|refine K0 ?_
    refine Again.by (i+1) ⟨⟨by omega,by rw [he,he2]⟩,by omega⟩ ?_;repeat' first|apply S0;conv=>whnf|refine Vo ?_|exact T0|refine Cho.l ?_|(refine Vc.mk ⟨rfl,rfl⟩ (Step.out ?_))
  ·rw [he,ddl (by omega)];repeat' first|apply S0;conv=>whnf|exact T0|refine B0 ?_|refine T2 ?_ ?_
   all_goals rfl
theorem shFind_ct (S:Stg) (k:Int × Int) (l:List Rc) (Z:List Hz) (id:Int) (hn:l.length<=12):Cr 129 [shN S k l Z l.length,i64 id] (i64 (ixS id l 0)):=by
 have h:=shIx_ct S k l Z id hn;refine .det (De Tryz.func129 [] [] ?_);repeat' first|apply S0;conv=>whnf|exact T0|exact noSh_int _ _|(refine M0 h ?_)|refine T2 ?_ ?_|refine K0 ?_|refine Vm ?_ ?_
def mgL (S:Stg) (k:Int × Int) (a b c:Int) (l:List Rc) (Z:List Hz) (dd:List Int):List D:=[i64 a,i64 b,i64 c,shN S k l Z l.length,ints dd]
structure MgOk (S:Stg) (a b c:Int) (l:List Rc) (Z:List Hz) (dd:List Int):Prop where
 sh:ShOk S l Z
 a:0<=a/\a<4
 b:1<=b/\b<=65536
 c:1<=c/\c<=1048576
 d:∀ x ∈ dd,∃ r ∈ l,r.id=x
 o:∀ i,i+1<dd.length->dd.getD i 0<dd.getD (i+1) 0
 dn:dd.length<=12
theorem mgValid_ct (S:Stg) (hS:S.ok) (k:Int × Int) (a b c:Int) (l:List Rc) (Z:List Hz) (dd:List Int) (h:MgOk S a b c l Z dd):Cr 78 [S.d,.agg (mgL S k a b c l Z dd)] (.bool true):=by
 have ha:=h.a;have hb:=h.b;have hc:=h.c;have hn:=h.sh.n;have hdn:=h.dn;have hK5:=hS.K5;have h1:=shCheck_ct S hS k l Z h.sh;refine .det (De Tryz.func78 [] [] ?_);repeat' first|apply S0;conv=>whnf|refine B1 ?_|refine B0 ?_|(refine M0 h1 ?_)|refine Br.swap ?_|refine Br.bnot ?_|refine K0 ?_
 refine Lw [] [] (α:=Nat) (fun i=>[(3,.loc 0 0),(51,shN S k l Z l.length),(52,i64 l.length),(53,i64 i)]) (fun i=>[(0,.var (mgL S k a b c l Z dd))]) 1 (fun i=>i<=l.length) (fun i=>l.length - i) ?_ ?_
 ·refine Again.by 0 (zle _) ?_;repeat' first|apply S0;conv=>whnf|refine Vo ?_|exact T0
 ·intro i hi;by_cases hlt:(i:Int)<l.length
  ·have hz:=(h.sh.at_ (j:=(i:Int).toNat) (by omega));have hz1:=hz.1;repeat' first|apply S0;conv=>whnf|refine Vo ?_|refine B1 ?_
   refine Lw [] [] (α:=Nat) (fun j=>[(3,.loc 0 0),(6,.loc 1 0),(51,shN S k l Z l.length),(52,i64 l.length),(53,i64 i),(58,.tab 1 (Z.getD (i:Int).toNat []).length (hzB (Z.getD (i:Int).toNat []))),(59,i64 (Z.getD (i:Int).toNat []).length),(60,i64 j)]) (fun j=>[(0,.var (mgL S k a b c l Z dd)),(1,.var (snL S k (l.getD (i:Int).toNat Rc.z) (Z.getD (i:Int).toNat [])))]) 2 (fun j=>j<=(Z.getD (i:Int).toNat []).length) (fun j=>(Z.getD (i:Int).toNat []).length - j) ?_ ?_
   ·refine Again.by 0 (zle _) ?_;repeat' first|apply S0;conv=>whnf|refine Vo ?_|exact T0
   ·intro j hj
    have hx:=fun h9:(j:Int)<(Z.getD (i:Int).toNat []).length=>(hz.2 ((Z.getD (i:Int).toNat []).getD (j:Int).toNat (0,false)) (getD_in (by omega))).2
    repeat' first|apply S0;conv=>whnf|refine Vo ?_|exact T0|refine W6 ?_|(refine Br.d (fun h=>?_) fun h=>?_)|refine Br.bnot ?_|(refine Bm (fun h=>?_) fun h=>?_)|refine T2 ?_ ?_
    all_goals try
     refine Again.by (j+1) ⟨by omega,by omega⟩ ?_;repeat' first|apply S0;conv=>whnf|refine Vo ?_|exact T0
     done
    all_goals try
     refine Again.by (i+1) ⟨by omega,by omega⟩ ?_;repeat' first|apply S0;conv=>whnf|refine Vo ?_|exact T0
     done
    exact absurd (hx (by assumption) (by assumption)) (by assumption)
  ·repeat' first|apply S0;conv=>whnf|refine B0 ?_
   refine Lw [] [] (α:=Nat) (fun j=>[(3,.loc 0 0),(78,ints dd),(79,i64 dd.length),(80,i64 j)]) (fun j=>[(0,.var (mgL S k a b c l Z dd))]) 1 (fun j=>j<=dd.length) (fun j=>dd.length - j) ?_ ?_
   ·refine Again.by 0 (zle _) ?_;repeat' first|apply S0;conv=>whnf|refine Vo ?_|exact T0
   ·intro j hj;have hf:=shFind_ct S k l Z (dd.getD (j:Int).toNat 0) hn
    have hx:=fun h9:(j:Int)<dd.length=>ixS_in (dd.getD (j:Int).toNat 0) l 0 (h.d _ (getD_in (by omega)))
    have ho:(j:Int)<dd.length->0<(j:Int)->dd.getD ((j:Int) - 1).toNat 0<dd.getD (j:Int).toNat 0:=fun h9 h0=>by
     have:=h.o (j - 1) (by omega)
     rwa [show j - 1+1=j by omega,show j - 1=((j:Int) - 1).toNat by omega,show dd.getD j 0=dd.getD (j:Int).toNat 0 from rfl] at this
    by_cases hlt2:(j:Int)<dd.length
    ·have hx:=hx hlt2;have ho:=ho hlt2;repeat' first|apply S0;conv=>whnf|refine Vo ?_|refine W6 ?_|refine B1 ?_|refine B0 ?_|(refine M0 hf ?_)|(refine Br.d (fun h=>?_) fun h=>?_)|refine Br.swap ?_|refine K0 ?_
     all_goals try
      refine Again.by (j+1) ⟨by omega,by omega⟩ ?_;repeat' first|apply S0;conv=>whnf|refine Vo ?_|exact T0
      done
     all_goals
      have:=ho (by omega);omega
    ·repeat' first|apply S0;conv=>whnf|exact T0|refine B0 ?_|refine T2 ?_ ?_
end Kx
open Go Sx Go.Proofs
namespace Kx
theorem strs4 (a b c d:Str):∀ i,i < [a,b,c,d].length->selC [[.str a],[.str b],[.str c],[.str d]] i = [D.str ([a,b,c,d].getD i [])]:=selC_get (fun x:Str=>[.str x]) [] (fun _ _=>rfl) [a,b,c,d]
theorem strs2 (a b:Str):∀ i,i < [a,b].length->selC [[.str a],[.str b]] i = [D.str ([a,b].getD i [])]:=selC_get (fun x:Str=>[.str x]) [] (fun _ _=>rfl) [a,b]
theorem strs1 (a:Str):∀ i,i < [a].length->selC [[.str a]] i = [D.str ([a].getD i [])]:=selC_get (fun x:Str=>[.str x]) [] (fun _ _=>rfl) [a]
theorem itoaI_ct {a:Int} (h:0<=a/\a<=1048576):Cr 37 [i64 a] (.str (itS a.toNat)):=by
 have:=itoa_ct a.toNat (by omega)
 rwa [show ((a.toNat:Nat):Int)=a by omega] at this
theorem itI_len {a:Int} (h:0<=a/\a<=1048576):(itS a.toNat).length<=20:=by have:=itS_len a.toNat (by omega);omega
theorem wt_app {w:List Str} {t:Str} {b:Nat} (h:∀ u ∈ w,u.length<=b) (ht:t.length<=b):∀ u ∈ w ++ [t],u.length<=b:=fun u hu=>by
 rcases List.mem_append.1 hu with h9 | h9
 ·exact h u h9
 ·rw [List.mem_singleton.1 h9];exact ht
theorem byS_app2 (a b:Str):ByS (a.length+b.length) (fun i=>iteL (i<a.length) (bytesF a i) (bytesF b (i - a.length))) (a ++ b):=⟨by simp,fun i hi=>(bytes_app a b).2 i (by simp;omega)⟩
def mhS (a b c:Int):Str:=joinS [32] [[115,104,101,101,116],itS a.toNat,itS b.toNat,itS c.toNat] ++ [10]
def mdS (a:Int):Str:=joinS [32] [[100,101,97,100],itS a.toNat] ++ [10]
def meS:Str:=joinS [32] [[101,110,100]] ++ [10]
theorem hd_ct {a b c:Int} (ha:0<=a/\a<=1048576) (hb:0<=b/\b<=1048576) (hc:0<=c/\c<=1048576):Cr 131 [.tab 1 4 fun i=>selC [[.str [115,104,101,101,116]],[.str (itS a.toNat)],[.str (itS b.toNat)],[.str (itS c.toNat)]] i] (.str (mhS a b c)):=by
 have h1:=itI_len ha;have h2:=itI_len hb;have h3:=itI_len hc
 exact line_at [[115,104,101,101,116],itS a.toNat,itS b.toNat,itS c.toNat] (by simp) (Nat.le_trans (line_len 20 4 _ (fun t ht=>by
  simp only [List.mem_cons,List.not_mem_nil,or_false] at ht
  rcases ht with rfl | rfl | rfl | rfl
  ·decide
  ·exact h1
  ·exact h2
  ·exact h3) (by simp)) (by decide)) ⟨rfl,strs4 _ _ _ _⟩
theorem hd_len {a b c:Int} (ha:0<=a/\a<=1048576) (hb:0<=b/\b<=1048576) (hc:0<=c/\c<=1048576):1<=(mhS a b c).length/\(mhS a b c).length<=100:=by
 have h1:=itI_len ha;have h2:=itI_len hb;have h3:=itI_len hc
 have:=line_len 20 4 [[115,104,101,101,116],itS a.toNat,itS b.toNat,itS c.toNat] (fun t ht=>by
  simp only [List.mem_cons,List.not_mem_nil,or_false] at ht
  rcases ht with rfl | rfl | rfl | rfl
  ·decide
  ·exact h1
  ·exact h2
  ·exact h3) (by simp)
 unfold mhS;rw [lap,List.length_singleton];omega
theorem dd_ct {a:Int} (ha:0<=a/\a<=1048576):Cr 131 [.tab 1 2 fun i=>selC [[.str [100,101,97,100]],[.str (itS a.toNat)]] i] (.str (mdS a)):=by
 have h1:=itI_len ha
 exact line_at [[100,101,97,100],itS a.toNat] (by simp) (Nat.le_trans (line_len 20 2 _ (fun t ht=>by
  simp only [List.mem_cons,List.not_mem_nil,or_false] at ht
  rcases ht with rfl | rfl
  ·decide
  ·exact h1) (by simp)) (by decide)) ⟨rfl,strs2 _ _⟩
theorem dd_len {a:Int} (ha:0<=a/\a<=1048576):(mdS a).length<=100:=by
 have h1:=itI_len ha
 have:=line_len 20 2 [[100,101,97,100],itS a.toNat] (fun t ht=>by
  simp only [List.mem_cons,List.not_mem_nil,or_false] at ht
  rcases ht with rfl | rfl
  ·decide
  ·exact h1) (by simp)
 unfold mdS;rw [lap,List.length_singleton];omega
theorem end_ct:Cr 131 [.tab 1 1 fun i=>selC [[.str [101,110,100]]] i] (.str meS):=line_at _ (by simp) (by decide) ⟨rfl,strs1 _⟩
def ordWr:Ords:=[(2,.ph [0,3,6,1,4,7] (.qc 2 (.qc 5 (.qc 8 (.st 9 (.qc 10 (.st 11 (.fin))))))))]
set_option maxHeartbeats 2000000 in
theorem write_ct (S:Stg) (hS:S.ok) (k:Int × Int) (a b c:Int) (l:List Rc) (Z:List Hz) (dd:List Int) (h:MgOk S a b c l Z dd):Ct Tryz.prog 79 [.agg (mgL S k a b c l Z dd)] fun r outs=>∃ t:Str,(1<=t.length/\t.length<=1000000)/\r = .str t/\outs = []:=by
 have ha:=h.a;have hb:=h.b;have hc:=h.c;have hn:=h.sh.n;have hdn:=h.dn;have hK5:=hS.K5;have h1:=itoaI_ct (a:=a) (by omega);have h2:=itoaI_ct (a:=b) (by omega);have h3:=itoaI_ct (a:=c) (by omega);have h4:=hd_ct (a:=a) (b:=b) (c:=c) (by omega) (by omega) (by omega);have hH:=hd_len (a:=a) (b:=b) (c:=c) (by omega) (by omega) (by omega);generalize mhS a b c=H at *;refine .some (De Tryz.func79 ordWr [] ?_);repeat' first|apply S0;conv=>whnf|refine Vo ?_|exact noSh_str _|(refine M0 h1 ?_)|(refine M0 h2 ?_)|(refine M0 h3 ?_)|(refine M0 h4 ?_)|(refine CallOK.inl (f:=130) (fn:=Tryz.f130) hΓ hm Tryz.func130 [] [] (by kernel_rfl) (fun V=>?_))|(refine CallOK.cc (g:=191) (T:=239) cc_fn cc_used cc_fresh ?_)|refine K1 ?_|refine Vm ?_ ?_
 refine Lw ordWr [] (α:=Nat × Str) (fun z=>[(1,.loc 0 0),(3,.loc 1 0),(26,shN S k l Z l.length),(27,i64 l.length),(28,i64 z.1)]) (fun z=>[(0,.var (mgL S k a b c l Z dd)),(1,.bld 239 true (.own 2)),(2,.arr 5 1 z.2.length (bytesF z.2))]) 3 (fun z=>z.1<=l.length/\1<=z.2.length/\z.2.length<=100+10000*z.1) (fun z=>l.length - z.1) ?_ ?_
 ·refine Again.by (0,H) ⟨zle _,by dsimp only;omega,by dsimp only;omega⟩ ?_;repeat' first|apply S0;conv=>whnf|refine Vo ?_|exact T0
 ·intro ⟨i,o⟩ ⟨hi,ho1,ho2⟩;dsimp only at hi ho1 ho2 ⊢;by_cases hlt:(i:Int)<l.length
  ·have hr:=h.sh.rs.ok (l.getD (i:Int).toNat Rc.z) (getD_in (by omega));have her:=erOk_of hS k hr;have hli:=eline_ct _ _ _ _ her;have hln:=lineE_join her;have hz:=(h.sh.at_ (j:=(i:Int).toNat) (by omega));generalize joinS [32] (lineE (l.getD (i:Int).toNat Rc.z).id (l.getD (i:Int).toNat Rc.z).ver S.s.f.length fun i_1=>fldW S.s (S.P.getD i_1 Pm.z) k (l.getD (i:Int).toNat Rc.z) i_1)=T at *;have hz1:=hz.1;repeat' first|apply S0;conv=>whnf|refine Vo ?_|refine B1 ?_|(refine M0 hli ?_)|refine K0 ?_
   refine Lw ordWr [] (α:=List Str) (fun w=>[(1,.loc 0 0),(3,.loc 1 0),(5,.loc 3 0),(8,.own 4),(26,shN S k l Z l.length),(27,i64 l.length),(28,i64 i),(41,.tab 1 (Z.getD (i:Int).toNat []).length (hzB (Z.getD (i:Int).toNat []))),(42,i64 (Z.getD (i:Int).toNat []).length),(43,i64 ((w.length:Int) - 2))]) (fun w=>[(0,.var (mgL S k a b c l Z dd)),(1,.bld 239 true (.own 2)),(2,.arr 5 1 o.length (bytesF o)),(3,.var (snL S k (l.getD (i:Int).toNat Rc.z) (Z.getD (i:Int).toNat []))),(4,.arr 9 1 w.length fun q=>[.str (w.getD q [])])]) 5 (fun w=>(2<=w.length/\w.length<=2+(Z.getD (i:Int).toNat []).length)/\(∀ t ∈ w,t.length<=1000)) (fun w=>2+(Z.getD (i:Int).toNat []).length - w.length) ?_ ?_
   ·refine Again.by [[115,101,110,116],T] ⟨⟨by simp,by simp⟩,by simp;omega⟩ ?_;repeat' first|apply S0;conv=>whnf|refine Vo ?_|exact T0|(rfl)|refine Vm ?_ ?_
    exact ⟨rfl,strs2 _ _⟩
   ·intro w ⟨hw,hwt⟩;dsimp only at hw hwt ⊢
    have hx:=fun h9:(w.length:Int) - 2<((Z.getD (i:Int).toNat []).length:Int)=>(hz.2 ((Z.getD (i:Int).toNat []).getD ((w.length:Int) - 2).toNat (0,false)) (getD_in (by omega))).1
    have hh:=fun h9:(w.length:Int) - 2<((Z.getD (i:Int).toNat []).length:Int)=>hexN_ct _ (hx h9)
    have hwl:=line_len 1000 7 w hwt (by omega);have hL:=line_at w (by omega) (by omega) ⟨rfl,fun _ _=>rfl⟩
    have hO:(o ++ (joinS [32] w ++ [10])).length=o.length+(joinS [32] w).length+1:=by simp;omega
    repeat' first|apply S0;conv=>whnf|refine Vo ?_|refine Vb ?_|exact noSh_str _|refine W6 ?_|(refine M0 (hh (by omega)) ?_)|(refine M0 hL ?_)|(refine Vc.om ?_ ?_;focus ((simp only [lap,List.length_cons,List.length_nil];omega);done))|(refine Br.d (fun h=>?_) fun h=>?_)|(refine Bm (fun h=>?_) fun h=>?_)|(refine CallOK.inl (f:=130) (fn:=Tryz.f130) hΓ hm Tryz.func130 [] [] (by kernel_rfl) (fun V=>?_))|(refine CallOK.cc (g:=191) (T:=239) cc_fn cc_used cc_fresh ?_)|refine K0 ?_|refine Vm ?_ ?_
    ·refine Again.by (w ++ [hex16 ((Z.getD (i:Int).toNat []).getD ((w.length:Int) - 2).toNat (0,false)).1]) ⟨⟨by rw [lap,List.length_singleton];omega,wt_app hwt (by simp [hex16])⟩,by rw [lap,List.length_singleton];omega⟩ ?_;repeat' first|apply S0;conv=>whnf|refine Vo ?_|exact T0|(simp;omega)|(exact str_app _ _ rfl)|refine Vm ?_ ?_
    ·refine Again.by (w ++ [[45]]) ⟨⟨by rw [lap,List.length_singleton];omega,wt_app hwt (by simp)⟩,by rw [lap,List.length_singleton];omega⟩ ?_;repeat' first|apply S0;conv=>whnf|refine Vo ?_|exact T0|(simp;omega)|(exact str_app _ _ rfl)|refine Vm ?_ ?_
    ·refine Again.by (i+1,o ++ (joinS [32] w ++ [10])) ⟨⟨by dsimp only;omega,by dsimp only;omega,by dsimp only;omega⟩,by dsimp only;omega⟩ ?_;repeat' first|apply S0;conv=>whnf|refine Vo ?_|exact T0|(exact bytes_app _ _)|refine Vm ?_ ?_
  ·repeat' first|apply S0;conv=>whnf|refine B0 ?_
   refine Lw ordWr [] (α:=Nat × Str) (fun z=>[(3,.loc 1 0),(67,ints dd),(68,i64 dd.length),(69,i64 z.1)]) (fun z=>[(1,.bld 239 true (.own 2)),(2,.arr 5 1 z.2.length (bytesF z.2))]) 3 (fun z=>z.1<=dd.length/\1<=z.2.length/\z.2.length<=200000+100*z.1) (fun z=>dd.length - z.1) ?_ ?_
   ·refine Again.by (0,o) ⟨zle _,by dsimp only;omega,by dsimp only;omega⟩ ?_;repeat' first|apply S0;conv=>whnf|refine Vo ?_|exact T0
   ·intro ⟨j,u⟩ ⟨hj,hu1,hu2⟩;dsimp only at hj hu1 hu2 ⊢;by_cases hlt2:(j:Int)<dd.length
    ·obtain ⟨r,hr,hre⟩:=h.d (dd.getD (j:Int).toNat 0) (getD_in (by omega));have hri:=h.sh.rs.ok r hr;have hb1:=hri.i1;have hb2:=hri.i2;have hi2:=itoaI_ct (a:=dd.getD (j:Int).toNat 0) (by omega);have hd2:=dd_ct (a:=dd.getD (j:Int).toNat 0) (by omega);have hdl:=dd_len (a:=dd.getD (j:Int).toNat 0) (by omega);generalize mdS (dd.getD (j:Int).toNat 0)=T at *;have hO:(u ++ T).length=u.length+T.length:=lap;repeat' first|apply S0;conv=>whnf|refine Vo ?_|exact noSh_str _|refine W6 ?_|refine B1 ?_|(refine M0 hi2 ?_)|(refine M0 hd2 ?_)|(refine CallOK.inl (f:=130) (fn:=Tryz.f130) hΓ hm Tryz.func130 [] [] (by kernel_rfl) (fun V=>?_))|(refine CallOK.cc (g:=191) (T:=239) cc_fn cc_used cc_fresh ?_)|refine K0 ?_|refine Vm ?_ ?_
     refine Again.by (j+1,u ++ T) ⟨⟨by dsimp only;omega,by dsimp only;omega,by dsimp only;omega⟩,by dsimp only;omega⟩ ?_;repeat' first|apply S0;conv=>whnf|refine Vo ?_|exact T0|(exact bytes_app _ _)|refine Vm ?_ ?_
    ·have hO:(u ++ meS).length=u.length+meS.length:=lap
     have hE:meS.length=4:=by decide
     have hE2:=end_ct;generalize meS=T at *;repeat' first|apply S0;conv=>whnf|refine Vo ?_|exact noSh_str _|refine B1 ?_|refine B0 ?_|(refine M0 hE2 ?_)|(refine Lf.by _ (byS_app2 _ _) ?_)|refine T2 ?_ ?_|(refine CallOK.inl (f:=130) (fn:=Tryz.f130) hΓ hm Tryz.func130 [] [] (by kernel_rfl) (fun V=>?_))|(refine CallOK.inl (f:=134) (fn:=Tryz.f134) hΓ hm Tryz.func134 ord134 [] (by kernel_rfl) (fun V=>?_))|(refine CallOK.cc (g:=191) (T:=239) cc_fn cc_used cc_fresh ?_)|refine K0 ?_|refine Vm ?_ ?_
     all_goals
      refine Lf.by (u ++ T) ⟨by omega,by omega⟩ ?_;repeat' first|apply S0;conv=>whnf|exact T0|refine T2 ?_ ?_
end Kx
open Go Sx Go.Proofs
namespace Kx
theorem text_ct (S:Stg) (hS:S.ok) (k:Int × Int) (a b c:Int) (l:List Rc) (Z:List Hz) (dd:List Int) (h:MgOk S a b c l Z dd):Ct Tryz.prog 40 [S.d,.agg (mgL S k a b c l Z dd)] fun r outs=>∃ t:Str,(1<=t.length/\t.length<=1000000)/\r = .tup [.str t,i64 0]/\outs = []:=by
 have h1:=psetting_ct S hS;have h2:=mgValid_ct S hS k a b c l Z dd h;have h3:=write_ct S hS k a b c l Z dd h;refine .some (De Tryz.func40 [] [] ?_);repeat' first|apply S0;conv=>whnf|with_reducible refine Br.tt ?_|refine B1 ?_|(refine M0 h1 ?_)|(refine M0 h2 ?_)|(refine Met.by h3 ?_;rintro q outs ⟨t,ht,rfl,rfl⟩)|refine Br.bnot ?_|refine K0 ?_
 refine Lf.by t ht ?_;repeat' first|apply S0;conv=>whnf|exact T0|refine T2 ?_ ?_
theorem deads_mem {l:List Rw} {x:Int} (h:x ∈ deads l):∃ r ∈ curR l,r.id=x:=by
 obtain ⟨r,hr,rfl⟩:=List.mem_map.1 h;exact ⟨⟨r.id,r.ver,r.vals⟩,List.mem_map.2 ⟨r,(List.mem_filter.1 hr).1,rfl⟩,rfl⟩
theorem deads_asc {l:List Rw} (h:AscR l):∀ i,i+1<(deads l).length->(deads l).getD i 0<(deads l).getD (i+1) 0:=fun i hi=>by
 have hP:(deads l).Pairwise fun a b=>a<b:=by
  unfold deads;rw [List.pairwise_map];exact (h.filter _).filter _
 have:=List.pairwise_iff_getElem.1 hP i (i+1) (by omega) hi (by omega);rw [gDe,gDe,List.getElem?_eq_getElem hi,List.getElem?_eq_getElem (by omega)];exact this
theorem deads_len (l:List Rw):(deads l).length<=l.length:=by
 unfold deads;rw [List.length_map];exact Nat.le_trans (List.length_filter_le _ _) (List.length_filter_le _ _)
theorem mgOk_of {S:Stg} {p:Pt} (hp:PtS S p) {Z:List Hz} (hZ:ZsOk S Z/\Z.length=(curR p.rows).length):MgOk S p.n p.e (p.sr+1) (curR p.rows) Z (deads p.rows):=by
 have h1:=hp.n;have h2:=hp.e;have h3:=hp.s;have h4:=hp.m;have h5:=curR_len p.rows;have h6:=deads_len p.rows;exact ⟨⟨curR_ok hp.ok,by omega,hZ.1,hZ.2⟩,h1,by omega,by omega,fun x hx=>deads_mem hx,deads_asc (valid_zero.1 hp.ok.v).2.2,by omega⟩
theorem freshP_ct (p:Pt) (hr:RwsOK p.rows):Cr 39 [p.d] (.agg [i64 p.n,i64 p.e,i64 p.sr,rwsO 107 p.rows]):=by
 have h1:=rows_ct p.rows hr;refine .det (De Tryz.func39 [] [] ?_);repeat' first|apply S0;conv=>whnf|exact T0|exact T1|(refine M0 h1 ?_)|refine T2 ?_ ?_|(refine CallOK.ctF (g:=76) (Step.out ?_))
theorem publishF_ct (S:Stg) (hS:S.ok) (p:Pt) (hp:PtS S p) (h:admE S.B (pRk S p)≠0):Cr 14 [S.d,p.d] (.tup [Pt.z.d,.str [],i64 (admE S.B (pRk S p))]):=by
 have h1:=sheetF_ct S hS p hp h;refine .det (De Tryz.func14 [] [] ?_);repeat' first|apply S0;conv=>whnf|exact T0|refine B0 ?_|(refine M0 h1 ?_)|refine Br.bnot ?_|refine T2 ?_ ?_|refine K0 ?_
theorem publishT_ct (S:Stg) (hS:S.ok) (p:Pt) (hp:PtS S p) (h:admE S.B (pRk S p)=0):Ct Tryz.prog 14 [S.d,p.d] fun q outs=>∃ (x:Pt) (t:Str) (e:Int),((e=0->1<=t.length)/\(e=0\/e=1))/\q = .tup [x.d,.str t,i64 e]/\outs = []:=by
 have h1:=sheetT_ct S hS p hp h;have hs:=hp.s;have hr:=valid_ok hp.ok.v;have h2:=freshP_ct p hr
 have h3:=fun (Z:List Hz) (hZ:ZsOk S Z/\Z.length=(curR p.rows).length)=>text_ct S hS (pKey S p) _ _ _ _ Z _ (mgOk_of hp hZ)
 refine .some3 (De Tryz.func14 [] [] ?_);repeat' first|apply S0;conv=>whnf|refine W6 ?_|refine B1 ?_|refine B0 ?_|(refine Met.by h1 ?_;rintro q outs ⟨Z,hZ,rfl,rfl⟩)|(refine Met.by h2 ?_;rintro q outs ⟨rfl,rfl⟩)|(refine Met.by (h3 _ (by assumption)) ?_;rintro q outs ⟨t,ht,rfl,rfl⟩)|(refine Br.d (fun h=>?_) fun h=>?_)|refine Br.bnot ?_|(refine CallOK.ctF (g:=39) (Step.out ?_))|refine K0 ?_
 ·refine Lf3.by Pt.z [] 1 ⟨by omega,.inr rfl⟩ ?_;repeat' first|apply S0;conv=>whnf|exact T0|refine T2 ?_ ?_
  all_goals rfl
 ·refine Lf3.by ⟨p.n,p.e,p.sr+1,p.rows⟩ t 0 ⟨fun _=>ht.1,.inl rfl⟩ ?_;repeat' first|apply S0;conv=>whnf|exact T0|exact T1|refine T2 ?_ ?_
end Kx
open Go Sx Go.Proofs
namespace Kx
def Stg.wB (S:Stg) (B:List Ex):Stg:={ S with B:=B }
theorem Stg.ok.wB {S:Stg} (h:S.ok) {B:List Ex} (hB:BdOk S.s.f.length B):(S.wB B).ok :=
 ⟨h.s,h.n3,h.P,h.Pn,h.K1,h.K5,h.K,hB,h.simn,h.sim,h.pr,h.agn,h.ag,h.din,h.di,h.hi,h.lo,h.pj,h.m⟩
def uB (B:List Ex) (i:Nat) (v:Int):List Ex:=B.set i ⟨(B.getD i Ex.z).f,v,(B.getD i Ex.z).h,(B.getD i Ex.z).c,(B.getD i Ex.z).l⟩
theorem uB_ok {n:Nat} {B:List Ex} (h:BdOk n B) {i:Nat} (hi:i<n) {v:Int} (hv:0<=v/\v<=64):BdOk n (uB B i v):=by
 have hl:=h.len;refine ⟨by unfold uB;rw [List.length_set];exact hl,fun j hj=>?_⟩;unfold uB;rw [getD_set2 _ _ _ _ _ (by omega)];have hb:=h.b j hj;split
 ·rename_i e;subst e;exact ⟨hb.1,hv,hb.2.2⟩
 ·exact hb
theorem uB_set (B:List Ex) (i:Nat) (v:Int) (hi:i<B.length):B.length=(uB B i v).length/\∀ j,j<(uB B i v).length->iteL (j=i) (setL (B.getD i Ex.z).d (0+1) [i64 v]) (B.getD j Ex.z).d=((uB B i v).getD j Ex.z).d:=by
 refine ⟨by unfold uB;rw [List.length_set],fun j _=>?_⟩;unfold uB;rw [getD_set2 _ _ _ _ _ hi];refine (ex_ite (j=i) ⟨(B.getD i Ex.z).f,v,(B.getD i Ex.z).h,(B.getD i Ex.z).c,(B.getD i Ex.z).l⟩ (B.getD j Ex.z)).trans ?_;rfl
theorem admits_ct (xs:List Int):Cr 3 [ints xs] (.bool true):=by
 refine .det (De Tryz.func3 ord3 [5] ?_);repeat' first|apply S0;conv=>whnf|exact T0|with_reducible refine Br.tt ?_|(refine M0 awake_ct ?_)|(refine Br.d (fun h=>?_) fun h=>?_)|refine Br.swap ?_|refine Br.bnot ?_|refine T2 ?_ ?_|(refine CallOK.io1 (g:=7) (Step.out ?_))|refine K0 ?_|(refine M0 (g:=5) (few_ct _) ?_)|(refine Met.by (g:=6) (new_ct _ (by assumption)) ?_;rintro q outs ⟨d,hd,rfl,rfl⟩)|(refine Met.by (g:=7) (setting_ct _) ?_;rintro q outs ⟨S,d,hS,rfl,rfl⟩)
 refine Cw ord3 [8] (α:=Stg × Dk) (fun z=>[(3,.loc 0 0),(4,.loc 1 0)]) (fun z=>[(0,.var z.2.ls),(1,.var z.1.l)]) 2 (fun z=>z.1.ok) ?_ ?_
 ·repeat' first|apply S0;conv=>whnf|(refine Bm (fun h=>?_) fun h=>?_)|refine T2 ?_ ?_|(refine CallOK.io1 (g:=8) (Step.out ?_))|(refine CallOK.io1 (g:=9) (Step.out ?_))|(refine Met.by (g:=8) (one_ct_c _ _) ?_;rintro q outs ⟨x,d,hx,rfl,rfl⟩)|(refine Met.by (g:=9) (next_ct _ _) ?_;rintro q outs ⟨x,d,hx,rfl,rfl⟩)|refine Vm ?_ ?_
  all_goals have hBl:=hS.B.len
  all_goals have hn1:=hS.s.ok.n1
  all_goals have hn3:=hS.n3
  all_goals try
   exact (show S.B.length*40<=140737488355328 by omega)
  all_goals try omega
  all_goals try
   rename_i y d2 hy
   refine Again.by (S.wB (uB S.B y.toNat x),d) (hS.wB (uB_ok hS.B (by omega) (by omega))) ?_;repeat' first|apply S0;conv=>whnf|refine Vo ?_|exact T0|(rfl)|(exact uB_set S.B y.toNat x (by omega))|(exact ⟨rfl,fun _ _=>rfl⟩)|refine Vm ?_ ?_
   done
  refine Again.by (S,‹Dk›) hS ?_;repeat' first|apply S0;conv=>whnf|refine Vo ?_|exact T0
 ·intro ⟨S,d⟩ hS;dsimp only at hS ⊢;repeat' first|apply S0;conv=>whnf
  refine Cw ord3 [] (α:=Pt) (fun y=>[(4,.loc 0 0),(5,.loc 1 0)]) (fun y=>[(0,.var S.l),(1,.var y.l)]) 2 (fun y=>PtS S y) ?_ ?_
  ·repeat' first|apply S0;conv=>whnf|refine Vo ?_|(refine CallOK.io1 (g:=10) (Step.out ?_))|(refine Met.by (g:=10) (parties_ct _ _ (by assumption)) ?_;rintro q outs ⟨l,ep,d,hl,rfl,rfl⟩)
   refine Again.by (l.getD 1 Pt.z) ?_ ?_
   ·obtain ⟨h1,h2,h3,h4⟩:=hl;obtain ⟨k1,k2,k3,k4⟩:=h1.ok (l.getD 1 Pt.z) (getD_in (by omega));have k5:=h1.n 1 (by omega);exact ⟨k1,by omega,by omega,by omega,by omega⟩
   repeat' first|apply S0;conv=>whnf|refine Vo ?_|exact T0|(rfl)|(exact ⟨rfl,fun _ _=>rfl⟩)|refine Vm ?_ ?_
  ·intro p hp;have c1:=curR_ct p hp.ok.v;have c2:=pKey_ct S p hp;have c3:=pAssess_ct S hS p hp;have c4:=pAdmit_ct S hS p;have c5:=awithin_ct S.B (pRk S p) (by have:=hS.n3;unfold pRk;rw [rkL_len];omega);by_cases h0:admE S.B (pRk S p)=0
   ·have c6:=publishT_ct S hS p hp h0;rw [decide_eq_true h0] at c5;rw [h0] at c4;repeat' first|apply S0;conv=>whnf|exact T0|refine B1 ?_|(refine M0 c1 ?_)|(refine M0 c2 ?_)|(refine M0 c3 ?_)|(refine Met.by c6 ?_;rintro q outs ⟨x,t,e,he,rfl,rfl⟩)|(refine Met.by c4 ?_;rintro q outs ⟨rfl,rfl⟩)|(refine M0 c5 ?_)|(refine Br.d (fun h=>?_) fun h=>?_)|refine Br.swap ?_|refine Br.bnot ?_|(refine Bm (fun h=>?_) fun h=>?_)|refine T2 ?_ ?_|(refine CallOK.ctF (g:=11) (Step.out ?_))|refine K0 ?_|refine K1 ?_
    ·have h8:=he.1 ‹e=0›;rw [h] at h8;exact absurd h8 (by decide)
    ·exact decide_eq_true (by omega)
   ·have c6:=publishF_ct S hS p hp h0;repeat' first|apply S0;conv=>whnf|exact T0|refine B1 ?_|refine B0 ?_|(refine M0 c1 ?_)|(refine M0 c2 ?_)|(refine M0 c3 ?_)|(refine M0 c6 ?_)|(refine M0 c4 ?_)|refine Br.swap ?_|refine Br.bnot ?_|refine T2 ?_ ?_|(refine CallOK.ctF (g:=11) (Step.out ?_))|refine K0 ?_|refine K1 ?_
end Kx
open Go Sx Go.Proofs Go.Lib
namespace Kx
theorem laid_one {P:Program} {l:List (String × DataW Unit)} {w:World} (h:laidMet P l w) {n:String} {k:IntKind} {T:List Nat} {N g:Nat} {t e:TypeId}
 (hg:P.globalNamed n=some g) (hty:(P.globals[g]?).map (·.type)=some t) (ht:P.underlying t=some (.array N e)) (he:P.underlying e=some (.int k)) (hce:P.cellsOf e=1) (hct:P.cellsOf t=N)
 (hm:(n,tabData k (T.map fun k:Nat=>(k:Int))) ∈ l):∀ g',P.globalNamed n=some g'->g' < w.heap.size/\¬ False/\∃ ty p,w.heap[g']? = some (.cells (T.map fun j:Nat=>Value.int k j).toArray ty p):=by
 intro g' hg';obtain rfl:g=g':=Option.some.inj (hg.symm.trans hg');obtain ⟨g1,t1,cs,fuel,p,h1,h2,h3,h4⟩:=Go.Lib.laidMet.reads h hm;obtain rfl:=Option.some.inj (hg.symm.trans h1);obtain rfl:=Option.some.inj (hty.symm.trans h2);have hcs:=cells_of_tab ht he hce hct h4;unfold World.var? at h3;rw [hg] at h3;simp only [Option.bind_some] at h3
 cases ho:w.heap[g]? with
 | none=>rw [ho] at h3;cases h3
 | some o =>
   rw [ho] at h3
   cases o<;>simp only [reduceCtorEq,Option.some.injEq] at h3
   rename_i c el fr;subst h3;refine ⟨(Array.getElem?_eq_some_iff.1 ho).1,id,el,fr,?_⟩
   have:∀ a:Array Value,a.toList=(T.map fun k:Nat=>(k:Int)).map (fun z=>Value.int k z)->a=(T.map fun j:Nat=>Value.int k j).toArray:=fun a ha=>by
    apply Array.toList_inj.1;rw [ha,List.map_map];rfl
   rw [this c hcs]
def pw10:List Nat:=[1,10,100,1000,10000,100000,1000000,10000000,100000000,1000000000,10000000000,100000000000,1000000000000,10000000000000,100000000000000,1000000000000000,10000000000000000,100000000000000000,1000000000000000000,10000000000000000000]
theorem laid_of {P:Program} {l:List (String × DataW Unit)} {w:World} (h:laidMet P l w) {g g2:Nat} {t e t2 e2:TypeId}
 (hg:P.globalNamed "math/bits.deBruijn64tab" = some g) (hty:(P.globals[g]?).map (·.type)=some t) (ht:P.underlying t=some (.array 64 e)) (he:P.underlying e=some (.int .u8)) (hce:P.cellsOf e=1) (hct:P.cellsOf t=64)
 (hm:("math/bits.deBruijn64tab",tabData .u8 (Lib.deBruijn64tab.map fun k:Nat=>(k:Int))) ∈ l)
 (hg2:P.globalNamed "internal/strconv.uint64pow10" = some g2) (hty2:(P.globals[g2]?).map (·.type)=some t2) (ht2:P.underlying t2=some (.array 20 e2)) (he2:P.underlying e2=some (.int .u64)) (hce2:P.cellsOf e2=1) (hct2:P.cellsOf t2=20)
 (hm2:("internal/strconv.uint64pow10",tabData .u64 (pw10.map fun k:Nat=>(k:Int))) ∈ l):Sx.Laid P w.heap fun _=>False:=by
 intro x hx
 rcases List.mem_cons.1 hx with rfl | hx
 ·exact laid_one (T:=Lib.deBruijn64tab) h hg hty ht he hce hct hm
 ·obtain rfl:=List.mem_singleton.1 hx;exact laid_one (T:=pw10) h hg2 hty2 ht2 he2 hce2 hct2 hm2
end Kx
