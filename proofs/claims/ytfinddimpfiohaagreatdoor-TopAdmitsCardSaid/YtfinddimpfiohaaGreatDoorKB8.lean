/-
  Ranks.
-/
import Derived.Test.YtfinddimpfiohaaGreatDoorKB7
set_option linter.unusedSimpArgs false
set_option linter.unusedVariables false
set_option maxRecDepth 4000
open Go Sx Go.Proofs
namespace Kx
def gtN (l:List Int) (v:Int):Nat:=(l.filter fun x=>decide (v<x)).length
def eqN (l:List Int) (v:Int):Nat:=(l.filter fun x=>decide (x=v)).length
theorem fil_take (p:Int->Bool) (l:List Int) (i:Nat) (h:i<l.length):((l.take (i+1)).filter p).length=((l.take i).filter p).length+if p (l.getD i 0)=true then 1 else 0:=by
 rw [List.take_add_one,List.filter_append,lap,gDe,List.getElem?_eq_getElem h];simp only [Option.toList_some,Option.getD_some,List.filter_cons,List.filter_nil]
 split<;>rfl
theorem gtN_step (l:List Int) (v:Int) (i:Nat) (h:i<l.length):gtN (l.take (i+1)) v=gtN (l.take i) v+if v<l.getD i 0 then 1 else 0:=by
 have:=fil_take (fun x=>decide (v<x)) l i h;simp only [decide_eq_true_eq] at this;exact this
theorem eqN_step (l:List Int) (v:Int) (i:Nat) (h:i<l.length):eqN (l.take (i+1)) v=eqN (l.take i) v+if l.getD i 0=v then 1 else 0:=by
 have:=fil_take (fun x=>decide (x=v)) l i h;simp only [decide_eq_true_eq] at this;exact this
theorem gtN_le (l:List Int) (v:Int) (i:Nat):gtN (l.take i) v<=i:=Nat.le_trans (List.length_filter_le _ _) (by rw [List.length_take];omega)
theorem eqN_le (l:List Int) (v:Int) (i:Nat):eqN (l.take i) v<=i:=Nat.le_trans (List.length_filter_le _ _) (by rw [List.length_take];omega)
theorem rank_ct (l:List Int) (k:Nat) (hk:k<l.length) (hl:l.length<=1000):Cr 112 [ints l,i64 k] (.tup [i64 (gtN l (l.getD k 0)),.bool (decide (eqN l (l.getD k 0)=1))]):=by
 refine .det (De Tryz.func112 [] [] ?_);repeat' first|apply S0;conv=>whnf
 refine Lw [] [] (α:=Nat) (fun i=>[(0,ints l),(1,i64 k),(6,i64 (gtN (l.take i) (l.getD k 0))),(7,i64 (eqN (l.take i) (l.getD k 0))),(10,ints l),(11,i64 l.length),(12,i64 i)]) (fun i=>[]) 0 (fun i=>i<=l.length) (fun i=>l.length - i) ?_ ?_
 ·refine Again.by 0 (zle _) ?_;repeat' first|apply S0;conv=>whnf|refine Vo ?_|exact T0|refine Vm ?_ ?_
  all_goals rfl
 ·intro i hi;have g1:=gtN_le l (l.getD k 0) i;have g2:=eqN_le l (l.getD k 0) i
  have s1:=fun h:i<l.length=>gtN_step l (l.getD k 0) i h
  have s2:=fun h:i<l.length=>eqN_step l (l.getD k 0) i h
  repeat' first|apply S0;conv=>whnf|refine Vo ?_|exact T0|refine W6 ?_|(refine Br.d (fun h=>?_) fun h=>?_)|refine T2 ?_ ?_
  all_goals try
   refine Again.by (i+1) ⟨by omega,by omega⟩ ?_;repeat' first|apply S0;conv=>whnf|refine Vo ?_|exact T0|refine Vm ?_ ?_
   all_goals
    have a:=s1 (by omega);have b:=s2 (by omega);simp only [tnc] at *
    first
     | rfl
     | (split at a<;>split at b<;>omega)
  all_goals rw [List.take_of_length_le (by omega)]
  exact decide_eq_decide.2 (by omega)
end Kx
open Go Sx Go.Proofs
namespace Kx
def fill1 (b:Bs):Int:=(2000*cntS b.w+b.L).tdiv (2*b.L)
def fillN (l:List Bs):Int:=l.foldl (fun n b=>max n (fill1 b)) 0
theorem fill1_in (b:Bs) (hb:b.ok):0<=fill1 b/\fill1 b<=2000*127*3+1000:=by
 have h1:=len_pos hb.L;have h2:=cnt_in b.w;have h3:=hb.le;unfold fill1;rw [Int.tdiv_eq_ediv_of_nonneg (by omega)];refine ⟨Int.ediv_nonneg (by omega) (by omega),Int.le_trans (Int.ediv_le_self _ (by omega)) (by omega)⟩
end Kx
open Go Sx Go.Proofs
namespace Kx
theorem expo_ct (f a b c d:Int):Cr 68 [i64 f,v4 [a,b,c,d]] (.agg (Ex.d ⟨f,a,b,c,d⟩)):=by
 refine .det (De Tryz.func68 [] [] ?_);repeat' first|apply S0;conv=>whnf|refine Vo ?_|exact T0|refine T2 ?_ ?_|refine Vm ?_ ?_
 all_goals rfl
end Kx
open Go Sx Go.Proofs
namespace Kx
structure Gp where
 a:Bs
 m:List Int
def Gp.z:Gp:=⟨Bs.z,[]⟩
def Gp.l (g:Gp):List D:=[i64 g.a.L,u64s g.a.w,ints g.m]
def gps (l:List Gp):D:=.tab 3 l.length fun i=>(l.getD i Gp.z).l
def szs (l:List Gp) (n:Nat):List Int:=(List.range n).map fun i=>((l.getD i Gp.z).m.length:Int)
theorem szs_succ (l:List Gp) (n:Nat):szs l (n+1)=szs l n ++ [((l.getD n Gp.z).m.length:Int)]:=by simp [szs,List.range_succ]
theorem szs_len (l:List Gp) (n:Nat):(szs l n).length=n:=by simp [szs]
theorem sizes_ct (l:List Gp) (hl:l.length<=64):Cr 113 [gps l] (ints (szs l l.length)):=by
 refine .det (De Tryz.func113 [] [] ?_);repeat' first|apply S0;conv=>whnf
 refine Lw [] [] (α:=Nat) (fun i=>[(3,.own 0),(6,gps l),(7,i64 l.length),(8,i64 i)]) (fun i=>[(0,.arr 3 1 (szs l i).length fun j=>[i64 ((szs l i).getD j 0)])]) 1 (fun i=>i<=l.length) (fun i=>l.length - i) ?_ ?_
 ·refine Again.by 0 (zle _) ?_;repeat' first|apply S0;conv=>whnf|refine Vo ?_|exact T0|(rfl)|refine Vm ?_ ?_
 ·intro i hi;have hln:=szs_len l i;repeat' first|apply S0;conv=>whnf|refine Vo ?_|refine Vb ?_|exact T0|refine W6 ?_|(refine Br.d (fun h=>?_) fun h=>?_)|refine T2 ?_ ?_
  ·refine Again.by (i+1) ⟨by omega,by omega⟩ ?_
   rw [szs_succ];repeat' first|apply S0;conv=>whnf|refine Vo ?_|exact T0|(exact app_one (fun x:Int=>[i64 x]) 0 (fun _ _=>rfl) _ _ rfl)|refine Vm ?_ ?_
  ·rw [show i=l.length by omega];exact ⟨rfl,fun _ _=>rfl⟩
end Kx
open Go Sx Go.Proofs
namespace Kx
def sg1 (m:List Int) (i:Nat):Int:=if eqN m (m.getD i 0)=1 then m.getD i 0 else 0
def sgN (m:List Int):Nat->Int
 | 0=>0| i+1=>sgN m i+sg1 m i
theorem szs_getD (l:List Gp) (n i:Nat) (h:i<n):(szs l n).getD i 0=((l.getD i Gp.z).m.length:Int):=by simp [szs,List.getD,h]
theorem sgN_in (m:List Int) (hm:∀ i,i<m.length->0<=m.getD i 0/\m.getD i 0<=64):∀ i,i<=m.length->0<=sgN m i/\sgN m i<=64*i
 | 0,_=>⟨Int.le_refl _,Int.le_refl _⟩
 | i+1,h=>by
   have h1:=sgN_in m hm i (by omega);have h2:=hm i (by omega);rw [sgN,sg1]
   split<;>omega
theorem singular_ct (l:List Gp) (hl:l.length<=64) (hg:∀ g ∈ l,g.m.length<=64):Cr 69 [gps l] (i64 (sgN (szs l l.length) l.length)):=by
 have hmb:∀ i,i<(szs l l.length).length->0<=(szs l l.length).getD i 0/\(szs l l.length).getD i 0<=64:=fun i h=>by
  rw [szs_len] at h;rw [szs_getD l _ i h];have:=hg (l.getD i Gp.z) (getD_in h);omega
 have hsz:=sizes_ct l hl;have hn:=szs_len l l.length;generalize szs l l.length=m at *
 have h64:m.length<=64:=by omega
 rw [<-hn];clear hg;refine .det (De Tryz.func69 [] [] ?_);repeat' first|apply S0;conv=>whnf|(refine M0 hsz ?_)|refine K0 ?_
 refine Lw [] [] (α:=Nat) (fun i=>[(3,i64 (sgN m i)),(4,ints m),(11,ints m),(12,i64 m.length),(13,i64 i)]) (fun i=>[]) 0 (fun i=>i<=m.length) (fun i=>m.length - i) ?_ ?_
 ·refine Again.by 0 (zle _) ?_;repeat' first|apply S0;conv=>whnf|refine Vo ?_|exact T0|refine Vm ?_ ?_
  all_goals rfl
 ·intro i hi;have hb:=sgN_in m hmb i hi
  have hb1:=fun h:i<m.length=>hmb i h
  have hb2:(i:Int)<m.length->0<=m.getD (i:Int).toNat 0/\m.getD (i:Int).toNat 0<=64:=fun h=>hmb i (by omega)
  have hr:=fun h:(i:Int)<m.length=>rank_ct m i (by omega) (by omega)
  repeat' first|apply S0;conv=>whnf|refine Vo ?_|exact T0|refine W6 ?_|(refine M0 (hr (by omega)) ?_)|(refine Br.d (fun h=>?_) fun h=>?_)|refine T2 ?_ ?_|refine K0 ?_
  all_goals first
   | (refine Again.by (i+1) ⟨by omega,by omega⟩ ?_
      have e:sgN m (i+1)=sgN m i+sg1 m i:=rfl;rw [e,sg1]
      first | rw [if_pos (by assumption)] | rw [if_neg (by assumption)]
      repeat' first|apply S0;conv=>whnf|refine Vo ?_|exact T0|refine Vm ?_ ?_
      all_goals first | rfl | omega
      done)
   | (rw [show i=m.length by omega];done)
end Kx
open Go Sx Go.Proofs
namespace Kx
theorem ucmp2_ct (a b:Int):Cr 230 [u64 a,u64 b] (i64 (cmpI_c a b)):=by
 refine .det (De Tryz.func230 [] [] ?_);repeat' first|apply S0;conv=>whnf|exact T0|with_reducible refine Br.ff ?_|(refine Br.d (fun h=>?_) fun h=>?_)|refine T2 ?_ ?_|refine K0 ?_|(refine M0 (g:=285) (isnanU_ct _) ?_)
 all_goals (simp only [cmpI_c];repeat' split<;>omega)
def cmpU:List Int->List Int->Int
 | [],[]=>0| [],_ :: _=>-1| _ :: _,[]=>1
 | a :: l,b :: m=>if cmpI_c a b≠0 then cmpI_c a b else cmpU l m
theorem cmpU_step (a b:List Int) (i:Nat) (ha:i<a.length) (hb:i<b.length):cmpU (a.drop i) (b.drop i)=if cmpI_c (a.getD i 0) (b.getD i 0)≠0 then cmpI_c (a.getD i 0) (b.getD i 0) else cmpU (a.drop (i+1)) (b.drop (i+1)):=by
 rw [drop_step a 0 i ha,drop_step b 0 i hb];rfl
theorem cmpUs_ct (a b:List Int) (ha:a.length<=1000000) (hb:b.length<=1000000):Cr 168 [u64s a,u64s b] (i64 (cmpU a b)):=by
 refine .det (De Tryz.func168 [] [] ?_);repeat' first|apply S0;conv=>whnf
 refine Lw [] [] (α:=Nat) (fun i=>[(0,u64s a),(1,u64s b),(9,u64s a),(10,i64 a.length),(11,i64 i)]) (fun i=>[]) 0 (fun i=>i<=a.length/\i<=b.length/\cmpU a b=cmpU (a.drop i) (b.drop i)) (fun i=>a.length - i) ?_ ?_
 ·refine Again.by 0 ⟨zle _,zle _,rfl⟩ ?_;repeat' first|apply S0;conv=>whnf|refine Vo ?_|exact T0
 ·intro i ⟨h1,h2,hv⟩;repeat' first|apply S0;conv=>whnf|refine Vo ?_|exact T0|refine W6 ?_|(refine Br.d (fun h=>?_) fun h=>?_)|refine Br.bnot ?_|refine T2 ?_ ?_|refine K0 ?_|(refine M0 (g:=230) (ucmp2_ct _ _) ?_)
  all_goals try simp only [tnc] at *
  ·rw [hv,ddl (show b.length<=i by omega),drop_step a 0 i (by omega)];rfl
  ·refine Again.by (i+1) ⟨⟨by omega,by omega,by rw [hv,cmpU_step a b i (by omega) (by omega),if_neg (not_not_intro h)]⟩,by omega⟩ ?_;repeat' first|apply S0;conv=>whnf|refine Vo ?_|exact T0
  ·rw [hv,cmpU_step a b i (by omega) (by omega),if_pos h]
  ·rw [hv,ddl (show a.length<=i by omega),drop_step b 0 i (by omega)];rfl
  ·rw [hv,ddl (show a.length<=i by omega),ddl (show b.length<=i by omega)];rfl
theorem bcompare2_ct (a b:Bs) (ha:a.w.length<=1000) (hb:b.w.length<=1000):Cr 107 [a.d,b.d] (i64 (orI_c [cmpI_c a.L b.L,cmpI_c a.w.length b.w.length,cmpU a.w b.w])):=by
 have ho:=orL_ct [cmpI_c a.L b.L,cmpI_c a.w.length b.w.length,cmpU a.w b.w] (by simp);refine .det (De Tryz.func107 ord107 [] ?_);repeat' first|apply S0;conv=>whnf|exact T0|exact noSh_int _ _|(refine M0 (cmpUs_ct a.w b.w (by omega) (by omega)) ?_)|(refine M0 ho ?_)|refine T2 ?_ ?_|refine K1 ?_|(refine M0 (g:=167) (compare_ct _ _) ?_)|refine Vm ?_ ?_
end Kx
open Go Sx Go.Proofs
namespace Kx
def cmpB (a b:Bs):Int:=orI_c [cmpI_c a.L b.L,cmpI_c a.w.length b.w.length,cmpU a.w b.w]
theorem gcl_ct (g:Gp) (b:Bs) (ha:g.a.ok) (hb:b.ok):Cr 106 [.agg g.l,.ref b.l] (.bool (decide (cmpB g.a b=0))):=by
 have h1:=ha.le;have h2:=hb.le;have hc:=bcompare2_ct g.a b (by omega) (by omega);refine .det (De Tryz.func106 [] [] ?_);repeat' first|apply S0;conv=>whnf|exact T0|(refine M0 hc ?_)|refine T2 ?_ ?_|refine K0 ?_
 all_goals rfl
def gixG (b:Bs):Nat->List Gp->Int
 | _,[]=>-1
 | i,g :: l=>if cmpB g.a b=0 then i else gixG b (i+1) l
theorem gixG_step (b:Bs) (l:List Gp) (i:Nat) (h:i<l.length):gixG b i (l.drop i)=if cmpB (l.getD i Gp.z).a b=0 then (i:Int) else gixG b (i+1) (l.drop (i+1)):=by
 rw [drop_step l Gp.z i h];rfl
theorem gix_ct (l:List Gp) (b:Bs) (hl:l.length<=1000) (hg:∀ g ∈ l,g.a.ok) (hb:b.ok):Cr 105 [gps l,.fn 106 [.ref b.l]] (i64 (gixG b 0 l)):=by
 refine .det (De Tryz.func105 [] [] ?_);repeat' first|apply S0;conv=>whnf
 refine Lw [] [] (α:=Nat) (fun i=>[(0,gps l),(1,.fn 106 [.ref b.l]),(7,i64 l.length),(8,i64 i)]) (fun i=>[]) 0 (fun i=>i<=l.length/\gixG b 0 l=gixG b i (l.drop i)) (fun i=>l.length - i) ?_ ?_
 ·refine Again.by 0 ⟨zle _,rfl⟩ ?_;repeat' first|apply S0;conv=>whnf|refine Vo ?_|exact T0|refine Cho.l ?_|(refine Vc.mk ⟨rfl,rfl⟩ (Step.out ?_))
 ·intro i ⟨hi,hv⟩
  have hc:=fun h:(i:Int)<l.length=>gcl_ct (l.getD (i:Int).toNat Gp.z) b (hg _ (getD_in (by omega))) hb
  repeat' first|apply S0;conv=>whnf|refine Vo ?_|exact T0|refine W6 ?_|(refine M0 (hc (by omega)) ?_)|(refine Br.d (fun h=>?_) fun h=>?_)|refine T2 ?_ ?_|refine K0 ?_
  all_goals simp only [tnc] at *
  ·rw [hv,gixG_step b l i (by omega),if_pos h]
  ·refine Again.by (i+1) ⟨⟨by omega,by rw [hv,gixG_step b l i (by omega),if_neg h]⟩,by omega⟩ ?_;repeat' first|apply S0;conv=>whnf|refine Vo ?_|exact T0|refine Cho.l ?_|(refine Vc.mk ⟨rfl,rfl⟩ (Step.out ?_))
  ·rw [hv,ddl (by omega)];rfl
end Kx
open Go Sx Go.Proofs
namespace Kx
theorem cloneW_ct (l:List Int) (h0:l.length<=1000000):Cr 108 [u64s l] (u64s l):=by
 refine .det (De Tryz.func108 [] [] ?_);repeat' first|apply S0;conv=>whnf|refine Vb ?_|(refine NilB.mk fun b hb=>Step.out ?_)|exact T0|(refine Bm (fun h=>?_) fun h=>?_)|refine T2 ?_ ?_
 all_goals first
  | trivial
  | exact hb h
  | with_reducible rfl
  | with_reducible exact same_rfl
  | omega
  | (exact ⟨by omega,fun i hi=>by simp [iteL,selC]⟩)
theorem gcomp_ct (g h:Gp) (hg:0<g.m.length) (hh:0<h.m.length):Cr 110 [.agg g.l,.agg h.l] (i64 (cmpI_c (g.m.getD 0 0) (h.m.getD 0 0))):=by
 refine .det (De Tryz.func110 ord110 [] ?_);repeat' first|apply S0;conv=>whnf|refine Vo ?_|exact T0|refine T2 ?_ ?_|refine K1 ?_|(refine M0 (g:=167) (compare_ct _ _) ?_)
 all_goals rfl
theorem gcompG_ct (g h:Gp) (hg:0<g.m.length) (hh:0<h.m.length) (hlt:h.m.getD 0 0<g.m.getD 0 0):Cr 110 [.agg g.l,.agg h.l] (i64 1):=by
 have:=gcomp_ct g h hg hh;rw [show cmpI_c (g.m.getD 0 0) (h.m.getD 0 0)=1 by simp only [cmpI_c];repeat' split<;>omega] at this;exact this
structure GrS (L:List Gp):Prop where
 m:∀ g ∈ L,0<g.m.length
 a:∀ i,i+1<L.length->(L.getD i Gp.z).m.getD 0 0<(L.getD (i+1) Gp.z).m.getD 0 0
theorem gins_ct (L:List Gp) (hS:GrS L) (h12:L.length<=12):Cr 231 [gps L,i64 0,i64 L.length,.fn 110 []] (.tup []):=by
 refine .det (De Tryz.func231 ord231 [] ?_);repeat' first|apply S0;conv=>whnf|refine W6 ?_
 refine Lw ord231 [] (α:=Nat) (fun i=>[(0,gps L),(1,i64 0),(2,i64 L.length),(3,.fn 110 []),(8,i64 i)]) (fun i=>[]) 0 (fun i=>1<=i/\i<=13) (fun i=>13 - i) ?_ ?_
 ·refine Again.by 1 ⟨Nat.le_refl _,by omega⟩ ?_;repeat' first|apply S0;conv=>whnf|refine Vo ?_|exact T0|refine Cho.l ?_|(refine Vc.mk ⟨rfl,rfl⟩ (Step.out ?_))
 ·intro i ⟨h1,h13⟩;repeat' first|apply S0;conv=>whnf|exact T0|(refine Br.d (fun h=>?_) fun h=>?_)|refine T2 ?_ ?_
  refine Lw ord231 [] (α:=Unit) (fun j=>[(0,gps L),(1,i64 0),(2,i64 L.length),(3,.fn 110 []),(8,i64 i),(9,i64 i)]) (fun j=>[]) 0 (fun j=>True) (fun j=>0) ?_ ?_
  ·refine Again.by () trivial ?_;repeat' first|apply S0;conv=>whnf|refine Vo ?_|exact T0|refine Cho.l ?_|(refine Vc.mk ⟨rfl,rfl⟩ (Step.out ?_))
  ·intro _ _
   have hc:=gcompG_ct (L.getD (i:Int).toNat Gp.z) (L.getD ((i:Int) - 1).toNat Gp.z) (hS.m _ (getD_in (by omega))) (hS.m _ (getD_in (by omega))) (by
    have:=hS.a (i - 1) (by omega);rw [show i - 1+1=i by omega] at this
    rw [show ((i:Int) - 1).toNat=i - 1 by omega,tnc];exact this)
   repeat' first|apply S0;conv=>whnf|refine Vo ?_|refine W6 ?_|refine B1 ?_|refine B0 ?_|(refine M0 hc ?_)|refine K0 ?_
   refine Again.by (i+1) ⟨⟨by omega,by omega⟩,by omega⟩ ?_;repeat' first|apply S0;conv=>whnf|refine Vo ?_|exact T0|refine Cho.l ?_|(refine Vc.mk ⟨rfl,rfl⟩ (Step.out ?_))
end Kx
open Go Sx Go.Proofs
namespace Kx
theorem u8w (u:UInt8) : -9223372036854775808<=(u.toNat:Int)/\(u.toNat:Int)<=9223372036854775807:=by
 have:=u.toNat_lt;omega
theorem u8w0 (u:UInt8) : -9223372036854775808<=0+(u.toNat:Int)/\0+(u.toNat:Int)<=9223372036854775807:=by
 have:=u.toNat_lt;omega
set_option maxRecDepth 100000 in
theorem len64_ct (n:Nat) (h:n<=12):Ct Tryz.prog 240 [u64 n] fun r outs=>∃ x:Int,True/\r=i64 x/\outs = []:=by
 refine .some (De Tryz.func240 [] [] ?_);repeat' first|apply S0;conv=>whnf|refine W8 ?_|refine B0 ?_|(refine Wr.i64 (u8w _) ?_)|(refine Wr.i64 (u8w0 _) ?_)|refine Vm ?_ ?_
 ·exact ⟨by omega,Int.lt_of_le_of_lt (show (n:Int)<=12 by omega) (by decide +kernel)⟩
 ·exact ⟨⟨_,trivial,Two.mk rfl trivial⟩⟩
theorem len_ct (n:Nat) (h:n<=12):Ct Tryz.prog 170 [u64 n] fun r outs=>∃ x:Int,True/\r=i64 x/\outs = []:=by
 have hc:=len64_ct n h;refine .some (De Tryz.func170 [] [] ?_);repeat' first|apply S0;conv=>whnf|(refine Met.by hc ?_;rintro q outs ⟨x,_,rfl,rfl⟩)|refine K0 ?_
 refine Lf.by x trivial ?_;repeat' first|apply S0;conv=>whnf|exact T0|refine T2 ?_ ?_
theorem gpdq_ct (L:List Gp) (h:GrS L) (h12:L.length<=12) (x:Int):Cr 169 [gps L,i64 0,i64 L.length,i64 x,.fn 110 []] (.tup []):=by
 have hc:=gins_ct L h h12;refine .det (De Tryz.func169 ord169 [] ?_);repeat' first|apply S0;conv=>whnf
 refine Lw ord169 [] (α:=Unit) (fun i=>[(0,gps L),(1,i64 0),(2,i64 L.length),(3,i64 x),(4,.fn 110 []),(10,.lit true),(11,.lit true)]) (fun i=>[]) 0 (fun i=>True) (fun i=>0) ?_ ?_
 ·refine Again.by () trivial ?_;repeat' first|apply S0;conv=>whnf|refine Vo ?_|exact T0|refine Cho.l ?_|(refine Vc.mk ⟨rfl,rfl⟩ (Step.out ?_))
 ·intro _ _;repeat' first|apply S0;conv=>whnf|exact T0|refine W6 ?_|refine B1 ?_|(refine M0 hc ?_)|refine T2 ?_ ?_|refine K0 ?_
theorem gsort_ct (L:List Gp) (h:GrS L) (h12:L.length<=12):Cr 109 [gps L,.fn 110 []] (.tup []):=by
 have hl:=len_ct L.length h12;have hc:=gpdq_ct L h h12;refine .det (De Tryz.func109 [] [] ?_);repeat' first|apply S0;conv=>whnf|exact T0|(refine Met.by hl ?_;rintro q outs ⟨x,_,rfl,rfl⟩)|(refine Met.by (hc _) ?_;rintro q outs ⟨rfl,rfl⟩)|(refine Wr.u64 ?_ ?_;omega)|refine T2 ?_ ?_|refine K0 ?_
theorem gixG_in (b:Bs):∀ (l:List Gp) (i:Nat),gixG b i l = -1\/((i:Int)<=gixG b i l/\gixG b i l<i+l.length)
 | [],i=>.inl rfl
 | g :: l,i=>by
   rw [gixG];split
   ·exact .inr ⟨Int.le_refl _,by simp;omega⟩
   ·rcases gixG_in b l (i+1) with h | h
    ·exact .inl h
    ·exact .inr ⟨by omega,by simp;omega⟩
def vd (b:Bs):Bool:=decide (b.L≠0)
def Bs.okM (b:Bs):Prop:=b.ok\/b=Bs.z
theorem vd_ok {b:Bs} (h:b.ok):vd b=true:=by
 have:=len_pos h.L;unfold vd;exact decide_eq_true (by omega)
theorem bvalidZ_ct {b:Bs} (h:b=Bs.z):Cr 104 [b.d] (.bool false):=h ▸ bvalid0_ct
def gpStep (L:List Gp) (b:Bs) (i:Int):List Gp :=
 if gixG b 0 L<0 then L ++ [⟨b,[i]⟩] else L.set (gixG b 0 L).toNat ⟨(L.getD (gixG b 0 L).toNat Gp.z).a,(L.getD (gixG b 0 L).toNat Gp.z).m ++ [i]⟩
def grpN (l:List Bs):Nat->List Gp
 | 0=>[]
 | n+1=>if vd (l.getD n Bs.z) then gpStep (grpN l n) (l.getD n Bs.z) n else grpN l n
structure GrI (L:List Gp) (n:Nat):Prop where
 le:L.length<=n
 o:∀ g ∈ L,g.a.ok/\0<g.m.length/\g.m.length<=n/\g.m.getD 0 0<n
 a:∀ i,i+1<L.length->(L.getD i Gp.z).m.getD 0 0<(L.getD (i+1) Gp.z).m.getD 0 0
theorem GrI.s {L:List Gp} {n:Nat} (h:GrI L n):GrS L:=⟨fun g hg=>(h.o g hg).2.1,h.a⟩
theorem getD_set2 {α:Type} (L:List α) (k i:Nat) (x z:α) (hk:k<L.length):(L.set k x).getD i z=if i=k then x else L.getD i z:=by
 simp only [gDe,List.getElem?_set];by_cases e:k=i
 ·subst e;simp [hk]
 ·rw [if_neg e,if_neg (Ne.symm e)]
theorem GrI.step {L:List Gp} {n:Nat} (h:GrI L n) (b:Bs) (hb:b.ok):GrI (gpStep L b n) (n+1):=by
 have hn:=h.le;rw [gpStep];split
 ·refine ⟨by simp;omega,fun g hg=>?_,fun i hi=>?_⟩
  ·rcases List.mem_append.1 hg with hg | hg
   ·obtain ⟨h1,h2,h3,h4⟩:=h.o g hg;exact ⟨h1,h2,by omega,by omega⟩
   ·simp only [List.mem_singleton] at hg;subst hg;exact ⟨hb,by simp,by simp,by simp;omega⟩
  ·rw [lap,List.length_singleton] at hi;by_cases e:i+1<L.length
   ·rw [getD_ap1 _ _ _ _ (by omega),getD_ap1 _ _ _ _ e];exact h.a i e
   ·have e2:i+1=L.length:=by omega
    rw [getD_ap1 _ _ _ _ (by omega),e2,getD_last];exact (h.o _ (getD_in (by omega))).2.2.2
 ·rename_i hk
  rcases gixG_in b L 0 with h0 | ⟨h0,h1⟩
  ·omega
  ·have hkl:(gixG b 0 L).toNat<L.length:=by omega
   generalize (gixG b 0 L).toNat=k at *;obtain ⟨o1,o2,o3,o4⟩:=h.o _ (getD_in (z:=Gp.z) hkl);have hd:((L.getD k Gp.z).m ++ [(n:Int)]).getD 0 0=(L.getD k Gp.z).m.getD 0 0:=getD_ap1 _ _ _ _ o2
   have hdd:∀ i,((L.set k ⟨(L.getD k Gp.z).a,(L.getD k Gp.z).m ++ [(n:Int)]⟩).getD i Gp.z).m.getD 0 0=(L.getD i Gp.z).m.getD 0 0:=fun i=>by
    rw [getD_set2 _ _ _ _ _ hkl];split
    ·rename_i e;subst e;exact hd
    ·rfl
   refine ⟨by simp;omega,fun g hg=>?_,fun i hi=>?_⟩
   ·rcases List.mem_or_eq_of_mem_set hg with hg | rfl
    ·obtain ⟨h1,h2,h3,h4⟩:=h.o g hg;exact ⟨h1,h2,by omega,by omega⟩
    ·exact ⟨o1,by simp,by rw [lap,List.length_singleton];omega,by rw [hd];omega⟩
   ·rw [hdd,hdd];exact h.a i (by simpa using hi)
theorem GrI.more {L:List Gp} {n:Nat} (h:GrI L n):GrI L (n+1):=⟨by have:=h.le;omega,fun g hg=>by obtain ⟨h1,h2,h3,h4⟩:=h.o g hg;exact ⟨h1,h2,by omega,by omega⟩,h.a⟩
theorem grpN_ok (l:List Bs) (hok:∀ b ∈ l,b.okM):∀ n,n<=l.length->GrI (grpN l n) n
 | 0,_=>⟨zle _,nofun,fun i hi=>absurd hi (Nat.not_lt_zero _)⟩
 | n+1,h=>by
   have hI:=grpN_ok l hok n (by omega);rw [grpN]
   rcases hok (l.getD n Bs.z) (getD_in (by omega)) with hb | hb
   ·rw [if_pos (vd_ok hb)];exact hI.step _ hb
   ·rw [hb,if_neg (by decide)];exact hI.more
def gf (g:Gp):List D:=[i64 g.a.L,u64s g.a.w,.ftab 3 1 g.m.length fun q=>[i64 (g.m.getD q 0)]]
theorem rowG_new (L:List Gp) (b:Bs) (g:Nat->List D) (k:Nat) (hk:k=L.length) (hg:g 0 = [i64 b.L,u64s b.w,.nil]):LeF (if k<L.length then gf (L.getD k Gp.z) else g (k - L.length)) (gf ⟨b,[]⟩):=by
 subst hk;rw [if_neg (Nat.lt_irrefl _),Nat.sub_self,hg];exact .cons (fun _ _ _ h=>h) (.cons (fun _ _ _ h=>h) (.nil_ftab _ _ _ rfl))
theorem rowG_app (a:D) (c:D) (m:List Int) (x:Int) (n:Nat) (f:Nat->List D) (h:n=(m ++ [x]).length/\∀ q,q<(m ++ [x]).length->f q = [i64 ((m ++ [x]).getD q 0)]):LeF [a,c,.ftab 3 1 n f] [a,c,.ftab 3 1 (m ++ [x]).length fun q=>[i64 ((m ++ [x]).getD q 0)]] :=
 .cons (fun _ _ _ h=>h) (.cons (fun _ _ _ h=>h) (.ftab h.1 fun q hq=>h.2 q (by rw [<-h.1];exact hq)))
theorem ite_ints (c:Prop) [Decidable c] (x y:List Int):D.ite c (ints x) (ints y)=ints (if c then x else y):=by
 show D.tab 1 (if c then x.length else y.length) (fun i=>[i64 (if c then x.getD i 0 else y.getD i 0)])=_
 split<;>rfl
theorem ite_u64s (c:Prop) [Decidable c] (x y:List Int):D.ite c (u64s x) (u64s y)=u64s (if c then x else y):=by
 show D.tab 1 (if c then x.length else y.length) (fun i=>[u64 (if c then x.getD i 0 else y.getD i 0)])=_
 split<;>rfl
theorem ite_gp (c:Prop) [Decidable c] (x y:Gp):iteL c x.l y.l=(if c then x else y).l:=by
 show [i64 (if c then _ else _),D.ite c (u64s x.a.w) (u64s y.a.w),D.ite c (ints x.m) (ints y.m)]=_
 rw [ite_ints,ite_u64s]
 split<;>rfl
theorem takeL_one {α:Type} (L:List α) (z:α) (j:Nat) (h:j<L.length):L.take (j+1)=L.take j ++ [L.getD j z]:=by
 rw [List.take_add_one,gDe,List.getElem?_eq_getElem h];rfl
set_option maxHeartbeats 2000000 in
theorem groups_ct (l:List Bs) (hl:l.length<=12) (hok:∀ b ∈ l,b.okM):Cr 65 [bss l] (gps (grpN l l.length)):=by
 refine .det (De Tryz.func65 ord65 [] ?_);repeat' first|apply S0;conv=>whnf
 refine Lw ord65 [] (α:=Nat) (fun i=>[(3,.own 0),(10,bss l),(11,i64 l.length),(12,i64 i)]) (fun i=>[(0,.fam 206 3 (grpN l i).length fun j=>gf ((grpN l i).getD j Gp.z))]) 1 (fun i=>i<=l.length) (fun i=>l.length - i) ?_ ?_
 ·refine Again.by 0 (zle _) ?_;repeat' first|apply S0;conv=>whnf|refine Vo ?_|exact T0|(rfl)|refine Vm ?_ ?_
 ·intro i hi;have hI:=grpN_ok l hok i hi;have hLn:=hI.le;by_cases hlt:i<l.length
  ·rcases hok (l.getD (i:Int).toNat Bs.z) (getD_in (by omega)) with hb | hb
   ·skip
    have hv:=bvalid_ct _ hb;have hwl:=hb.le;have hc:=gix_ct (grpN l i) (l.getD (i:Int).toNat Bs.z) (by omega) (fun g hg=>(hI.o g hg).1) hb
    have hst:grpN l (i+1)=gpStep (grpN l i) (l.getD (i:Int).toNat Bs.z) i:=by rw [grpN,if_pos (vd_ok (show (l.getD i Bs.z).ok from hb))];rfl
    rw [gpStep] at hst;generalize grpN l i=L at *
    rcases gixG_in (l.getD (i:Int).toNat Bs.z) L 0 with h0 | ⟨h0,h1⟩
    ·rw [h0] at hc;rw [if_pos (by omega)] at hst;repeat' first|apply S0;conv=>whnf|refine Vo ?_|refine Vb ?_|exact noSh_int _ _|refine W6 ?_|with_reducible refine Br.tt ?_|refine B1 ?_|(refine M0 hv ?_)|(refine M0 hc ?_)|(refine Row.by (gf ⟨l.getD (i:Int).toNat Bs.z,[]⟩) (rowG_new _ _ _ _ rfl rfl) ?_)|refine Br.bnot ?_|refine K0 ?_|refine K1 ?_|(refine M0 (g:=108) (cloneW_ct _ (by omega)) ?_)|refine Vm ?_ ?_
     all_goals try
      refine Again.by (i+1) ⟨by omega,by omega⟩ ?_;repeat' first|apply S0;conv=>whnf|refine Vo ?_|exact T0|refine Vm ?_ ?_
     ·exact (show (0+1)*8<=140737488355328 by decide)
     ·rw [hst];refine ⟨by simp,fun j hj=>?_⟩;rw [lap,List.length_singleton] at hj;dsimp only;rw [tnc];by_cases e:j=L.length
      ·subst e;rw [if_pos rfl,getD_last];exact rowG_app _ _ [] _ _ _ (app_one (fun x:Int=>[i64 x]) 0 (fun _ _=>rfl) [] _ rfl)
      ·rw [if_neg e,if_pos (show j<L.length by omega),getD_ap1 _ _ _ _ (show j<L.length by omega)];exact LeF.refl _
    ·obtain ⟨k,hk⟩:=Int.eq_ofNat_of_zero_le h0;rw [hk] at hc hst h1;rw [if_neg (by omega),tnc] at hst;obtain ⟨_,_,o3,_⟩:=hI.o _ (getD_in (z:=Gp.z) (show k<L.length by omega));repeat' first|apply S0;conv=>whnf|refine Vo ?_|exact noSh_int _ _|refine W6 ?_|with_reducible refine Br.tt ?_|refine B1 ?_|refine B0 ?_|(refine M0 hv ?_)|(refine M0 hc ?_)|refine Br.bnot ?_|(refine Row.by _ (LeF.refl _) ?_)|refine K0 ?_|refine Vm ?_ ?_
     all_goals try
      refine Again.by (i+1) ⟨by omega,by omega⟩ ?_;repeat' first|apply S0;conv=>whnf|refine Vo ?_|exact T0|refine Vm ?_ ?_
     ·exact (show ((L.getD k Gp.z).m.length+1)*8<=140737488355328 by omega)
     ·rw [hst];refine ⟨by simp,fun j hj=>?_⟩;rw [List.length_set] at hj;dsimp only;rw [getD_set2 _ _ _ _ _ (show k<L.length by omega),tnc];by_cases e:j=k
      ·rw [if_pos e,if_pos e];exact rowG_app _ _ _ _ _ _ (app_one (fun x:Int=>[i64 x]) 0 (fun _ _=>rfl) _ _ rfl)
      ·rw [if_neg e,if_neg e];exact LeF.refl _
   ·have hv:=bvalidZ_ct hb
    have hst:grpN l (i+1)=grpN l i:=by rw [grpN,show l.getD i Bs.z=Bs.z from hb,if_neg (by decide)]
    generalize grpN l i=L at *;repeat' first|apply S0;conv=>whnf|refine Vo ?_|refine W6 ?_|with_reducible refine Br.ff ?_|refine B1 ?_|(refine M0 hv ?_)|refine Br.bnot ?_|refine K0 ?_
    refine Again.by (i+1) ⟨by omega,by omega⟩ ?_
    rw [hst];repeat' first|apply S0;conv=>whnf|refine Vo ?_|exact T0|refine Vm ?_ ?_
    all_goals exact ⟨rfl,fun _ _=>LeF.refl _⟩
  ·have hs:=gsort_ct (grpN l i) hI.s (by omega);rw [show l.length=i by omega];generalize grpN l i=L at *;repeat' first|apply S0;conv=>whnf|refine B0 ?_|(refine M0 hs ?_)|(exact (show noSh (.tup []) from trivial))|refine K0 ?_|refine Vm ?_ ?_
   refine Lw ord65 [] (α:=Nat) (fun j=>[(7,.own 0),(55,gps L),(56,i64 L.length),(57,i64 j)]) (fun j=>[(0,.arr 204 3 (L.take j).length fun q=>((L.take j).getD q Gp.z).l)]) 1 (fun j=>j<=L.length) (fun j=>L.length - j) ?_ ?_
   ·refine Again.by 0 (zle _) ?_;repeat' first|apply S0;conv=>whnf|refine Vo ?_|exact T0|(exact ⟨rfl,fun _ _=>rfl⟩)|(rfl)|refine Vm ?_ ?_
   ·intro j hj
    have hjl:(L.take j).length=j:=by rw [List.length_take];omega
    repeat' first|apply S0;conv=>whnf|refine Vo ?_|refine Vb ?_|exact T0|refine W6 ?_|(refine Br.d (fun h=>?_) fun h=>?_)|refine T2 ?_ ?_
    ·refine Again.by (j+1) ⟨by omega,by omega⟩ ?_
     rw [takeL_one L Gp.z j (by omega)];repeat' first|apply S0;conv=>whnf|refine Vo ?_|exact T0|(exact app1 Gp.l Gp.z ite_gp _ _)|refine Vm ?_ ?_
    ·rw [show j=L.length by omega,List.take_length];exact ⟨rfl,fun _ _=>rfl⟩
end Kx
