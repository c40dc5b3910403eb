/-
  Grams of texts, but for the set of them.
  No condition beyond those written in each theorem.
-/
import Derived.Test.YtjommlbfjnifmaaGreatDoorKA6
import Derived.Test.YtjommlbfjnifmaaGreatDoorKA5
import Derived.Test.YtjommlbfjnifmaaGreatDoorKA2
import Derived.Shelf.SlIter.Nil
import Derived.Shelf.SlSortCmp.NoneTotal
import Derived.Shelf.SlicesG.Cmp
import Derived.Test.YtjommlbfjnifmaaGreatDoorProg
import Derived.WalkKit
import Derived.Maps.OwnSet
import Derived.Maps.Views
set_option linter.unusedSimpArgs false
set_option linter.unusedVariables false
set_option maxRecDepth 4000
open Go Sx Go.Proofs
namespace Kx
def pgram (s:Str) (i:Nat):Str:=[UInt8.ofNat (97+i),s.getD i 0]
def posS (s:Str) (n:Nat):List Str:=(List.range n).map (pgram s)
theorem posS_succ (s:Str) (n:Nat):posS s (n+1)=posS s n ++ [pgram s n]:=by simp [posS,List.range_succ]
theorem posS_len (s:Str) (n:Nat):(posS s n).length=n:=by simp [posS]
theorem pgram_by (s:Str) (i:Nat) (hi:i<27) (x y:Int) (hx:x=97+(i:Int)) (hy:y=((s.getD i 0).toNat:Int)):ByS 2 (fun j=>selC [[D.int .u8 x],[D.int .u8 y]] j) (pgram s i):=by
 refine ⟨rfl,fun j hj=>?_⟩
 have e:((UInt8.ofNat (97+i)).toNat:Int)=97+(i:Int):=by rw [UInt8.toNat_ofNat'];omega
 match j with
 | 0 =>
   show [D.int .u8 x] = [D.int .u8 ((UInt8.ofNat (97+i)).toNat:Int)]
   rw [e,hx]
 | 1 =>
   show [D.int .u8 y] = [D.int .u8 ((s.getD i 0).toNat:Int)]
   rw [hy]
 | n+2=>omega
theorem positional_ct (s:Str) (hs:s.length<=26):Cr 194 [.str s] (strs (posS s s.length)):=by
 refine .det (De Tryz.func194 [] [] ?_)
 repeat' first|refine S0 ?_;conv=>whnf|refine B0 ?_
 refine Lw [] [] (α:=Nat) (fun i=>[(0,.str s),(3,.own 0),(9,i64 s.length),(10,i64 i)]) (fun i=>[(0,.arr 9 1 (posS s i).length fun j=>[.str ((posS s i).getD j [])])]) 1 (fun i=>i<=s.length) (fun i=>s.length - i) ?_ ?_
 ·refine Again.by 0 (zle _) ?_
  repeat' first|refine S0 ?_;conv=>whnf|refine Vo ?_|exact T0|(rfl)|refine Vm ?_ ?_
 ·intro i hi;have hl:=posS_len s i
  repeat' first|refine S0 ?_;conv=>whnf|refine Vo ?_|refine Vb ?_|exact T0|refine W6 ?_|refine W8 ?_|(refine Lf.by _ (pgram_by s i (by omega) _ _ rfl (by rw [tnc])) ?_)|(refine Br.d (fun h=>?_) fun h=>?_)|refine T2 ?_ ?_
  ·refine Again.by (i+1) ⟨by omega,by omega⟩ ?_
   rw [posS_succ]
   repeat' first|refine S0 ?_;conv=>whnf|refine Vo ?_|exact T0|(exact str_app _ _ rfl)|refine Vm ?_ ?_
  ·rw [show i=s.length by omega];exact ⟨rfl,fun _ _=>rfl⟩
theorem codegram_ct (s:Str) (hs:s.length<=10000):Cr 199 [.str s] (strs [61 :: s]):=by
 refine .det (De Tryz.func199 [] [] ?_)
 repeat' first|refine S0 ?_;conv=>whnf|exact T0|(refine Vc.om ?_ ?_;focus ((simp;omega);done))|refine T2 ?_ ?_
 exact ⟨rfl,selC_str [61 :: s]⟩
def bgr (u:Str) (i:Nat):Str:=(u.take (i+2)).drop i
def bgrs (u:Str) (n:Nat):List Str:=(List.range n).map (bgr u)
theorem bgrs_succ (u:Str) (n:Nat):bgrs u (n+1)=bgrs u n ++ [bgr u n]:=by simp [bgrs,List.range_succ]
theorem bgrs_len (u:Str) (n:Nat):(bgrs u n).length=n:=by simp [bgrs]
def tokG (t:Str):List Str:=bgrs ([95] ++ t ++ [95]) (t.length+1)
def gramsL (l:List Str):List Str:=l.flatMap tokG
theorem gramsL_succ {l:List Str} {i:Nat} (h:i<l.length):gramsL (l.take (i+1))=gramsL (l.take i) ++ tokG (l.getD i []):=by
 unfold gramsL;rw [take_step l [] i h,List.flatMap_append];simp
theorem gramsL_len (n:Nat):∀ (l:List Str),(∀ t ∈ l,t.length<=n)->(gramsL l).length<=(n+1)*l.length
 | [],_=>by simp [gramsL]
 | t :: l,h=>by
   have h1:=gramsL_len n l fun u hu=>h u (by simp [hu])
   have h2:=h t (by simp);have e:gramsL (t :: l)=tokG t ++ gramsL l:=rfl;rw [e];simp only [tokG,lap,bgrs_len,List.length_cons,Nat.mul_add,Nat.mul_one];omega
set_option maxHeartbeats 1000000 in
theorem grams_ct (s:Str) (hs:s.length<=64) (S:List Str) (hset:Cr 226 [strs (gramsL (toks s))] (strs S)):Cr 190 [.str s] (strs S):=by
 have htc:(toks s).length<=1+s.length:=toks_count s []
 have htl:∀ t ∈ toks s,t.length<=1000:=fun t ht=>by have:=toks_mem_len s t ht;omega
 refine .det (De Tryz.func190 [] [] ?_)
 repeat' first|refine S0 ?_;conv=>whnf|refine B0 ?_|refine K0 ?_|(refine M0 (g:=223) (tokens_ct _ (by first | omega | decide | (simp;done) | (simp;omega))) ?_)
 generalize toks s=T at *;refine Lw [] [] (α:=Nat) (fun i=>[(3,.own 1),(11,.own 0),(12,i64 T.length),(13,i64 i)]) (fun i=>[(0,.arr 9 1 T.length fun j=>[.str (T.getD j [])]),(1,.arr 9 1 (gramsL (T.take i)).length fun j=>[.str ((gramsL (T.take i)).getD j [])])]) 2 (fun i=>i<=T.length) (fun i=>T.length - i) ?_ ?_
 ·refine Again.by 0 (zle _) ?_
  repeat' first|refine S0 ?_;conv=>whnf|refine Vo ?_|exact T0|(rfl)|refine Vm ?_ ?_
 ·intro i hi
  have hg:=gramsL_len 1000 (T.take i) fun t ht=>htl t (List.mem_of_mem_take ht)
  rw [List.length_take] at hg
  have hti:=fun h:(i:Int)<T.length=>htl (T.getD (i:Int).toNat []) (getD_in (by omega))
  repeat' first|refine S0 ?_;conv=>whnf|refine Vo ?_|(refine Vc.om ?_ ?_;focus ((simp only [lap,List.length_cons,List.length_nil];have:=hti (by omega);omega);done))|(refine Wr.i64 ?_ ?_;focus ((simp only [lap,List.length_cons,List.length_nil];have:=hti (by omega);omega);done))|(refine CallOK.ctF (g:=226) (Step.out ?_))|(refine Br.d (fun h=>?_) fun h=>?_)
  ·have hu:([95] ++ T.getD (i:Int).toNat [] ++ [95]:Str).length=(T.getD (i:Int).toNat []).length+2:=by simp
   have ht:=hti (by omega);have hG:=gramsL_succ (l:=T) (i:=i) (by omega);simp only [tnc] at hu ht ⊢;generalize T.getD i []=t at *;generalize gramsL (T.take i)=G at *;refine Lw [] [] (α:=Nat) (fun j=>[(3,.own 1),(5,.str ([95] ++ t ++ [95])),(11,.own 0),(12,i64 T.length),(13,i64 i),(22,i64 ((t.length:Int)+1)),(23,i64 j)]) (fun j=>[(0,.arr 9 1 T.length fun j=>[.str (T.getD j [])]),(1,.arr 9 1 (G ++ bgrs ([95] ++ t ++ [95]) j).length fun q=>[.str ((G ++ bgrs ([95] ++ t ++ [95]) j).getD q [])])]) 2 (fun j=>j<=t.length+1) (fun j=>t.length+1 - j) ?_ ?_
   ·refine Again.by 0 (zle _) ?_
    rw [show G ++ bgrs ([95] ++ t ++ [95]) 0=G from List.append_nil G]
    repeat' first|refine S0 ?_;conv=>whnf|refine Vo ?_|exact T0
   ·intro j hj;generalize hw:([95] ++ t ++ [95]:Str)=u at *
    have hl:(G ++ bgrs u j).length=G.length+j:=by rw [lap,bgrs_len]
    have hS:G ++ bgrs u (j+1)=(G ++ bgrs u j) ++ [bgr u j]:=by rw [bgrs_succ,List.append_assoc]
    repeat' first|refine S0 ?_;conv=>whnf|refine Vo ?_|refine Vb ?_|refine W6 ?_|(refine Br.d (fun h=>?_) fun h=>?_)
    ·refine Again.by (j+1) ⟨by omega,by omega⟩ ?_
     rw [hS]
     repeat' first|refine S0 ?_;conv=>whnf|refine Vo ?_|exact T0|(exact str_app _ _ rfl)|refine Vm ?_ ?_
    ·refine Again.by (i+1) ⟨by omega,by omega⟩ ?_
     rw [hG,show tokG t=bgrs u j by rw [show j=t.length+1 by omega,<-hw];rfl]
     repeat' first|refine S0 ?_;conv=>whnf|refine Vo ?_|exact T0
  ·rw [show T.take i=T from List.take_of_length_le (by omega)] at *
   repeat' first|refine S0 ?_;conv=>whnf|exact T0|exact T1|(refine M0 hset ?_)|refine T2 ?_ ?_
end Kx
open Go Sx Go.Proofs
namespace Kx
def ltS:Str->Str->Bool
 | _,[]=>false| [],_ :: _=>true
 | x :: a,y :: b=>if x=y then ltS a b else decide (x.toNat<y.toNat)
def insS (t:Str):List Str->List Str
 | []=>[t]
 | u :: l=>if t=u then u :: l else if ltS t u then t :: u :: l else u :: insS t l
def setS:List Str->List Str
 | []=>[]| t :: l=>insS t (setS l)
def gramO (k:Nat) (x:Str):List Str:=match k with
 | 2=>posS x x.length| 3=>[61 :: x]| _=>setS (gramsL (toks x))
theorem sgram_ct (s:Sc) (hs:s.ok) (i:Nat) (hi:i<s.f.length) (k:Nat) (hk:s.kind i=(k:Int)) (x:Str) (hx:x.length<=64) (hd:x.length<=26\/k≠2) (h0:x≠[]) (hn:nrmB s.r k x=true) (hset:Cr 226 [strs (gramsL (toks x))] (strs (setS (gramsL (toks x))))):Cr 156 [s.d,i64 i,.str x] (.tup [strs (gramO k x),i64 0]):=by
 have h4:=hs.kd hi;have hf:=find_kind s hs i hi k hk;have hN:=snormal_ct s hs i hi k hk x (by omega) h0;rw [hn] at hN
 have hk4:k=1\/k=2\/k=3\/k=4:=by omega
 rcases hk4 with rfl | rfl | rfl | rfl
 all_goals
  refine .det (De Tryz.func156 [] [] ?_)
  repeat' first|refine S0 ?_;conv=>whnf|exact T0|with_reducible refine Br.tt ?_|refine B1 ?_|refine B0 ?_|(refine M0 hf ?_)|(refine M0 hN ?_)|(refine M0 (grams_ct x (by omega) _ hset) ?_)|(refine M0 (positional_ct x (by omega)) ?_)|(refine M0 (codegram_ct x (by omega)) ?_)|refine Br.bnot ?_|refine T2 ?_ ?_|refine K0 ?_
 all_goals exact ⟨rfl,fun _ _=>rfl⟩
end Kx
open Go Sx Go.Proofs
namespace Kx
def itS (i:Nat):Str:=Lib.decDigits i
theorem itoa_ct (i:Nat) (hi:i<100):Cr 205 [i64 i] (.str (itS i)):=by
 refine ⟨⟨Tryz.f205,Tryz.func205,by decide,by decide⟩,fun w S0 vs F hS hod hnd hFS=>?_⟩;have hll:=hod.length
 obtain ⟨va,hvs⟩:∃ va,vs = #[va]:=by
  match vs,hll with
  | ⟨[a]⟩,_=>exact ⟨a,rfl⟩
 subst hvs;simp only [OdT,Od] at hod;obtain ⟨F1,F2,rfl,⟨hv,rfl⟩,rfl⟩:=hod;simp only [Rd] at hv;subst hv;refine (Kx.strconv_Itoa_small i hi w).mono ?_
 rintro e w' ⟨rfl,rfl⟩
 exact ⟨_,_,_,S0,[],rfl,⟨rfl,rfl⟩,⟨rfl,rfl,rfl,Nat.le_refl _,fun _ _ _=>rfl,fun b h=>h,fun b h=>.inl h,List.nodup_nil,nofun,nofun⟩,by simp [OdT,Od,Rd,ioV,itS]⟩
theorem itS_len (i:Nat) (hi:i<100):(itS i).length<=2:=by
 have:∀ i<100,(itS i).length<=2:=by decide +kernel
 exact this i hi
def keyF (k:Int × Int) (i:Nat) (o:Bool) (salt:Str):Int × Int :=
 if o then keyD (keyD k ([102,105,101,108,100] ++ itS i)) ([115,97,108,116,61] ++ salt) else keyD k ([102,105,101,108,100] ++ itS i)
theorem fderive_ct (k:Int × Int) (i:Nat) (hi:i<100) (o:Bool) (salt:Str) (hs:salt.length<=1000):Cr 158 [.agg [i64 i,.bool o,.str salt],.agg [u64 k.1,u64 k.2]] (.agg [u64 (keyF k i o salt).1,u64 (keyF k i o salt).2]):=by
 have hl:=itS_len i hi;have h1:=derive_ct k ([102,105,101,108,100] ++ itS i) (by simp;omega);have h2:=derive_ct (keyD k ([102,105,101,108,100] ++ itS i)) ([115,97,108,116,61] ++ salt) (by simp;omega);unfold keyF;generalize keyD k _=k1 at *;generalize keyD k1 _=k2 at *;cases o
 all_goals
  refine .det (De Tryz.func158 ord158 [] ?_)
  repeat' first|refine S0 ?_;conv=>whnf|exact T0|with_reducible refine Br.tt ?_|with_reducible refine Br.ff ?_|(refine M0 h1 ?_)|(refine M0 h2 ?_)|(refine Vc.om ?_ ?_;focus ((simp;omega);done))|refine T2 ?_ ?_|refine K0 ?_|refine K1 ?_|(refine M0 (g:=205) (itoa_ct _ (by omega)) ?_)
 all_goals rfl
end Kx
open Go Sx Go.Proofs
namespace Kx
def saltR (p:Pm) (r:Rc):Str:=if 0<=p.s then r.v.getD p.s.toNat [] else []
def keyR (p:Pm) (k:Int × Int) (r:Rc) (i:Nat):Int × Int:=keyF k i (decide (0<=p.s)) (saltR p r)
theorem field_ct (s:Sc) (p:Pm) (hp:p.ok) (k:Int × Int) (r:Rc) (hn:r.v.length<=5) (i:Nat) (hi:i<r.v.length) (hps:p.s<r.v.length) (hsl:∀ x ∈ r.v,x.length<=1000) (G:List Str)
 (hG:Cr 156 [s.d,i64 i,.str (r.v.getD i [])] (.tup [strs G,i64 0])) (h80:G.length<=80) (hg:∀ g ∈ G,g.length<=1000) (h0:r.v.getD i []≠[]) :
 Cr 105 [s.d,p.d,.agg [u64 k.1,u64 k.2],r.d,i64 i] (.tup [.agg [i64 p.L,u64s (encW p (keyR p k r i) G)],i64 0]):=by
 have s1:=hp.s1;have s2:=hp.s2;have hb:=bencode_ct p hp (keyR p k r i) G h80 hg;have h0' : ¬ r.v.getD (i:Int).toNat [] = []:=h0;by_cases hz:0<=p.s
 ·have hd:=fderive_ct k i (by omega) (decide (0<=p.s)) (r.v.getD p.s.toNat []) (hsl _ (getD_in (by omega)))
  have e:keyR p k r i=keyF k i (decide (0<=p.s)) (r.v.getD p.s.toNat []):=by rw [keyR,saltR,if_pos hz]
  rw [<-e] at hd;generalize keyR p k r i=K at *;generalize encW p K G=W at *;refine .det (De Tryz.func105 ord105 [] ?_)
  repeat' first|refine S0 ?_;conv=>whnf|refine Vo ?_|exact T0|exact T1|refine B1 ?_|refine B0 ?_|(refine M0 hG ?_)|(refine M0 hd ?_)|(refine M0 hb ?_)|refine Br.bnot ?_|refine T2 ?_ ?_|refine K1 ?_
  all_goals rfl
 ·have hd:=fderive_ct k i (by omega) (decide (0<=p.s)) [] (zle _)
  have e:keyR p k r i=keyF k i (decide (0<=p.s)) []:=by rw [keyR,saltR,if_neg hz]
  rw [<-e] at hd;generalize keyR p k r i=K at *;generalize encW p K G=W at *;refine .det (De Tryz.func105 ord105 [] ?_)
  repeat' first|refine S0 ?_;conv=>whnf|refine Vo ?_|exact T0|exact T1|refine B1 ?_|refine B0 ?_|(refine M0 hG ?_)|(refine M0 hd ?_)|(refine M0 hb ?_)|refine Br.bnot ?_|refine T2 ?_ ?_|refine K1 ?_
  all_goals rfl
theorem field0_ct (s:Sc) (p:Pm) (k:Int × Int) (r:Rc) (hn:r.v.length<=5) (i:Nat) (hi:i<r.v.length) (h0:r.v.getD i [] = []) :
 Cr 105 [s.d,p.d,.agg [u64 k.1,u64 k.2],r.d,i64 i] (.tup [.agg [i64 0,u64s []],i64 0]):=by
 have h0' : r.v.getD (i:Int).toNat [] = []:=h0;refine .det (De Tryz.func105 ord105 [] ?_)
 repeat' first|refine S0 ?_;conv=>whnf|refine Vo ?_|exact T0|refine B1 ?_|refine T2 ?_ ?_
 all_goals rfl
end Kx
open Go Sx Go.Proofs
namespace Kx
def bitL (w:Int × List Int):List D:=[i64 w.1,u64s w.2]
def bitD (w:Int × List Int):D:=.agg (bitL w)
theorem encoded1_ct (s:Sc) (p:Pm) (k:Int × Int) (r:Rc) (i:Nat) (w:Int × List Int)
 (H:Cr 105 [s.d,p.d,.agg [u64 k.1,u64 k.2],r.d,i64 i] (.tup [bitD w,i64 0])) :
 Cr 104 [i64 i,p.d,.ref s.l,.ref [u64 k.1,u64 k.2],.ref r.l] (.tup [bitD w,i64 0]):=by
 refine .det (De Tryz.func104 [] [] ?_)
 repeat' first|refine S0 ?_;conv=>whnf|exact T0|exact T1|(refine M0 H ?_)|refine T2 ?_ ?_|refine K0 ?_
 all_goals rfl
theorem bitL_ite (c:Prop) [Decidable c] (a b:Int × List Int):iteL c (bitL a) (bitL b)=bitL (if c then a else b):=by
 show [D.int .i64 (if c then a.1 else b.1),D.tab 1 (if c then a.2.length else b.2.length) fun i=>[D.int .u64 (if c then a.2.getD i 0 else b.2.getD i 0)]]=_
 split<;>rfl
theorem bit_app (W:Nat->Int × List Int) (i:Nat):∀ j,j<i+1->iteL (j<i) (bitL (W j)) (bitL (W i))=bitL (W j):=fun j hj=>by
 rw [bitL_ite];split
 ·rfl
 ·rw [show j=i by omega]
theorem each1_ct (s:Sc) (n:Nat) (hn:n<=5) (P:Nat->Pm) (k:Int × Int) (r:Rc) (W:Nat->Int × List Int)
 (H:∀ i,i<n->Cr 105 [s.d,(P i).d,.agg [u64 k.1,u64 k.2],r.d,i64 i] (.tup [bitD (W i),i64 0])) :
 Cr 103 [.tab 3 n fun i=>(P i).l,.fn 104 [.ref s.l,.ref [u64 k.1,u64 k.2],.ref r.l]] (.tup [.tab 2 n fun i=>bitL (W i),i64 0]):=by
 refine .det (De Tryz.func103 [] [] ?_)
 repeat' first|refine S0 ?_;conv=>whnf
 refine Lw [] [] (α:=Nat) (fun i=>[(1,.fn 104 [.ref s.l,.ref [u64 k.1,u64 k.2],.ref r.l]),(6,.own 0),(11,.tab 3 n fun i=>(P i).l),(12,i64 n),(13,i64 i)]) (fun i=>[(0,.arr 98 2 i fun j=>bitL (W j))]) 1 (fun i=>i<=n) (fun i=>n - i) ?_ ?_
 ·refine Again.by 0 (zle _) ?_
  repeat' first|refine S0 ?_;conv=>whnf|refine Vo ?_|exact T0|refine Cho.l ?_|(refine Vc.mk ⟨rfl,rfl⟩ (Step.out ?_))
 ·intro i hi
  have h1:=fun h:i<n=>encoded1_ct s (P i) k r i (W i) (H i h)
  repeat' first|refine S0 ?_;conv=>whnf|refine Vo ?_|refine Vb ?_|exact T0|refine W6 ?_|refine B1 ?_|(refine M0 (h1 (by omega)) ?_)|(refine Br.d (fun h=>?_) fun h=>?_)|refine Br.bnot ?_|refine T2 ?_ ?_|refine K0 ?_
  ·refine Again.by (i+1) ⟨by omega,by omega⟩ ?_
   repeat' first|refine S0 ?_;conv=>whnf|refine Vo ?_|exact T0|refine Cho.l ?_|(refine Vc.mk ⟨rfl,rfl⟩ (Step.out ?_))|(exact ⟨rfl,bit_app W i⟩)|refine Vm ?_ ?_
  ·rw [show i=n by omega];exact ⟨rfl,fun _ _=>rfl⟩
theorem encoded_ct (s:Sc) (n:Nat) (hn:n<=5) (P:Nat->Pm) (k:Int × Int) (r:Rc) (W:Nat->Int × List Int)
 (H:∀ i,i<n->Cr 105 [s.d,(P i).d,.agg [u64 k.1,u64 k.2],r.d,i64 i] (.tup [bitD (W i),i64 0])) :
 Cr 58 [s.d,.tab 3 n fun i=>(P i).l,.agg [u64 k.1,u64 k.2],r.d] (.tup [.agg [i64 r.id,i64 r.ver,.tab 2 n fun i=>bitL (W i)],i64 0]):=by
 have h1:=each1_ct s n hn P k r W H;refine .det (De Tryz.func58 [] [0] ?_)
 repeat' first|refine S0 ?_;conv=>whnf
 refine Cw [] [] (α:=Unit) (fun u=>[(1,.tab 3 n fun i=>(P i).l),(4,.ref s.l),(6,.ref [u64 k.1,u64 k.2]),(7,.ref r.l),(8,.loc 0 0)]) (fun u=>[(0,.var [i64 0,i64 0,.nil])]) 1 (fun u=>True) ?_ ?_
 ·repeat' first|refine S0 ?_;conv=>whnf
  all_goals refine Again.by () trivial ?_
  all_goals
   repeat' first|refine S0 ?_;conv=>whnf|refine Vo ?_|exact T0
 ·intro _ _
  repeat' first|refine S0 ?_;conv=>whnf|exact T0|exact T1|refine B1 ?_|(refine M0 h1 ?_)|refine Br.bnot ?_|refine T2 ?_ ?_|refine K0 ?_
  all_goals rfl
end Kx
open Go Sx Go.Proofs
namespace Kx
structure PsOk (n:Nat) (P:Nat->Pm):Prop where
 p:∀ i,i<n->(P i).ok
 s:∀ i,i<n->(P i).s<n
 ne:∀ i,i<n->(P i).s≠i
theorem echeck_ct (s:Sc) (hs:s.ok) (P:Nat->Pm) (hP:PsOk s.f.length P):Cr 56 [s.d,.tab 3 s.f.length fun i=>(P i).l] (i64 0):=by
 have n1:=hs.n1;have n5:=hs.n5;have h1:=scheck_ct s hs;refine .det (De Tryz.func56 [] [] ?_)
 repeat' first|refine S0 ?_;conv=>whnf|refine B1 ?_|(refine M0 h1 ?_)|refine Br.bnot ?_|refine K0 ?_
 refine Lw [] [] (α:=Nat) (fun i=>[(1,.tab 3 s.f.length fun i=>(P i).l),(19,.tab 3 s.f.length fun i=>(P i).l),(20,i64 s.f.length),(21,i64 i)]) (fun i=>[]) 0 (fun i=>i<=s.f.length) (fun i=>s.f.length - i) ?_ ?_
 ·refine Again.by 0 (zle _) ?_
  repeat' first|refine S0 ?_;conv=>whnf|refine Vo ?_|exact T0
 ·intro i hi
  have hp:=fun h:i<s.f.length=>bcheck_ct (P i) (hP.p i h)
  have hps:s.f.length<=i\/(P (i:Int).toNat).s<s.f.length/\(P (i:Int).toNat).s≠i:=by
   by_cases h:i<s.f.length
   ·exact .inr ⟨hP.s i h,hP.ne i h⟩
   ·exact .inl (by omega)
  repeat' first|refine S0 ?_;conv=>whnf|refine Vo ?_|exact T0|refine W6 ?_|refine B1 ?_|refine B0 ?_|(refine M0 (hp (by omega)) ?_)|(refine Br.d (fun h=>?_) fun h=>?_)|refine Br.swap ?_|refine Br.bnot ?_|refine T2 ?_ ?_|refine K0 ?_
  ·refine Again.by (i+1) ⟨by omega,by omega⟩ ?_
   repeat' first|refine S0 ?_;conv=>whnf|refine Vo ?_|exact T0
theorem erecord_ct (s:Sc) (hs:s.ok) (P:Nat->Pm) (hP:PsOk s.f.length P) (k:Int × Int) (r:Rc) (hr:r.ok s) (W:Nat->Int × List Int)
 (H:∀ i,i<s.f.length->Cr 105 [s.d,(P i).d,.agg [u64 k.1,u64 k.2],r.d,i64 i] (.tup [bitD (W i),i64 0])) :
 Cr 23 [s.d,.tab 3 s.f.length fun i=>(P i).l,.agg [u64 k.1,u64 k.2],r.d] (.tup [.agg [i64 r.id,i64 r.ver,.tab 2 s.f.length fun i=>bitL (W i)],i64 0]):=by
 have h1:=encoded_ct s s.f.length hs.n5 P k r W H;have h2:=echeck_ct s hs P hP;refine .det (De Tryz.func23 [] [] ?_)
 repeat' first|refine S0 ?_;conv=>whnf|exact T0|exact T1|refine B1 ?_|(refine M0 h1 ?_)|(refine M0 h2 ?_)|refine Br.bnot ?_|refine T2 ?_ ?_|refine K0 ?_|(refine M0 (g:=57) (rCheck_ct _ (by assumption) _ (by assumption)) ?_)
 all_goals rfl
end Kx
open Go Sx Go.Proofs
namespace Kx
end Kx
open Go Sx Go.Proofs
namespace Kx
theorem bgr_len (u:Str) (i:Nat):(bgr u i).length<=2:=by simp [bgr];omega
theorem tokG_mem (t:Str):∀ g ∈ tokG t,g.length<=2:=fun g hg=>by
 obtain ⟨i,_,rfl⟩:=List.mem_map.1 hg;exact bgr_len _ _
theorem gramsL_mem (l:List Str):∀ g ∈ gramsL l,g.length<=2:=fun g hg=>by
 obtain ⟨t,_,h⟩:=List.mem_flatMap.1 hg;exact tokG_mem t g h
theorem gramsL_tail:∀ l:List Str,(gramsL l).length<=(tailS [32] l).length
 | []=>by simp [gramsL]
 | t :: l=>by
   have h:=gramsL_tail l;have e:gramsL (t :: l)=tokG t ++ gramsL l:=rfl
   have e2:tailS [32] (t :: l) = [32] ++ t ++ tailS [32] l:=by simp [tailS]
   rw [e,e2];simp only [tokG,lap,bgrs_len,List.length_cons,List.length_nil];omega
theorem gramsL_join:∀ l:List Str,(gramsL l).length<=(joinS [32] l).length+1
 | []=>by simp [gramsL]
 | t :: l=>by
   have h:=gramsL_tail l;have e:gramsL (t :: l)=tokG t ++ gramsL l:=rfl;rw [e];simp only [tokG,lap,bgrs_len,joinS];omega
theorem insS_len (t:Str):∀ l:List Str,(insS t l).length<=l.length+1
 | []=>by simp [insS]
 | u :: l=>by
   have h:=insS_len t l;unfold insS;split
   ·simp
   ·split
    ·simp
    ·simp;omega
theorem setS_len:∀ l:List Str,(setS l).length<=l.length
 | []=>by simp [setS]
 | t :: l=>by
   have h:=setS_len l;have h2:=insS_len t (setS l);rw [setS];simp;omega
theorem insS_mem (t:Str):∀ l:List Str,∀ g ∈ insS t l,g=t\/g ∈ l
 | [],g,hg=>by simp [insS] at hg;exact .inl hg
 | u :: l,g,hg=>by
   have h:=insS_mem t l g;unfold insS at hg;split at hg
   ·exact .inr hg
   ·split at hg
    ·simpa using hg
    ·rcases List.mem_cons.1 hg with rfl | hg
     ·exact .inr (by simp)
     ·rcases h hg with h | h
      ·exact .inl h
      ·exact .inr (by simp [h])
theorem setS_mem:∀ l:List Str,∀ g ∈ setS l,g ∈ l
 | [],g,hg=>by simp [setS] at hg
 | t :: l,g,hg=>by
   rw [setS] at hg
   rcases insS_mem t _ g hg with h | h
   ·simp [h]
   ·simp [setS_mem l g h]
theorem gramsT_len (x:Str):(gramsL (toks x)).length<=x.length+1:=by
 have h1:=(join_toksF x [] []).2 rfl;have h2:=gramsL_join (toks x);have e:toksF [] x=toks x:=rfl;simp [e] at h1;omega
theorem gramO_len (k:Nat) (x:Str) (hx:x.length<=64):(gramO k x).length<=80:=by
 unfold gramO;split
 ·rw [posS_len];omega
 ·simp
 ·have:=setS_len (gramsL (toks x));have:=gramsT_len x;omega
theorem gramO_mem (k:Nat) (x:Str) (hx:x.length<=64):∀ g ∈ gramO k x,g.length<=1000:=fun g hg=>by
 unfold gramO at hg;split at hg
 ·obtain ⟨i,_,rfl⟩:=List.mem_map.1 hg;simp [pgram]
 ·simp at hg;subst hg;simp;omega
 ·have:=gramsL_mem _ g (setS_mem _ g hg);omega
def SetOK:Prop:=∀ l:List Str,l.length<=100->(∀ g ∈ l,g.length<=2)->Cr 226 [strs l] (strs (setS l))
def fldW (s:Sc) (p:Pm) (k:Int × Int) (r:Rc) (i:Nat):Int × List Int:=if r.v.getD i [] = [] then (0,[]) else (p.L,encW p (keyR p k r i) (gramO (s.kind i).toNat (r.v.getD i [])))
theorem fieldR_ct (hset:SetOK) (s:Sc) (hs:s.ok) (P:Nat->Pm) (hP:PsOk s.f.length P) (k:Int × Int) (r:Rc) (hr:r.ok s) (i:Nat) (hi:i<s.f.length) :
 Cr 105 [s.d,(P i).d,.agg [u64 k.1,u64 k.2],r.d,i64 i] (.tup [bitD (fldW s (P i) k r i),i64 0]):=by
 have n5:=hs.n5;have hn:=hr.n;have hv:=hr.v i hi;unfold fldW;by_cases h0:r.v.getD i [] = []
 ·rw [if_pos h0];exact field0_ct s (P i) k r (by omega) i (by omega) h0
 ·rw [if_neg h0];have hb:=hv.b;rw [nB,if_neg h0] at hb
  have hd:(r.v.getD i []).length<=26\/(s.kind i).toNat≠2:=by
   by_cases e:(s.kind i).toNat=2
   ·rw [e] at hb;have h8:rdB (r.v.getD i [])=true:=hb;simp only [rdB,bat,decide_eq_true_eq] at h8;exact .inl (by omega)
   ·exact .inr e
  have ht:=gramsT_len (r.v.getD i []);have hle:=hv.le;have hG:=sgram_ct s hs i hi _ (kind_nat hs hi) (r.v.getD i []) hle hd h0 hb (hset _ (by omega) (gramsL_mem _))
  exact field_ct s (P i) (hP.p i hi) k r (by omega) i (by omega) (by have:=hP.s i hi;omega) (fun x hx=>by
   obtain ⟨j,hj,rfl⟩:=List.getElem_of_mem hx;have h9:=(hr.v j (by omega)).le;rw [gDe,List.getElem?_eq_getElem hj] at h9
   simp at h9;omega) _ hG (gramO_len _ _ hle) (gramO_mem _ _ hle) h0
end Kx
open Go Sx Go.Proofs
namespace Kx
def U64 (x:Int):Prop:=0<=x/\x<=18446744073709551615
end Kx
namespace Go.Proofs
open Go.Shelf
def Kx.keysA_ren:Go.Shelf.Ren:=⟨fun | 7=>259 | 10=>278 | n=>n,fun | 23=>348 | 26=>9 | 3=>349 | 28=>345 | 0=>0 | 27=>344 | 33=>154 | 4=>4 | n=>n,fun | n=>n⟩
theorem Kx.keysA:Go.Proofs.SlLaysZ.n7 Tryz.prog Kx.keysA_ren:={
 mixed:=by kernel_rfl
 f7:=⟨Tryz.f259.name,by decide,Tryz.func259.trans (congrArg some (by kernel_rfl))⟩
 f10:=⟨Tryz.f278.name,by decide,Tryz.func278.trans (congrArg some (by kernel_rfl))⟩
 t0:=Tryz.underlying0
 a0:=Tryz.isAgg0
 z0:=Tryz.sizeOf0
 v0:=Tryz.zeroValue0
 t4:=Tryz.underlying4
 a4:=Tryz.isAgg4
 z4:=Tryz.sizeOf4
 v4:=Tryz.zeroValue4
 t23:=Tryz.underlying348
 a23:=Tryz.isAgg348
 z23:=Tryz.sizeOf348
 v23:=Tryz.zeroValue348
 t26:=Tryz.underlying9
 a26:=Tryz.isAgg9
 z26:=Tryz.sizeOf9
 v26:=Tryz.zeroValue9
 t27:=Tryz.underlying344
 a27:=Tryz.isAgg344
 z27:=Tryz.sizeOf344
 v27:=Tryz.zeroValue344
 t28:=Tryz.underlying345
 a28:=Tryz.isAgg345
 z28:=Tryz.sizeOf345
 v28:=Tryz.zeroValue345
 t33:=Tryz.underlying154
 a33:=Tryz.isAgg154
 z33:=Tryz.sizeOf154
 v33:=Tryz.zeroValue154 }
def Kx.sortedA_ren:Go.Shelf.Ren:=⟨fun | 6=>258 | 8=>276 | 9=>277 | 11=>294 | 13=>89 | 12=>295 | 23=>148 | 24=>149 | 14=>306 | 15=>307 | 16=>308 | 17=>309 | 18=>310 | 19=>311 | 20=>312 | 21=>313 | 22=>314 | 25=>319 | 26=>184 | 27=>185 | 28=>320 | 29=>321 | 30=>322 | 31=>327 | n=>n,fun | 26=>9 | 28=>345 | 24=>59 | 0=>0 | 3=>3 | 37=>91 | 48=>255 | 50=>80 | 4=>4 | 40=>249 | 39=>248 | 45=>243 | 5=>5 | 9=>9 | 51=>284 | 55=>287 | 57=>308 | 58=>309 | 33=>154 | n=>n,fun | n=>n⟩
theorem Kx.sortedA:Go.Proofs.SlLaysZ.n6 Tryz.prog Kx.sortedA_ren:={
 mixed:=by kernel_rfl
 f6:=⟨Tryz.f258.name,by decide,Tryz.func258.trans (congrArg some (by kernel_rfl))⟩
 f8:=⟨Tryz.f276.name,by decide,Tryz.func276.trans (congrArg some (by kernel_rfl))⟩
 f11:=⟨Tryz.f294.name,by decide,Tryz.func294.trans (congrArg some (by kernel_rfl))⟩
 t0:=Tryz.underlying0
 a0:=Tryz.isAgg0
 z0:=Tryz.sizeOf0
 v0:=Tryz.zeroValue0
 t24:=Tryz.underlying59
 a24:=Tryz.isAgg59
 z24:=Tryz.sizeOf59
 v24:=Tryz.zeroValue59
 t26:=Tryz.underlying9
 a26:=Tryz.isAgg9
 z26:=Tryz.sizeOf9
 v26:=Tryz.zeroValue9
 t28:=Tryz.underlying345
 a28:=Tryz.isAgg345
 z28:=Tryz.sizeOf345
 v28:=Tryz.zeroValue345
 i26:=by kernel_rfl }
def Kx.sortR_ren:Go.Shelf.Ren:=⟨fun | 6=>174 | 15=>89 | 14=>209 | 28=>148 | 29=>149 | 20=>238 | 21=>239 | 22=>240 | 23=>241 | 24=>242 | 25=>243 | 26=>244 | 27=>245 | 46=>269 | 47=>184 | 48=>185 | 49=>270 | 50=>271 | 57=>292 | n=>n,fun | 22=>128 | 24=>102 | 25=>132 | 3=>3 | 39=>91 | 0=>0 | 53=>255 | 55=>80 | 4=>4 | 46=>249 | 45=>248 | 50=>243 | 5=>5 | 9=>9 | 66=>284 | 70=>287 | 76=>308 | 77=>309 | n=>n,fun | n=>n⟩
theorem Kx.sortR:Go.Proofs.SlLaysF0.n6 Tryz.prog Kx.sortR_ren:={
 mixed:=by kernel_rfl
 f6:=⟨Tryz.f174.name,by decide,Tryz.func174.trans (congrArg some (by kernel_rfl))⟩
 f14:=⟨Tryz.f209.name,by decide,Tryz.func209.trans (congrArg some (by kernel_rfl))⟩
 f15:=Tryz.func89.trans (congrArg some (by kernel_rfl))
 f20:=⟨Tryz.f238.name,by decide,Tryz.func238.trans (congrArg some (by kernel_rfl))⟩
 f21:=⟨Tryz.f239.name,by decide,Tryz.func239.trans (congrArg some (by kernel_rfl))⟩
 f22:=⟨Tryz.f240.name,by decide,Tryz.func240.trans (congrArg some (by kernel_rfl))⟩
 f23:=⟨Tryz.f241.name,by decide,Tryz.func241.trans (congrArg some (by kernel_rfl))⟩
 f24:=⟨Tryz.f242.name,by decide,Tryz.func242.trans (congrArg some (by kernel_rfl))⟩
 f25:=⟨Tryz.f243.name,by decide,Tryz.func243.trans (congrArg some (by kernel_rfl))⟩
 f26:=⟨Tryz.f244.name,by decide,Tryz.func244.trans (congrArg some (by kernel_rfl))⟩
 f27:=⟨Tryz.f245.name,by decide,Tryz.func245.trans (congrArg some (by kernel_rfl))⟩
 f28:=Tryz.func148.trans (congrArg some (by kernel_rfl))
 f29:=Tryz.func149.trans (congrArg some (by kernel_rfl))
 f46:=⟨Tryz.f269.name,by decide,Tryz.func269.trans (congrArg some (by kernel_rfl))⟩
 f47:=Tryz.func184.trans (congrArg some (by kernel_rfl))
 f48:=Tryz.func185.trans (congrArg some (by kernel_rfl))
 f49:=⟨Tryz.f270.name,by decide,Tryz.func270.trans (congrArg some (by kernel_rfl))⟩
 f50:=⟨Tryz.f271.name,by decide,Tryz.func271.trans (congrArg some (by kernel_rfl))⟩
 f57:=⟨Tryz.f292.name,by decide,Tryz.func292.trans (congrArg some (by kernel_rfl))⟩
 t0:=Tryz.underlying0
 a0:=Tryz.isAgg0
 z0:=Tryz.sizeOf0
 v0:=Tryz.zeroValue0
 t3:=Tryz.underlying3
 a3:=Tryz.isAgg3
 z3:=Tryz.sizeOf3
 v3:=Tryz.zeroValue3
 t4:=Tryz.underlying4
 a4:=Tryz.isAgg4
 z4:=Tryz.sizeOf4
 v4:=Tryz.zeroValue4
 t5:=Tryz.underlying5
 a5:=Tryz.isAgg5
 z5:=Tryz.sizeOf5
 v5:=Tryz.zeroValue5
 t9:=Tryz.underlying9
 a9:=Tryz.isAgg9
 z9:=Tryz.sizeOf9
 v9:=Tryz.zeroValue9
 t22:=Tryz.underlying128
 a22:=Tryz.isAgg128
 z22:=Tryz.sizeOf128
 v22:=Tryz.zeroValue128
 t25:=Tryz.underlying132
 a25:=Tryz.isAgg132
 z25:=Tryz.sizeOf132
 v25:=Tryz.zeroValue132
 t39:=Tryz.underlying91
 a39:=Tryz.isAgg91
 z39:=Tryz.sizeOf91
 v39:=Tryz.zeroValue91
 t45:=Tryz.underlying248
 a45:=Tryz.isAgg248
 z45:=Tryz.sizeOf248
 v45:=Tryz.zeroValue248
 t46:=Tryz.underlying249
 a46:=Tryz.isAgg249
 z46:=Tryz.sizeOf249
 v46:=Tryz.zeroValue249
 t50:=Tryz.underlying243
 a50:=Tryz.isAgg243
 z50:=Tryz.sizeOf243
 v50:=Tryz.zeroValue243
 t53:=Tryz.underlying255
 a53:=Tryz.isAgg255
 z53:=Tryz.sizeOf255
 v53:=Tryz.zeroValue255
 t55:=Tryz.underlying80
 a55:=Tryz.isAgg80
 z55:=Tryz.sizeOf80
 v55:=Tryz.zeroValue80
 t66:=Tryz.underlying284
 a66:=Tryz.isAgg284
 z66:=Tryz.sizeOf284
 v66:=Tryz.zeroValue284
 t70:=Tryz.underlying287
 a70:=Tryz.isAgg287
 z70:=Tryz.sizeOf287
 v70:=Tryz.zeroValue287
 t76:=Tryz.underlying308
 a76:=Tryz.isAgg308
 z76:=Tryz.sizeOf308
 v76:=Tryz.zeroValue308
 t77:=Tryz.underlying309
 a77:=Tryz.isAgg309
 z77:=Tryz.sizeOf309
 v77:=Tryz.zeroValue309 }
def Kx.sortQ_ren:Go.Shelf.Ren:=⟨fun | 6=>136 | 15=>89 | 14=>182 | 28=>148 | 29=>149 | 20=>213 | 21=>214 | 22=>215 | 23=>216 | 24=>217 | 25=>218 | 26=>219 | 27=>220 | 46=>247 | 47=>184 | 48=>185 | 49=>248 | 50=>249 | 57=>273 | n=>n,fun | 22=>174 | 24=>176 | 25=>245 | 3=>3 | 39=>91 | 0=>0 | 53=>255 | 55=>80 | 4=>4 | 46=>249 | 45=>248 | 50=>243 | 5=>5 | 9=>9 | 66=>284 | 70=>287 | 76=>308 | 77=>309 | n=>n,fun | n=>n⟩
theorem Kx.sortQ:Go.Proofs.SlLaysF0.n6 Tryz.prog Kx.sortQ_ren:={
 mixed:=by kernel_rfl
 f6:=⟨Tryz.f136.name,by decide,Tryz.func136.trans (congrArg some (by kernel_rfl))⟩
 f14:=⟨Tryz.f182.name,by decide,Tryz.func182.trans (congrArg some (by kernel_rfl))⟩
 f15:=Tryz.func89.trans (congrArg some (by kernel_rfl))
 f20:=⟨Tryz.f213.name,by decide,Tryz.func213.trans (congrArg some (by kernel_rfl))⟩
 f21:=⟨Tryz.f214.name,by decide,Tryz.func214.trans (congrArg some (by kernel_rfl))⟩
 f22:=⟨Tryz.f215.name,by decide,Tryz.func215.trans (congrArg some (by kernel_rfl))⟩
 f23:=⟨Tryz.f216.name,by decide,Tryz.func216.trans (congrArg some (by kernel_rfl))⟩
 f24:=⟨Tryz.f217.name,by decide,Tryz.func217.trans (congrArg some (by kernel_rfl))⟩
 f25:=⟨Tryz.f218.name,by decide,Tryz.func218.trans (congrArg some (by kernel_rfl))⟩
 f26:=⟨Tryz.f219.name,by decide,Tryz.func219.trans (congrArg some (by kernel_rfl))⟩
 f27:=⟨Tryz.f220.name,by decide,Tryz.func220.trans (congrArg some (by kernel_rfl))⟩
 f28:=Tryz.func148.trans (congrArg some (by kernel_rfl))
 f29:=Tryz.func149.trans (congrArg some (by kernel_rfl))
 f46:=⟨Tryz.f247.name,by decide,Tryz.func247.trans (congrArg some (by kernel_rfl))⟩
 f47:=Tryz.func184.trans (congrArg some (by kernel_rfl))
 f48:=Tryz.func185.trans (congrArg some (by kernel_rfl))
 f49:=⟨Tryz.f248.name,by decide,Tryz.func248.trans (congrArg some (by kernel_rfl))⟩
 f50:=⟨Tryz.f249.name,by decide,Tryz.func249.trans (congrArg some (by kernel_rfl))⟩
 f57:=⟨Tryz.f273.name,by decide,Tryz.func273.trans (congrArg some (by kernel_rfl))⟩
 t0:=Tryz.underlying0
 a0:=Tryz.isAgg0
 z0:=Tryz.sizeOf0
 v0:=Tryz.zeroValue0
 t3:=Tryz.underlying3
 a3:=Tryz.isAgg3
 z3:=Tryz.sizeOf3
 v3:=Tryz.zeroValue3
 t4:=Tryz.underlying4
 a4:=Tryz.isAgg4
 z4:=Tryz.sizeOf4
 v4:=Tryz.zeroValue4
 t5:=Tryz.underlying5
 a5:=Tryz.isAgg5
 z5:=Tryz.sizeOf5
 v5:=Tryz.zeroValue5
 t9:=Tryz.underlying9
 a9:=Tryz.isAgg9
 z9:=Tryz.sizeOf9
 v9:=Tryz.zeroValue9
 t22:=Tryz.underlying174
 a22:=Tryz.isAgg174
 z22:=Tryz.sizeOf174
 v22:=Tryz.zeroValue174
 t25:=Tryz.underlying245
 a25:=Tryz.isAgg245
 z25:=Tryz.sizeOf245
 v25:=Tryz.zeroValue245
 t39:=Tryz.underlying91
 a39:=Tryz.isAgg91
 z39:=Tryz.sizeOf91
 v39:=Tryz.zeroValue91
 t45:=Tryz.underlying248
 a45:=Tryz.isAgg248
 z45:=Tryz.sizeOf248
 v45:=Tryz.zeroValue248
 t46:=Tryz.underlying249
 a46:=Tryz.isAgg249
 z46:=Tryz.sizeOf249
 v46:=Tryz.zeroValue249
 t50:=Tryz.underlying243
 a50:=Tryz.isAgg243
 z50:=Tryz.sizeOf243
 v50:=Tryz.zeroValue243
 t53:=Tryz.underlying255
 a53:=Tryz.isAgg255
 z53:=Tryz.sizeOf255
 v53:=Tryz.zeroValue255
 t55:=Tryz.underlying80
 a55:=Tryz.isAgg80
 z55:=Tryz.sizeOf80
 v55:=Tryz.zeroValue80
 t66:=Tryz.underlying284
 a66:=Tryz.isAgg284
 z66:=Tryz.sizeOf284
 v66:=Tryz.zeroValue284
 t70:=Tryz.underlying287
 a70:=Tryz.isAgg287
 z70:=Tryz.sizeOf287
 v70:=Tryz.zeroValue287
 t76:=Tryz.underlying308
 a76:=Tryz.isAgg308
 z76:=Tryz.sizeOf308
 v76:=Tryz.zeroValue308
 t77:=Tryz.underlying309
 a77:=Tryz.isAgg309
 z77:=Tryz.sizeOf309
 v77:=Tryz.zeroValue309 }
def Kx.cmpI_ren:Go.Shelf.Ren:=⟨fun | 5=>91 | 7=>150 | n=>n,fun | 22=>3 | 3=>3 | 4=>4 | n=>n,fun | n=>n⟩
theorem Kx.cmpI:Go.Proofs.SlLaysC2.n5 Tryz.prog Kx.cmpI_ren:={
 mixed:=by kernel_rfl
 f5:=⟨Tryz.f91.name,by decide,Tryz.func91.trans (congrArg some (by kernel_rfl))⟩
 f7:=⟨Tryz.f150.name,by decide,Tryz.func150.trans (congrArg some (by kernel_rfl))⟩
 t3:=Tryz.underlying3
 a3:=Tryz.isAgg3
 z3:=Tryz.sizeOf3
 v3:=Tryz.zeroValue3
 t4:=Tryz.underlying4
 a4:=Tryz.isAgg4
 z4:=Tryz.sizeOf4
 v4:=Tryz.zeroValue4
 t22:=Tryz.underlying3
 a22:=Tryz.isAgg3
 z22:=Tryz.sizeOf3
 v22:=Tryz.zeroValue3 }
end Go.Proofs
open Go Sx Go.Proofs
namespace Kx
open Go.RowKit Go.Maps Go.WideMaps
def keysK (g:Nat->ByteArray) (k:Nat):List Lit:=(List.range k).map fun j=>Lit.string (g j).data.toList
def SnU (g:Nat->ByteArray) (k:Nat):DataW Unit:=setOf (.agg []) (keysK g k)
theorem SnU_succ (g:Nat->ByteArray) (k:Nat):SnU g (k+1)=(SnU g k).put (.string (g k).data.toList) (.agg []):=by
 unfold SnU keysK;rw [List.range_succ,List.map_append,List.map_singleton,setOf_snoc]
theorem SnU_zero (g:Nat->ByteArray):SnU g 0 = .map []:=by simp [SnU,keysK,setOf]
theorem lawK:Keyed Tryz.prog 9:=string_keyed Tryz.underlying9
set_option maxRecDepth 100000 in
theorem of_none (g:Nat->ByteArray) (a:Option Addr) (cap:Nat) (w:World):Calls Tryz.prog 260 #[.slice a 0 cap] w fun e w'=>e = .returned (.map (some w.heap.size))/\w'.ownsMap Tryz.prog 9 unitElem w.heap.size 0 (SnU g 0)/\Below w.heap.size w w':=by
 have hmm:=@run_makeMap Tryz.prog
 go_enter Tryz.func260,Tryz.ntmps260
 go_wp2
 refine wp_loop_rounds 1 ?_;rw [rounds_succ]
 go_wp2
 go_ret
 exact ⟨rfl,by rw [SnU_zero];exact World.ownsMap_made _ _ _ _,(Below.refl _ _).alloc (Nat.le_refl _) _⟩
set_option maxRecDepth 100000 in
theorem of_some (b off cap n:Nat) (g:Nat->ByteArray) (w:World) (hl:n<=1000) (hb:b<w.heap.size)
 (hc:∀ j,j<n->w.cell? ⟨b,off+j,none⟩=some (.string (g j))) (hsz:∀ j,j<n->(g j).size<=maxLen) :
 Calls Tryz.prog 260 #[.slice (some ⟨b,off,none⟩) n cap] w fun e w'=>e = .returned (.map (some w.heap.size))/\w'.ownsMap Tryz.prog 9 unitElem w.heap.size n (SnU g n)/\Below w.heap.size w w':=by
 have hmm:=@run_makeMap Tryz.prog
 go_enter Tryz.func260,Tryz.ntmps260
 go_wp2
 go_loopw [9] (fun i wr=>∃ k:Nat,k<=n/\i = .int .i64 k/\wr.ownsMap Tryz.prog 9 unitElem w.heap.size k (SnU g k)/\Below w.heap.size w wr)
  (fun i _=>n - (Go.RowKit.intOf i).toNat)
 case atStart=>exact ⟨0,zle _,rfl,by rw [SnU_zero];exact World.ownsMap_made _ _ _ _,(Below.refl _ _).alloc (Nat.le_refl _) _⟩
 case round =>
  obtain ⟨k,hk,rfl,hown,hnx⟩:=hrel
  have hcx:k<n->wr.cell? ⟨b,off+k,none⟩=some (.string (g k)):=fun h=>(hnx.cell (by exact hb)).trans (hc k h)
  have hkey:k<n->keyOf Tryz.prog 9 (.string (g k))=some (.string (g k).data.toList):=fun h=>keyOf_string_mk Tryz.underlying9 (hsz k h)
  go_wp2_with (first
   | (at_mapUpdate;refine wpList_mapUpdate_own _ rfl _ _ _ 348 rfl _ _ lawK Tryz.underlying348 unitElem w.heap.size k _ rfl hown (by unfold maxLen;omega) _ _ _ rfl rfl (hkey (by omega)) _ [] unitElem_mk ?_;intro w1 hown1 hgrow1)
   | go_in)
  ·have hlt:k<n:=by assumption
   go_roundw
   case rel=>exact ⟨k+1,by omega,by go_num,(SnU_succ g k).symm ▸ hown1,hnx.grown hgrow1 hnx.size (fun j hj=>by cases hj;exact Nat.le_refl _)⟩
   case measure=>simp [Go.RowKit.intOf];omega
  ·have:k=n:=by omega
   subst this
   go_ret
   exact ⟨rfl,hown,hnx⟩
theorem sortsK (m:Nat):AnyZ.SortsIn Tryz.prog Kx.sortedA_ren Fence.wide m :=
 ⟨fun blk off cap ss W hH hblk hsz=>callsIn_wide.2 (Kx.slices_Sort_string blk off cap ss W hH hblk hsz),fun p cap W=>callsIn_wide.2 (Kx.slices_Sort_string_none p cap W)⟩
set_option maxHeartbeats 1000000 in
theorem sorted_keys (b nn:Nat) (D0:DataW Unit) (w:World) (hown:w.ownsMap Tryz.prog 9 unitElem b nn D0) (hmax:Maps.size D0<=1000) :
 CallsIn Fence.wide 6 Tryz.prog 259 #[.map (some b)] w (fun e w'=>e = .returned (.func (.func 278) #[] #[.pointer (some ⟨w.heap.size,0,none⟩)])/\w' = w.alloc (.cells #[.map (some b)] 348)) /\
 CallsIn Fence.wide 6 Tryz.prog 258 #[.func (.func 278) #[] #[.pointer (some ⟨w.heap.size,0,none⟩)]] (w.alloc (.cells #[.map (some b)] 348)) fun e w'=>∃ (v:Value) (ss:List (List UInt8)),e = .returned v/\ss.Perm (strKeys D0) /\
  w'.ownsRow (w.alloc (.cells #[.map (some b)] 348)).heap.size 9 1 v ss.length ((ss.mergeSort (fun x y=>decide (x<=y))).map encStr)/\Below (w.alloc (.cells #[.map (some b)] 348)).heap.size (w.alloc (.cells #[.map (some b)] 348)) w':=by
 have hbl:=hown.lt
 have hseq:SeqGives Fence.wide 3 Tryz.prog 278 #[.pointer (some ⟨w.heap.size,0,none⟩)] encStr (fun ss=>ss.Perm (strKeys D0)) (Maps.size D0) (w.alloc (.cells #[.map (some b)] 348)) :=
  AnyZ.keys_gives (ρ:=Kx.keysA_ren) { Kx.keysA with } Fence.wide _ trivial rfl (by omega) w.heap.size b nn D0 _ (by simp) (by simp) (by
   obtain ⟨es,clock,hb,Ft,hs,hD⟩:=hown
   exact ⟨es,clock,(Below.heap_alloc _ _ b hbl).trans hb,Ft,hs,hD⟩)
 refine ⟨AnyZ.keys_in Kx.keysA Fence.wide 6 trivial rfl (some b) w,?_⟩;have cS:=AnyZ.sorted_in Kx.sortedA Fence.wide 6 trivial trivial trivial trivial rfl (by omega) (sortsK _) (enters_of Tryz.func277 (by kernel_rfl) rfl) 278 #[.pointer (some ⟨w.heap.size,0,none⟩)] trivial (enters_of Tryz.func278 (by kernel_rfl) rfl) _ _ (by unfold maxLen;omega) (by omega) _ hseq
 exact cS.mono fun e w' ⟨v,ss,h1,h2,h3,_,h5⟩=>⟨v,ss,h1,h2,h3,h5⟩
set_option maxHeartbeats 1000000 in
theorem set_law (n:Nat) (hn:n<=1000) (g:Nat->ByteArray) (x:Value) (w:World) (hof:Calls Tryz.prog 260 #[x] w fun e w'=>e = .returned (.map (some w.heap.size))/\w'.ownsMap Tryz.prog 9 unitElem w.heap.size n (SnU g n)/\Below w.heap.size w w') :
 Calls Tryz.prog 226 #[x] w fun e w'=>∃ (v:Value) (ss:List (List UInt8)),e = .returned v/\ss.Perm (strKeys (SnU g n)) /\
  w'.ownsRow w.heap.size 9 1 v ss.length ((ss.mergeSort (fun x y=>decide (x<=y))).map encStr)/\Below w.heap.size w w'/\∃ W b m,World.ownsMap W Tryz.prog 9 unitElem b m (SnU g n):=by
 refine (callsIn_wide (n:=7)).1 ?_;have cO:=(callsIn_wide (n:=6)).2 hof
 have cK:=fun W (h:World.ownsMap W Tryz.prog 9 unitElem w.heap.size n (SnU g n))=>(sorted_keys _ _ _ W h (by have:=h.size_le;omega)).1
 have cS:=fun W (h:World.ownsMap W Tryz.prog 9 unitElem w.heap.size n (SnU g n))=>(sorted_keys _ _ _ W h (by have:=h.size_le;omega)).2
 have f1:Fence.wide.fn 260:=trivial;have f2:Fence.wide.fn 259:=trivial;have f3:Fence.wide.fn 258:=trivial;refine callsIn_of_wp Tryz.func226 rfl trivial ?_ rfl;simp only [Tryz.ntmps226,List.size_toArray,List.length_cons,List.length_nil,Nat.reduceAdd,Nat.reduceSub,Array.replicate_succ,Array.replicate_zero,List.push_toArray,List.append_toArray,List.nil_append,List.cons_append]
 gi_wp2_with (first
  | (gi_at_call 260;refine cO.mono ?_;rintro e w1 ⟨rfl,ho,hb1⟩)
  | (gi_at_call 259;refine (cK w1 ho).mono ?_;rintro e w2 ⟨rfl,rfl⟩)
  | (gi_at_call 258;refine (cS w1 ho).mono ?_;rintro e w3 ⟨v,ss,rfl,hS,hrow,hb⟩))
 go_ret
 have hb2:=hb1.trans (((Below.refl w1.heap.size w1).alloc (Nat.le_refl _) (.cells #[.map (some w.heap.size)] 348)).mono hb1.size);exact ⟨v,ss,rfl,hS,ownsRow_base_a hrow hb2.size,hb2.trans (hb.mono hb2.size),w1,_,_,ho⟩
theorem insS_iff (t:Str):∀ l:List Str,∀ g,g ∈ insS t l ↔ g=t\/g ∈ l
 | [],g=>by simp [insS]
 | u :: l,g=>by
   have h:=insS_iff t l g;unfold insS;split
   ·rename_i e;subst e;simp
   ·split
    ·simp
    ·simp only [List.mem_cons,h]
     constructor<;>(intro h;rcases h with h | h | h<;>simp [h])
theorem lt_iff:∀ a b:Str,ltS a b=true ↔ a<b
 | [],[]=>by simp [ltS]
 | [],_ :: _=>by simp [ltS]
 | _ :: _,[]=>by simp [ltS]
 | x :: a,y :: b=>by
   have h:=lt_iff a b;rw [List.cons_lt_cons_iff];unfold ltS;by_cases e:x=y
   ·subst e;rw [if_pos rfl,h];constructor
    ·exact fun h=>.inr ⟨rfl,h⟩
    ·rintro (h | h)
     ·exact absurd h (by simp)
     ·exact h.2
   ·rw [if_neg e,decide_eq_true_eq];constructor
    ·exact fun h=>.inl (UInt8.lt_iff_toNat_lt.2 h)
    ·rintro (h | h)
     ·exact UInt8.lt_iff_toNat_lt.1 h
     ·exact absurd h.1 e
theorem insS_sort (t:Str):∀ l:List Str,l.Pairwise (fun a b=>a<b)->(insS t l).Pairwise (fun a b=>a<b)
 | [],_=>by simp [insS]
 | u :: l,h=>by
   have h1:=List.pairwise_cons.1 h;have h2:=insS_sort t l h1.2;unfold insS;split
   ·exact h
   ·rename_i hne;split
    ·rename_i hlt;rw [lt_iff] at hlt;refine List.pairwise_cons.2 ⟨fun x hx=>?_,h⟩
     rcases List.mem_cons.1 hx with rfl | hx
     ·exact hlt
     ·exact List.lt_trans hlt (h1.1 x hx)
    ·rename_i hlt;rw [lt_iff] at hlt;refine List.pairwise_cons.2 ⟨fun x hx=>?_,h2⟩
     rcases (insS_iff t l x).1 hx with rfl | hx
     ·exact Classical.byContradiction fun h2=>hne (List.le_antisymm (List.not_lt.1 h2) (List.not_lt.1 hlt))
     ·exact h1.1 x hx
theorem setS_iff:∀ l:List Str,∀ g,g ∈ setS l ↔ g ∈ l
 | [],g=>by simp [setS]
 | t :: l,g=>by rw [setS,insS_iff,setS_iff l g,List.mem_cons]
theorem setS_sort:∀ l:List Str,(setS l).Pairwise (fun a b=>a<b)
 | []=>by simp [setS]
 | t :: l=>by rw [setS];exact insS_sort t _ (setS_sort l)
theorem setS_merge (l:List Str) {ss:List (List UInt8)} (h:ss.Perm (setS l)):ss.mergeSort (fun x y=>decide (x<=y))=setS l:=by
 rw [mergeSort_of_perm h];refine List.mergeSort_of_pairwise ((setS_sort l).imp fun {a b} hab=>?_);exact decide_eq_true (List.le_of_lt hab)
theorem set_perm {n:Nat} {l:List Str} (hn:n=l.length) {w:World} {b m:Nat} (hown:w.ownsMap Tryz.prog 9 unitElem b m (SnU (fun i=>⟨(l.getD i []).toArray⟩) n)):(setS l).Perm (strKeys (SnU (fun i=>⟨(l.getD i []).toArray⟩) n)):=by
 refine Collected.perm (left:=fun _=>false) ⟨(setS_sort l).imp fun {a b} h e=>?_,fun x=>?_⟩ hown lawK Tryz.underlying9 fun _=>rfl
 ·subst e;exact List.lt_irrefl _ h
 ·rw [setS_iff,SnU,has_setOf _ _ _ (fun y hy=>by obtain ⟨j,_,rfl⟩:=List.mem_map.1 hy;trivial)];subst hn;simp only [keysK,List.any_map,List.any_eq_true,List.mem_range,Function.comp,and_true];constructor
  ·intro hx;obtain ⟨i,hi,rfl⟩:=List.getElem_of_mem hx;exact ⟨i,hi,by simp [Lit.sameKey,List.getD,hi]⟩
  ·rintro ⟨i,hi,e⟩
   simp [Lit.sameKey,List.getD,hi] at e;rw [<-e];exact List.getElem_mem hi
theorem setO_ct (l:List Str) (hl:l.length<=1000) (hg:∀ g ∈ l,g.length<=1000):Cr 226 [strs l] (strsO 9 (setS l)):=by
 refine ⟨⟨Tryz.f226,Tryz.func226,by decide,by decide⟩,fun w S0 vs F hS hod hnd hFS=>?_⟩;have hll:=hod.length
 obtain ⟨va,hvs⟩:∃ va,vs = #[va]:=by
  match vs,hll with
  | ⟨[a]⟩,_=>exact ⟨a,rfl⟩
 subst hvs;simp only [OdT,strs,Od] at hod;obtain ⟨F1,F2,rfl,⟨hv,rfl⟩,rfl⟩:=hod;simp only [Rd] at hv;obtain ⟨a,cap,rfl,hn,hel⟩:=hv
 have hof:Calls Tryz.prog 260 #[.slice a l.length cap] w fun e w'=>e = .returned (.map (some w.heap.size))/\w'.ownsMap Tryz.prog 9 unitElem w.heap.size l.length (SnU (fun i=>⟨(l.getD i []).toArray⟩) l.length)/\Below w.heap.size w w':=by
  rcases Nat.eq_zero_or_pos l.length with h0 | h0
  ·rw [h0];exact of_none _ a cap w
  ·obtain ⟨b,off,rfl,hb,_⟩:=hel 0 h0;refine of_some b off cap l.length _ w hl (hS b hb) (fun j hj=>?_) (fun j hj=>?_)
   ·obtain ⟨b',off',e,_,us,hu,hc,hr⟩:=hel j hj;cases e
    match us,hr with
    | [u],hr =>
      simp only [RdL,Rd] at hr;have:=hc 0 (by simp);rw [cell?_at];simp only [Nat.mul_one,Nat.add_zero,MiS] at this;rw [this,hr.2.1];rfl
   ·have:=hg _ (getD_in (z:=[]) hj)
    have e:(⟨(l.getD j []).toArray⟩:ByteArray).size=(l.getD j []).length:=by simp [ByteArray.size]
    unfold maxLen;omega
 refine (set_law l.length hl _ _ w hof).mono ?_
 rintro e w' ⟨v,ss,rfl,hp,hrow,hb,W,b1,m,hown⟩
 have hm:=setS_merge l (hp.trans (set_perm rfl hown).symm)
 have hlen:ss.length=(setS l).length:=by rw [<-hm,List.length_mergeSort]
 rw [hm,hlen] at hrow
 have hblk:∀ b,v.ownBlock=some b->w.heap.size<=b:=fun b hb=>by
  rcases hrow.2 with ⟨rfl,_⟩ | ⟨gb,c,cur,rfl,hge,_⟩
  ·simp [Value.ownBlock] at hb
  ·simp only [Value.ownBlock,Option.some.injEq] at hb;omega
 refine ⟨v,_,[],S0,v.ownBlock.toList,rfl,⟨rfl,rfl⟩,⟨hb.os,hb.tape,hb.output,hb.size,fun b h1 _=>hb.block b h1,fun b h=>h,fun b h=>.inl h,by cases v.ownBlock<;>simp,?_,?_⟩,?_⟩
 ·intro b hb1 hb2;exact absurd (hS b hb2) (Nat.not_lt.2 (hblk b (by simpa using hb1)))
 ·intro b hb1;exact .inr (hblk b (by simpa using hb1))
 ·simp only [OdT,strsO,Od,ioV];refine ⟨v.ownBlock.toList,[],by simp,⟨⟨(setS l).map encStr,OwnsH.of_row hrow,fun i hi=>?_,fun u hu=>?_⟩,rfl⟩,rfl⟩
  ·rw [Nat.mul_one,List.drop_eq_getElem_cons (by simpa using hi)];simp only [List.take_succ_cons,List.take_zero,RdL,Rd,and_true];simp [encStr,Value.oneCell',List.getD,hi]
  ·obtain ⟨x,_,rfl⟩:=List.mem_map.1 hu;rfl
theorem set_ok:SetOK:=fun l hl hg=>by
 refine Ct.det ((setO_ct l (by omega) fun g h=>by have:=hg g h;omega).mono ?_)
 rintro r outs ⟨rfl,rfl⟩
 exact ⟨⟨rfl,fun _ _=>rfl⟩,trivial⟩
end Kx
