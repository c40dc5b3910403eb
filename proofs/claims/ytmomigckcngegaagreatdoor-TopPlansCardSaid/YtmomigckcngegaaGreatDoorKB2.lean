/-
  Grams of texts, but for the set of them.
  No condition beyond those written in each theorem.
-/
import Derived.Test.YtmomigckcngegaaGreatDoorKA9
import Derived.Test.YtmomigckcngegaaGreatDoorKA8
import Derived.Test.YtmomigckcngegaaGreatDoorKA2
import Derived.Test.YtmomigckcngegaaGreatDoorKB1
set_option linter.unusedSimpArgs false
set_option linter.unusedVariables false
set_option maxRecDepth 4000
open Go Sx Go.Proofs
namespace Kx
def pgram (s:Str) (i:Nat):Str:=[UInt8.ofNat (97+i),s.getD i 0]
def posS (s:Str) (n:Nat):List Str:=(List.range n).map (pgram s)
theorem posS_succ (s:Str) (n:Nat):posS s (n+1)=posS s n ++ [pgram s n]:=by simp [posS,List.range_succ]
theorem posS_len (s:Str) (n:Nat):(posS s n).length=n:=by simp [posS]
theorem pgram_by (s:Str) (i:Nat) (hi:i<27) (x y:Int) (hx:x=97+(i:Int)) (hy:y=((s.getD i 0).toNat:Int)):ByS 2 (fun j=>selC [[D.int .u8 x],[D.int .u8 y]] j) (pgram s i):=by
 refine ⟨rfl,fun j hj=>?_⟩
 have e:((UInt8.ofNat (97+i)).toNat:Int)=97+(i:Int):=by rw [UInt8.toNat_ofNat'];omega
 match j with
 | 0 =>
   show [D.int .u8 x] = [D.int .u8 ((UInt8.ofNat (97+i)).toNat:Int)]
   rw [e,hx]
 | 1 =>
   show [D.int .u8 y] = [D.int .u8 ((s.getD i 0).toNat:Int)]
   rw [hy]
 | n+2=>omega
theorem positional_ct (s:Str) (hs:s.length≤26):Ct Tryz.prog 168 [.str s] fun r outs=>r=strs (posS s s.length)∧outs = []:=by
 refine .det (De Tryz.func168 [] [] ?_)
 repeat' first|(refine S0 ?_;conv=>whnf)|(refine B0 ?_)
 refine CodeOK.loopW hΓ hm [] [] (by kernel_rfl) (α:=Nat) (fun i=>[(0,.str s),(3,.own 0),(9,i64 s.length),(10,i64 i)]) (fun i=>[(0,.arr 9 1 (posS s i).length fun j=>[.str ((posS s i).getD j [])])]) 1 (fun i=>i≤s.length) (fun i=>s.length - i) ?_ ?_
 ·refine Again.by 0 (Nat.zero_le _) ?_
  repeat' first|(refine S0 ?_;conv=>whnf)|(refine Vo ?_)|exact T0|(rfl)|(refine Vm ?_ ?_)
 ·intro i hi
  have hl:=posS_len s i
  repeat' first|(refine S0 ?_;conv=>whnf)|(refine Vo ?_)|(refine Vb ?_)|exact T0|(refine W6 ?_)|(refine W8 ?_)|(refine Lf.by _ (pgram_by s i (by omega) _ _ rfl (by rw [Int.toNat_natCast])) ?_)|(refine Br.d (fun h=>?_) fun h=>?_)|(refine T2 ?_ ?_)
  ·refine Again.by (i+1) ⟨by omega,by omega⟩ ?_
   rw [posS_succ]
   repeat' first|(refine S0 ?_;conv=>whnf)|(refine Vo ?_)|exact T0|(exact str_app _ _ rfl)|(refine Vm ?_ ?_)
  ·rw [show i=s.length by omega]
   exact ⟨rfl,fun _ _=>rfl⟩
theorem codegram_ct (s:Str) (hs:s.length≤10000):Ct Tryz.prog 173 [.str s] fun r outs=>r=strs [61 :: s]∧outs = []:=by
 refine .det (De Tryz.func173 [] [] ?_)
 repeat' first|(refine S0 ?_;conv=>whnf)|exact T0|(refine Vc.om ?_ ?_;focus ((simp;omega);done))|(refine T2 ?_ ?_)
 exact ⟨rfl,selC_str [61 :: s]⟩
def bgr (u:Str) (i:Nat):Str:=(u.take (i+2)).drop i
def bgrs (u:Str) (n:Nat):List Str:=(List.range n).map (bgr u)
theorem bgrs_succ (u:Str) (n:Nat):bgrs u (n+1)=bgrs u n ++ [bgr u n]:=by simp [bgrs,List.range_succ]
theorem bgrs_len (u:Str) (n:Nat):(bgrs u n).length=n:=by simp [bgrs]
def tokG (t:Str):List Str:=bgrs ([95] ++ t ++ [95]) (t.length+1)
def gramsL (l:List Str):List Str:=l.flatMap tokG
theorem gramsL_succ {l:List Str} {i:Nat} (h:i<l.length):gramsL (l.take (i+1))=gramsL (l.take i) ++ tokG (l.getD i []):=by
 unfold gramsL
 rw [take_step l [] i h,List.flatMap_append]
 simp
theorem gramsL_len (n:Nat):∀ (l:List Str),(∀ t ∈ l,t.length≤n)→(gramsL l).length≤(n+1)*l.length
 | [],_=>by simp [gramsL]
 | t :: l,h=>by
   have h1:=gramsL_len n l fun u hu=>h u (by simp [hu])
   have h2:=h t (by simp)
   have e:gramsL (t :: l)=tokG t ++ gramsL l:=rfl
   rw [e]
   simp only [tokG,List.length_append,bgrs_len,List.length_cons,Nat.mul_add,Nat.mul_one]
   omega
set_option maxHeartbeats 1000000 in
theorem grams_ct (s:Str) (hs:s.length≤64) (S:List Str) (hset:Ct Tryz.prog 212 [strs (gramsL (toks s))] fun r outs=>r=strs S∧outs = []):Ct Tryz.prog 164 [.str s] fun r outs=>r=strs S∧outs = []:=by
 have htc:(toks s).length≤1+s.length:=toks_count s []
 have htl:∀ t ∈ toks s,t.length≤1000:=fun t ht=>by have:=toks_mem_len s t ht;omega
 refine .det (De Tryz.func164 [] [] ?_)
 repeat' first|(refine S0 ?_;conv=>whnf)|(refine B0 ?_)|(refine K0 ?_)|(refine Met.by (g:=209) (tokens_ct _ (by first | omega | decide | (simp;done) | (simp;omega))) ?_;rintro q outs ⟨rfl,rfl⟩)
 generalize toks s=T at *
 refine CodeOK.loopW hΓ hm [] [] (by kernel_rfl) (α:=Nat) (fun i=>[(3,.own 1),(11,.own 0),(12,i64 T.length),(13,i64 i)]) (fun i=>[(0,.arr 9 1 T.length fun j=>[.str (T.getD j [])]),(1,.arr 9 1 (gramsL (T.take i)).length fun j=>[.str ((gramsL (T.take i)).getD j [])])]) 2 (fun i=>i≤T.length) (fun i=>T.length - i) ?_ ?_
 ·refine Again.by 0 (Nat.zero_le _) ?_
  repeat' first|(refine S0 ?_;conv=>whnf)|(refine Vo ?_)|exact T0|(rfl)|(refine Vm ?_ ?_)
 ·intro i hi
  have hg:=gramsL_len 1000 (T.take i) fun t ht=>htl t (List.mem_of_mem_take ht)
  rw [List.length_take] at hg
  have hti:=fun h:(i:Int)<T.length=>htl (T.getD (i:Int).toNat []) (getD_in (by omega))
  repeat' first|(refine S0 ?_;conv=>whnf)|(refine Vo ?_)|(refine Vc.om ?_ ?_;focus ((simp only [List.length_append,List.length_cons,List.length_nil];have:=hti (by omega);omega);done))|(refine Wr.i64 ?_ ?_;focus ((simp only [List.length_append,List.length_cons,List.length_nil];have:=hti (by omega);omega);done))|(refine CallOK.ctF (g:=212) (Step.out ?_))|(refine Br.d (fun h=>?_) fun h=>?_)
  ·have hu:([95] ++ T.getD (i:Int).toNat [] ++ [95]:Str).length=(T.getD (i:Int).toNat []).length+2:=by simp
   have ht:=hti (by omega)
   have hG:=gramsL_succ (l:=T) (i:=i) (by omega)
   simp only [Int.toNat_natCast] at hu ht ⊢
   generalize T.getD i []=t at *
   generalize gramsL (T.take i)=G at *
   refine CodeOK.loopW hΓ hm [] [] (by kernel_rfl) (α:=Nat) (fun j=>[(3,.own 1),(5,.str ([95] ++ t ++ [95])),(11,.own 0),(12,i64 T.length),(13,i64 i),(22,i64 ((t.length:Int)+1)),(23,i64 j)]) (fun j=>[(0,.arr 9 1 T.length fun j=>[.str (T.getD j [])]),(1,.arr 9 1 (G ++ bgrs ([95] ++ t ++ [95]) j).length fun q=>[.str ((G ++ bgrs ([95] ++ t ++ [95]) j).getD q [])])]) 2 (fun j=>j≤t.length+1) (fun j=>t.length+1 - j) ?_ ?_
   ·refine Again.by 0 (Nat.zero_le _) ?_
    rw [show G ++ bgrs ([95] ++ t ++ [95]) 0=G from List.append_nil G]
    repeat' first|(refine S0 ?_;conv=>whnf)|(refine Vo ?_)|exact T0
   ·intro j hj
    generalize hw:([95] ++ t ++ [95]:Str)=u at *
    have hl:(G ++ bgrs u j).length=G.length+j:=by rw [List.length_append,bgrs_len]
    have hS:G ++ bgrs u (j+1)=(G ++ bgrs u j) ++ [bgr u j]:=by rw [bgrs_succ,List.append_assoc]
    repeat' first|(refine S0 ?_;conv=>whnf)|(refine Vo ?_)|(refine Vb ?_)|(refine W6 ?_)|(refine Br.d (fun h=>?_) fun h=>?_)
    ·refine Again.by (j+1) ⟨by omega,by omega⟩ ?_
     rw [hS]
     repeat' first|(refine S0 ?_;conv=>whnf)|(refine Vo ?_)|exact T0|(exact str_app _ _ rfl)|(refine Vm ?_ ?_)
    ·refine Again.by (i+1) ⟨by omega,by omega⟩ ?_
     rw [hG,show tokG t=bgrs u j by rw [show j=t.length+1 by omega,←hw];rfl]
     repeat' first|(refine S0 ?_;conv=>whnf)|(refine Vo ?_)|exact T0
  ·rw [show T.take i=T from List.take_of_length_le (by omega)] at *
   repeat' first|(refine S0 ?_;conv=>whnf)|exact T0|exact T1|(refine Met.by hset ?_;rintro q outs ⟨rfl,rfl⟩)|(refine T2 ?_ ?_)
end Kx
open Go Sx Go.Proofs
namespace Kx
def ltS:Str→Str→Bool
 | _,[]=>false
 | [],_ :: _=>true
 | x :: a,y :: b=>if x=y then ltS a b else decide (x.toNat<y.toNat)
def insS (t:Str):List Str→List Str
 | []=>[t]
 | u :: l=>if t=u then u :: l else if ltS t u then t :: u :: l else u :: insS t l
def setS:List Str→List Str
 | []=>[]
 | t :: l=>insS t (setS l)
def gramO (k:Nat) (x:Str):List Str:=match k with
 | 2=>posS x x.length
 | 3=>[61 :: x]
 | _=>setS (gramsL (toks x))
theorem sgram_ct (s:Sc) (hs:s.ok) (i:Nat) (hi:i<s.f.length) (k:Nat) (hk:s.kind i=(k:Int)) (x:Str) (hx:x.length≤64) (hd:x.length≤26∨k≠2) (h0:x≠[]) (hn:nrmB s.r k x=true) (hset:Ct Tryz.prog 212 [strs (gramsL (toks x))] fun r outs=>r=strs (setS (gramsL (toks x)))∧outs = []):Ct Tryz.prog 128 [s.d,i64 i,.str x] fun r outs=>r = .tup [strs (gramO k x),i64 0]∧outs = []:=by
 have h4:=hs.kd hi
 have hf:=find_kind s hs i hi k hk
 have hN:=snormal_ct s hs i hi k hk x (by omega) h0
 rw [hn] at hN
 have hk4:k=1∨k=2∨k=3∨k=4:=by omega
 rcases hk4 with rfl | rfl | rfl | rfl
 all_goals
  refine .det (De Tryz.func128 [] [] ?_)
  repeat' first|(refine S0 ?_;conv=>whnf)|exact T0|(with_reducible refine Br.tt ?_)|(refine B1 ?_)|(refine B0 ?_)|(refine Met.by hf ?_;rintro q outs ⟨rfl,rfl⟩)|(refine Met.by hN ?_;rintro q outs ⟨rfl,rfl⟩)|(refine Met.by (grams_ct x (by omega) _ hset) ?_;rintro q outs ⟨rfl,rfl⟩)|(refine Met.by (positional_ct x (by omega)) ?_;rintro q outs ⟨rfl,rfl⟩)|(refine Met.by (codegram_ct x (by omega)) ?_;rintro q outs ⟨rfl,rfl⟩)|(refine Br.bnot ?_)|(refine T2 ?_ ?_)|(refine K0 ?_)
 all_goals exact ⟨rfl,fun _ _=>rfl⟩
end Kx
open Go Sx Go.Proofs
namespace Kx
def itS (i:Nat):Str:=Lib.decDigits i
theorem itoa_ct (i:Nat) (hi:i<100):Ct Tryz.prog 109 [i64 i] fun r outs=>r = .str (itS i)∧outs = []:=by
 refine ⟨⟨Tryz.f109,Tryz.func109,by decide,by decide⟩,fun w S0 vs F hS hod hnd hFS=>?_⟩
 have hll:=hod.length
 obtain ⟨va,hvs⟩:∃ va,vs = #[va]:=by
  match vs,hll with
  | ⟨[a]⟩,_=>exact ⟨a,rfl⟩
 subst hvs
 simp only [OdT,Od] at hod
 obtain ⟨F1,F2,rfl,⟨hv,rfl⟩,rfl⟩:=hod
 simp only [Rd] at hv
 subst hv
 refine (Kx.strconv_Itoa_small i hi w).mono ?_
 rintro e w' ⟨rfl,rfl⟩
 exact ⟨_,_,_,S0,[],rfl,⟨rfl,rfl⟩,⟨rfl,rfl,rfl,Nat.le_refl _,fun _ _ _=>rfl,fun b h=>h,fun b h=>.inl h,List.nodup_nil,nofun,nofun⟩,by simp [OdT,Od,Rd,ioV,itS]⟩
theorem itS_len (i:Nat) (hi:i<100):(itS i).length≤2:=by
 have:∀ i<100,(itS i).length≤2:=by decide +kernel
 exact this i hi
def keyF (k:Int × Int) (i:Nat) (o:Bool) (salt:Str):Int × Int :=
 if o then keyD (keyD k ([102,105,101,108,100] ++ itS i)) ([115,97,108,116,61] ++ salt) else keyD k ([102,105,101,108,100] ++ itS i)
theorem fderive_ct (k:Int × Int) (i:Nat) (hi:i<100) (o:Bool) (salt:Str) (hs:salt.length≤1000):Ct Tryz.prog 130 [.agg [i64 i,.bool o,.str salt],.agg [u64 k.1,u64 k.2]] fun r outs=>r = .agg [u64 (keyF k i o salt).1,u64 (keyF k i o salt).2]∧outs = []:=by
 have hl:=itS_len i hi
 have h1:=derive_ct k ([102,105,101,108,100] ++ itS i) (by simp;omega)
 have h2:=derive_ct (keyD k ([102,105,101,108,100] ++ itS i)) ([115,97,108,116,61] ++ salt) (by simp;omega)
 unfold keyF
 generalize keyD k _=k1 at *
 generalize keyD k1 _=k2 at *
 cases o
 all_goals
  refine .det (De Tryz.func130 ord130 [] ?_)
  repeat' first|(refine S0 ?_;conv=>whnf)|exact T0|(with_reducible refine Br.tt ?_)|(with_reducible refine Br.ff ?_)|(refine Met.by h1 ?_;rintro q outs ⟨rfl,rfl⟩)|(refine Met.by h2 ?_;rintro q outs ⟨rfl,rfl⟩)|(refine Vc.om ?_ ?_;focus ((simp;omega);done))|(refine T2 ?_ ?_)|(refine K0 ?_)|(refine K1 ?_)|(refine Met.by (g:=109) (itoa_ct _ (by omega)) ?_;rintro q outs ⟨rfl,rfl⟩)
 all_goals rfl
end Kx
open Go Sx Go.Proofs
namespace Kx
def saltR (p:Pm) (r:Rc):Str:=if 0≤p.s then r.v.getD p.s.toNat [] else []
def keyR (p:Pm) (k:Int × Int) (r:Rc) (i:Nat):Int × Int:=keyF k i (decide (0≤p.s)) (saltR p r)
theorem field_ct (s:Sc) (p:Pm) (hp:p.ok) (k:Int × Int) (r:Rc) (hn:r.v.length≤5) (i:Nat) (hi:i<r.v.length) (hps:p.s<r.v.length) (hsl:∀ x ∈ r.v,x.length≤1000) (G:List Str)
 (hG:Ct Tryz.prog 128 [s.d,i64 i,.str (r.v.getD i [])] fun q outs=>q = .tup [strs G,i64 0]∧outs = []) (h80:G.length≤80) (hg:∀ g ∈ G,g.length≤1000) (h0:r.v.getD i []≠[]) :
 Ct Tryz.prog 81 [s.d,p.d,.agg [u64 k.1,u64 k.2],r.d,i64 i] fun q outs=>q = .tup [.agg [i64 p.L,u64s (encW p (keyR p k r i) G)],i64 0]∧outs = []:=by
 have s1:=hp.s1;have s2:=hp.s2
 have hb:=bencode_ct p hp (keyR p k r i) G h80 hg
 have h0' : ¬ r.v.getD (i:Int).toNat [] = []:=h0
 by_cases hz:0≤p.s
 ·have hd:=fderive_ct k i (by omega) (decide (0≤p.s)) (r.v.getD p.s.toNat []) (hsl _ (getD_in (by omega)))
  have e:keyR p k r i=keyF k i (decide (0≤p.s)) (r.v.getD p.s.toNat []):=by rw [keyR,saltR,if_pos hz]
  rw [←e] at hd
  generalize keyR p k r i=K at *
  generalize encW p K G=W at *
  refine .det (De Tryz.func81 ord81 [] ?_)
  repeat' first|(refine S0 ?_;conv=>whnf)|(refine Vo ?_)|exact T0|exact T1|(refine B1 ?_)|(refine B0 ?_)|(refine Met.by hG ?_;rintro q outs ⟨rfl,rfl⟩)|(refine Met.by hd ?_;rintro q outs ⟨rfl,rfl⟩)|(refine Met.by hb ?_;rintro q outs ⟨rfl,rfl⟩)|(refine Br.bnot ?_)|(refine T2 ?_ ?_)|(refine K1 ?_)
  all_goals rfl
 ·have hd:=fderive_ct k i (by omega) (decide (0≤p.s)) [] (Nat.zero_le _)
  have e:keyR p k r i=keyF k i (decide (0≤p.s)) []:=by rw [keyR,saltR,if_neg hz]
  rw [←e] at hd
  generalize keyR p k r i=K at *
  generalize encW p K G=W at *
  refine .det (De Tryz.func81 ord81 [] ?_)
  repeat' first|(refine S0 ?_;conv=>whnf)|(refine Vo ?_)|exact T0|exact T1|(refine B1 ?_)|(refine B0 ?_)|(refine Met.by hG ?_;rintro q outs ⟨rfl,rfl⟩)|(refine Met.by hd ?_;rintro q outs ⟨rfl,rfl⟩)|(refine Met.by hb ?_;rintro q outs ⟨rfl,rfl⟩)|(refine Br.bnot ?_)|(refine T2 ?_ ?_)|(refine K1 ?_)
  all_goals rfl
theorem field0_ct (s:Sc) (p:Pm) (k:Int × Int) (r:Rc) (hn:r.v.length≤5) (i:Nat) (hi:i<r.v.length) (h0:r.v.getD i [] = []) :
 Ct Tryz.prog 81 [s.d,p.d,.agg [u64 k.1,u64 k.2],r.d,i64 i] fun q outs=>q = .tup [.agg [i64 0,u64s []],i64 0]∧outs = []:=by
 have h0' : r.v.getD (i:Int).toNat [] = []:=h0
 refine .det (De Tryz.func81 ord81 [] ?_)
 repeat' first|(refine S0 ?_;conv=>whnf)|(refine Vo ?_)|exact T0|(refine B1 ?_)|(refine T2 ?_ ?_)
 all_goals rfl
end Kx
open Go Sx Go.Proofs
namespace Kx
def bitL (w:Int × List Int):List D:=[i64 w.1,u64s w.2]
def bitD (w:Int × List Int):D:=.agg (bitL w)
theorem encoded1_ct (s:Sc) (p:Pm) (k:Int × Int) (r:Rc) (i:Nat) (w:Int × List Int)
 (H:Ct Tryz.prog 81 [s.d,p.d,.agg [u64 k.1,u64 k.2],r.d,i64 i] fun q outs=>q = .tup [bitD w,i64 0]∧outs = []) :
 Ct Tryz.prog 80 [i64 i,p.d,.ref s.l,.ref [u64 k.1,u64 k.2],.ref r.l] fun q outs=>q = .tup [bitD w,i64 0]∧outs = []:=by
 refine .det (De Tryz.func80 [] [] ?_)
 repeat' first|(refine S0 ?_;conv=>whnf)|exact T0|exact T1|(refine Met.by H ?_;rintro q outs ⟨rfl,rfl⟩)|(refine T2 ?_ ?_)|(refine K0 ?_)
 all_goals rfl
theorem bitL_ite (c:Prop) [Decidable c] (a b:Int × List Int):iteL c (bitL a) (bitL b)=bitL (if c then a else b):=by
 show [D.int .i64 (if c then a.1 else b.1),D.tab 1 (if c then a.2.length else b.2.length) fun i=>[D.int .u64 (if c then a.2.getD i 0 else b.2.getD i 0)]]=_
 split<;>rfl
theorem bit_app (W:Nat→Int × List Int) (i:Nat):∀ j,j<i+1→iteL (j<i) (bitL (W j)) (bitL (W i))=bitL (W j):=fun j hj=>by
 rw [bitL_ite]
 split
 ·rfl
 ·rw [show j=i by omega]
theorem each1_ct (s:Sc) (n:Nat) (hn:n≤5) (P:Nat→Pm) (k:Int × Int) (r:Rc) (W:Nat→Int × List Int)
 (H:∀ i,i<n→Ct Tryz.prog 81 [s.d,(P i).d,.agg [u64 k.1,u64 k.2],r.d,i64 i] fun q outs=>q = .tup [bitD (W i),i64 0]∧outs = []) :
 Ct Tryz.prog 79 [.tab 3 n fun i=>(P i).l,.fn 80 [.ref s.l,.ref [u64 k.1,u64 k.2],.ref r.l]] fun q outs=>q = .tup [.tab 2 n fun i=>bitL (W i),i64 0]∧outs = []:=by
 refine .det (De Tryz.func79 [] [] ?_)
 repeat' first|(refine S0 ?_;conv=>whnf)
 refine CodeOK.loopW hΓ hm [] [] (by kernel_rfl) (α:=Nat) (fun i=>[(1,.fn 80 [.ref s.l,.ref [u64 k.1,u64 k.2],.ref r.l]),(6,.own 0),(11,.tab 3 n fun i=>(P i).l),(12,i64 n),(13,i64 i)]) (fun i=>[(0,.arr 118 2 i fun j=>bitL (W j))]) 1 (fun i=>i≤n) (fun i=>n - i) ?_ ?_
 ·refine Again.by 0 (Nat.zero_le _) ?_
  repeat' first|(refine S0 ?_;conv=>whnf)|(refine Vo ?_)|exact T0|(refine Cho.l ?_)|(refine Vc.mk ⟨rfl,rfl⟩ (Step.out ?_))
 ·intro i hi
  have h1:=fun h:i<n=>encoded1_ct s (P i) k r i (W i) (H i h)
  repeat' first|(refine S0 ?_;conv=>whnf)|(refine Vo ?_)|(refine Vb ?_)|exact T0|(refine W6 ?_)|(refine B1 ?_)|(refine Met.by (h1 (by omega)) ?_;rintro q outs ⟨rfl,rfl⟩)|(refine Br.d (fun h=>?_) fun h=>?_)|(refine Br.bnot ?_)|(refine T2 ?_ ?_)|(refine K0 ?_)
  ·refine Again.by (i+1) ⟨by omega,by omega⟩ ?_
   repeat' first|(refine S0 ?_;conv=>whnf)|(refine Vo ?_)|exact T0|(refine Cho.l ?_)|(refine Vc.mk ⟨rfl,rfl⟩ (Step.out ?_))|(exact ⟨rfl,bit_app W i⟩)|(refine Vm ?_ ?_)
  ·rw [show i=n by omega]
   exact ⟨rfl,fun _ _=>rfl⟩
theorem encoded_ct (s:Sc) (n:Nat) (hn:n≤5) (P:Nat→Pm) (k:Int × Int) (r:Rc) (W:Nat→Int × List Int)
 (H:∀ i,i<n→Ct Tryz.prog 81 [s.d,(P i).d,.agg [u64 k.1,u64 k.2],r.d,i64 i] fun q outs=>q = .tup [bitD (W i),i64 0]∧outs = []) :
 Ct Tryz.prog 50 [s.d,.tab 3 n fun i=>(P i).l,.agg [u64 k.1,u64 k.2],r.d] fun q outs=>q = .tup [.agg [i64 r.id,i64 r.ver,.tab 2 n fun i=>bitL (W i)],i64 0]∧outs = []:=by
 have h1:=each1_ct s n hn P k r W H
 refine .det (De Tryz.func50 [] [0] ?_)
 repeat' first|(refine S0 ?_;conv=>whnf)
 refine CodeOK.cutW hΓ hm [] [] (by kernel_rfl) (α:=Unit) (fun u=>[(1,.tab 3 n fun i=>(P i).l),(4,.ref s.l),(6,.ref [u64 k.1,u64 k.2]),(7,.ref r.l),(8,.loc 0 0)]) (fun u=>[(0,.var [i64 0,i64 0,.nil])]) 1 (fun u=>True) ?_ ?_
 ·repeat' first|(refine S0 ?_;conv=>whnf)
  all_goals refine Again.by () trivial ?_
  all_goals
   repeat' first|(refine S0 ?_;conv=>whnf)|(refine Vo ?_)|exact T0
 ·intro _ _
  repeat' first|(refine S0 ?_;conv=>whnf)|exact T0|exact T1|(refine B1 ?_)|(refine Met.by h1 ?_;rintro q outs ⟨rfl,rfl⟩)|(refine Br.bnot ?_)|(refine T2 ?_ ?_)|(refine K0 ?_)
  all_goals rfl
end Kx
open Go Sx Go.Proofs
namespace Kx
structure PsOk (n:Nat) (P:Nat→Pm):Prop where
 p:∀ i,i<n→(P i).ok
 s:∀ i,i<n→(P i).s<n
 ne:∀ i,i<n→(P i).s≠i
theorem echeck_ct (s:Sc) (hs:s.ok) (P:Nat→Pm) (hP:PsOk s.f.length P):Ct Tryz.prog 48 [s.d,.tab 3 s.f.length fun i=>(P i).l] fun q outs=>q=i64 0∧outs = []:=by
 have n1:=hs.n1;have n5:=hs.n5
 have h1:=scheck_ct s hs
 refine .det (De Tryz.func48 [] [] ?_)
 repeat' first|(refine S0 ?_;conv=>whnf)|(refine B1 ?_)|(refine Met.by h1 ?_;rintro q outs ⟨rfl,rfl⟩)|(refine Br.bnot ?_)|(refine K0 ?_)
 refine CodeOK.loopW hΓ hm [] [] (by kernel_rfl) (α:=Nat) (fun i=>[(1,.tab 3 s.f.length fun i=>(P i).l),(19,.tab 3 s.f.length fun i=>(P i).l),(20,i64 s.f.length),(21,i64 i)]) (fun i=>[]) 0 (fun i=>i≤s.f.length) (fun i=>s.f.length - i) ?_ ?_
 ·refine Again.by 0 (Nat.zero_le _) ?_
  repeat' first|(refine S0 ?_;conv=>whnf)|(refine Vo ?_)|exact T0
 ·intro i hi
  have hp:=fun h:i<s.f.length=>bcheck_ct (P i) (hP.p i h)
  have hps:s.f.length≤i∨(P (i:Int).toNat).s<s.f.length∧(P (i:Int).toNat).s≠i:=by
   by_cases h:i<s.f.length
   ·exact .inr ⟨hP.s i h,hP.ne i h⟩
   ·exact .inl (by omega)
  repeat' first|(refine S0 ?_;conv=>whnf)|(refine Vo ?_)|exact T0|(refine W6 ?_)|(refine B1 ?_)|(refine B0 ?_)|(refine Met.by (hp (by omega)) ?_;rintro q outs ⟨rfl,rfl⟩)|(refine Br.d (fun h=>?_) fun h=>?_)|(refine Br.swap ?_)|(refine Br.bnot ?_)|(refine T2 ?_ ?_)|(refine K0 ?_)
  ·refine Again.by (i+1) ⟨by omega,by omega⟩ ?_
   repeat' first|(refine S0 ?_;conv=>whnf)|(refine Vo ?_)|exact T0
theorem erecord_ct (s:Sc) (hs:s.ok) (P:Nat→Pm) (hP:PsOk s.f.length P) (k:Int × Int) (r:Rc) (hr:r.ok s) (W:Nat→Int × List Int)
 (H:∀ i,i<s.f.length→Ct Tryz.prog 81 [s.d,(P i).d,.agg [u64 k.1,u64 k.2],r.d,i64 i] fun q outs=>q = .tup [bitD (W i),i64 0]∧outs = []) :
 Ct Tryz.prog 20 [s.d,.tab 3 s.f.length fun i=>(P i).l,.agg [u64 k.1,u64 k.2],r.d] fun q outs=>q = .tup [.agg [i64 r.id,i64 r.ver,.tab 2 s.f.length fun i=>bitL (W i)],i64 0]∧outs = []:=by
 have h1:=encoded_ct s s.f.length hs.n5 P k r W H
 have h2:=echeck_ct s hs P hP
 refine .det (De Tryz.func20 [] [] ?_)
 repeat' first|(refine S0 ?_;conv=>whnf)|exact T0|exact T1|(refine B1 ?_)|(refine Met.by h1 ?_;rintro q outs ⟨rfl,rfl⟩)|(refine Met.by h2 ?_;rintro q outs ⟨rfl,rfl⟩)|(refine Br.bnot ?_)|(refine T2 ?_ ?_)|(refine K0 ?_)|(refine Met.by (g:=49) (rCheck_ct _ (by assumption) _ (by assumption)) ?_;rintro q outs ⟨rfl,rfl⟩)
 all_goals rfl
end Kx
open Go Sx Go.Proofs
namespace Kx
end Kx
open Go Sx Go.Proofs
namespace Kx
theorem bgr_len (u:Str) (i:Nat):(bgr u i).length≤2:=by simp [bgr];omega
theorem tokG_mem (t:Str):∀ g ∈ tokG t,g.length≤2:=fun g hg=>by
 obtain ⟨i,_,rfl⟩:=List.mem_map.1 hg
 exact bgr_len _ _
theorem gramsL_mem (l:List Str):∀ g ∈ gramsL l,g.length≤2:=fun g hg=>by
 obtain ⟨t,_,h⟩:=List.mem_flatMap.1 hg
 exact tokG_mem t g h
theorem gramsL_tail:∀ l:List Str,(gramsL l).length≤(tailS [32] l).length
 | []=>by simp [gramsL]
 | t :: l=>by
   have h:=gramsL_tail l
   have e:gramsL (t :: l)=tokG t ++ gramsL l:=rfl
   have e2:tailS [32] (t :: l) = [32] ++ t ++ tailS [32] l:=by simp [tailS]
   rw [e,e2]
   simp only [tokG,List.length_append,bgrs_len,List.length_cons,List.length_nil]
   omega
theorem gramsL_join:∀ l:List Str,(gramsL l).length≤(joinS [32] l).length+1
 | []=>by simp [gramsL]
 | t :: l=>by
   have h:=gramsL_tail l
   have e:gramsL (t :: l)=tokG t ++ gramsL l:=rfl
   rw [e]
   simp only [tokG,List.length_append,bgrs_len,joinS]
   omega
theorem insS_len (t:Str):∀ l:List Str,(insS t l).length≤l.length+1
 | []=>by simp [insS]
 | u :: l=>by
   have h:=insS_len t l
   unfold insS
   split
   ·simp
   ·split
    ·simp
    ·simp;omega
theorem setS_len:∀ l:List Str,(setS l).length≤l.length
 | []=>by simp [setS]
 | t :: l=>by
   have h:=setS_len l
   have h2:=insS_len t (setS l)
   rw [setS];simp;omega
theorem insS_mem (t:Str):∀ l:List Str,∀ g ∈ insS t l,g=t∨g ∈ l
 | [],g,hg=>by simp [insS] at hg;exact .inl hg
 | u :: l,g,hg=>by
   have h:=insS_mem t l g
   unfold insS at hg
   split at hg
   ·exact .inr hg
   ·split at hg
    ·simpa using hg
    ·rcases List.mem_cons.1 hg with rfl | hg
     ·exact .inr (by simp)
     ·rcases h hg with h | h
      ·exact .inl h
      ·exact .inr (by simp [h])
theorem setS_mem:∀ l:List Str,∀ g ∈ setS l,g ∈ l
 | [],g,hg=>by simp [setS] at hg
 | t :: l,g,hg=>by
   rw [setS] at hg
   rcases insS_mem t _ g hg with h | h
   ·simp [h]
   ·simp [setS_mem l g h]
theorem gramsT_len (x:Str):(gramsL (toks x)).length≤x.length+1:=by
 have h1:=(join_toksF x [] []).2 rfl
 have h2:=gramsL_join (toks x)
 have e:toksF [] x=toks x:=rfl
 simp [e] at h1
 omega
theorem gramO_len (k:Nat) (x:Str) (hx:x.length≤64):(gramO k x).length≤80:=by
 unfold gramO
 split
 ·rw [posS_len];omega
 ·simp
 ·have:=setS_len (gramsL (toks x));have:=gramsT_len x;omega
theorem gramO_mem (k:Nat) (x:Str) (hx:x.length≤64):∀ g ∈ gramO k x,g.length≤1000:=fun g hg=>by
 unfold gramO at hg
 split at hg
 ·obtain ⟨i,_,rfl⟩:=List.mem_map.1 hg
  simp [pgram]
 ·simp at hg;subst hg;simp;omega
 ·have:=gramsL_mem _ g (setS_mem _ g hg);omega
def SetOK:Prop:=∀ l:List Str,l.length≤100→(∀ g ∈ l,g.length≤2)→Ct Tryz.prog 212 [strs l] fun r outs=>r=strs (setS l)∧outs = []
def fldW (s:Sc) (p:Pm) (k:Int × Int) (r:Rc) (i:Nat):Int × List Int:=if r.v.getD i [] = [] then (0,[]) else (p.L,encW p (keyR p k r i) (gramO (s.kind i).toNat (r.v.getD i [])))
theorem fieldR_ct (hset:SetOK) (s:Sc) (hs:s.ok) (P:Nat→Pm) (hP:PsOk s.f.length P) (k:Int × Int) (r:Rc) (hr:r.ok s) (i:Nat) (hi:i<s.f.length) :
 Ct Tryz.prog 81 [s.d,(P i).d,.agg [u64 k.1,u64 k.2],r.d,i64 i] fun q outs=>q = .tup [bitD (fldW s (P i) k r i),i64 0]∧outs = []:=by
 have n5:=hs.n5;have hn:=hr.n
 have hv:=hr.v i hi
 unfold fldW
 by_cases h0:r.v.getD i [] = []
 ·rw [if_pos h0]
  exact field0_ct s (P i) k r (by omega) i (by omega) h0
 ·rw [if_neg h0]
  have hb:=hv.b
  rw [nB,if_neg h0] at hb
  have hd:(r.v.getD i []).length≤26∨(s.kind i).toNat≠2:=by
   by_cases e:(s.kind i).toNat=2
   ·rw [e] at hb
    have h8:rdB (r.v.getD i [])=true:=hb
    simp only [rdB,Bool.and_eq_true,decide_eq_true_eq] at h8
    exact .inl (by omega)
   ·exact .inr e
  have ht:=gramsT_len (r.v.getD i [])
  have hle:=hv.le
  have hG:=sgram_ct s hs i hi _ (kind_nat hs hi) (r.v.getD i []) hle hd h0 hb (hset _ (by omega) (gramsL_mem _))
  exact field_ct s (P i) (hP.p i hi) k r (by omega) i (by omega) (by have:=hP.s i hi;omega) (fun x hx=>by
   obtain ⟨j,hj,rfl⟩:=List.getElem_of_mem hx
   have h9:=(hr.v j (by omega)).le
   rw [List.getD_eq_getElem?_getD,List.getElem?_eq_getElem hj] at h9
   simp at h9;omega) _ hG (gramO_len _ _ hle) (gramO_mem _ _ hle) h0
end Kx
