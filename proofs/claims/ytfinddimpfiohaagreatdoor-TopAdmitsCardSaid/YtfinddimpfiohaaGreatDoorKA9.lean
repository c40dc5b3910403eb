/-
  A field, encoded.
  No condition beyond those written in each theorem.
-/
import Derived.Test.YtfinddimpfiohaaGreatDoorKA8
import Derived.Test.YtfinddimpfiohaaGreatDoorKA7
import Derived.Test.YtfinddimpfiohaaGreatDoorKA5
import Derived.Laws.Bits64b
import Derived.Test.YtfinddimpfiohaaGreatDoorKA2
import Derived.Test.YtfinddimpfiohaaGreatDoorFD
set_option linter.unusedSimpArgs false
set_option linter.unusedVariables false
set_option maxRecDepth 4000
open Go Sx Go.Proofs
namespace Kx
def saltR (p:Pm) (r:Rc):Str:=if 0<=p.s then r.v.getD p.s.toNat [] else []
def keyR (p:Pm) (k:Int × Int) (r:Rc) (i:Nat):Int × Int:=keyF k i (decide (0<=p.s)) (saltR p r)
theorem field_ct (s:Sc) (p:Pm) (hp:p.ok) (k:Int × Int) (r:Rc) (hn:r.v.length<=5) (i:Nat) (hi:i<r.v.length) (hps:p.s<r.v.length) (hsl:∀ x ∈ r.v,x.length<=1000) (G:List Str)
 (hG:Cr 137 [s.d,i64 i,.str (r.v.getD i [])] (.tup [strs G,i64 0])) (h80:G.length<=80) (hg:∀ g ∈ G,g.length<=1000) (h0:r.v.getD i []≠[]) :
 Cr 84 [s.d,p.d,.agg [u64 k.1,u64 k.2],r.d,i64 i] (.tup [.agg [i64 p.L,u64s (encW p (keyR p k r i) G)],i64 0]):=by
 have s1:=hp.s1;have s2:=hp.s2;have hb:=bencode_ct p hp (keyR p k r i) G h80 hg;have h0' : ¬ r.v.getD (i:Int).toNat [] = []:=h0;by_cases hz:0<=p.s
 ·have hd:=fderive_ct k i (by omega) (decide (0<=p.s)) (r.v.getD p.s.toNat []) (hsl _ (getD_in (by omega)))
  have e:keyR p k r i=keyF k i (decide (0<=p.s)) (r.v.getD p.s.toNat []):=by rw [keyR,saltR,if_pos hz]
  rw [<-e] at hd;generalize keyR p k r i=K at *;generalize encW p K G=W at *;refine .det (De Tryz.func84 ord84 [] ?_)
  repeat' first|refine S0 ?_;conv=>whnf|refine Vo ?_|exact T0|exact T1|refine B1 ?_|refine B0 ?_|(refine M0 hG ?_)|(refine M0 hd ?_)|(refine M0 hb ?_)|refine Br.bnot ?_|refine T2 ?_ ?_|refine K1 ?_
  all_goals rfl
 ·have hd:=fderive_ct k i (by omega) (decide (0<=p.s)) [] (zle _)
  have e:keyR p k r i=keyF k i (decide (0<=p.s)) []:=by rw [keyR,saltR,if_neg hz]
  rw [<-e] at hd;generalize keyR p k r i=K at *;generalize encW p K G=W at *;refine .det (De Tryz.func84 ord84 [] ?_)
  repeat' first|refine S0 ?_;conv=>whnf|refine Vo ?_|exact T0|exact T1|refine B1 ?_|refine B0 ?_|(refine M0 hG ?_)|(refine M0 hd ?_)|(refine M0 hb ?_)|refine Br.bnot ?_|refine T2 ?_ ?_|refine K1 ?_
  all_goals rfl
theorem field0_ct (s:Sc) (p:Pm) (k:Int × Int) (r:Rc) (hn:r.v.length<=5) (i:Nat) (hi:i<r.v.length) (h0:r.v.getD i [] = []) :
 Cr 84 [s.d,p.d,.agg [u64 k.1,u64 k.2],r.d,i64 i] (.tup [.agg [i64 0,u64s []],i64 0]):=by
 have h0' : r.v.getD (i:Int).toNat [] = []:=h0;refine .det (De Tryz.func84 ord84 [] ?_)
 repeat' first|refine S0 ?_;conv=>whnf|refine Vo ?_|exact T0|refine B1 ?_|refine T2 ?_ ?_
 all_goals rfl
end Kx
open Go Sx Go.Proofs
namespace Kx
def bitL (w:Int × List Int):List D:=[i64 w.1,u64s w.2]
def bitD (w:Int × List Int):D:=.agg (bitL w)
theorem encoded1_ct (s:Sc) (p:Pm) (k:Int × Int) (r:Rc) (i:Nat) (w:Int × List Int)
 (H:Cr 84 [s.d,p.d,.agg [u64 k.1,u64 k.2],r.d,i64 i] (.tup [bitD w,i64 0])) :
 Cr 83 [i64 i,p.d,.ref s.l,.ref [u64 k.1,u64 k.2],.ref r.l] (.tup [bitD w,i64 0]):=by
 refine .det (De Tryz.func83 [] [] ?_)
 repeat' first|refine S0 ?_;conv=>whnf|exact T0|exact T1|(refine M0 H ?_)|refine T2 ?_ ?_|refine K0 ?_
 all_goals rfl
theorem bitL_ite (c:Prop) [Decidable c] (a b:Int × List Int):iteL c (bitL a) (bitL b)=bitL (if c then a else b):=by
 show [D.int .i64 (if c then a.1 else b.1),D.tab 1 (if c then a.2.length else b.2.length) fun i=>[D.int .u64 (if c then a.2.getD i 0 else b.2.getD i 0)]]=_
 split<;>rfl
theorem bit_app (W:Nat->Int × List Int) (i:Nat):∀ j,j<i+1->iteL (j<i) (bitL (W j)) (bitL (W i))=bitL (W j):=fun j hj=>by
 rw [bitL_ite];split
 ·rfl
 ·rw [show j=i by omega]
theorem each1_ct (s:Sc) (n:Nat) (hn:n<=5) (P:Nat->Pm) (k:Int × Int) (r:Rc) (W:Nat->Int × List Int)
 (H:∀ i,i<n->Cr 84 [s.d,(P i).d,.agg [u64 k.1,u64 k.2],r.d,i64 i] (.tup [bitD (W i),i64 0])) :
 Cr 82 [.tab 3 n fun i=>(P i).l,.fn 83 [.ref s.l,.ref [u64 k.1,u64 k.2],.ref r.l]] (.tup [.tab 2 n fun i=>bitL (W i),i64 0]):=by
 refine .det (De Tryz.func82 [] [] ?_)
 repeat' first|refine S0 ?_;conv=>whnf
 refine Lw [] [] (α:=Nat) (fun i=>[(1,.fn 83 [.ref s.l,.ref [u64 k.1,u64 k.2],.ref r.l]),(6,.own 0),(11,.tab 3 n fun i=>(P i).l),(12,i64 n),(13,i64 i)]) (fun i=>[(0,.arr 117 2 i fun j=>bitL (W j))]) 1 (fun i=>i<=n) (fun i=>n - i) ?_ ?_
 ·refine Again.by 0 (zle _) ?_
  repeat' first|refine S0 ?_;conv=>whnf|refine Vo ?_|exact T0|refine Cho.l ?_|(refine Vc.mk ⟨rfl,rfl⟩ (Step.out ?_))
 ·intro i hi
  have h1:=fun h:i<n=>encoded1_ct s (P i) k r i (W i) (H i h)
  repeat' first|refine S0 ?_;conv=>whnf|refine Vo ?_|refine Vb ?_|exact T0|refine W6 ?_|refine B1 ?_|(refine M0 (h1 (by omega)) ?_)|(refine Br.d (fun h=>?_) fun h=>?_)|refine Br.bnot ?_|refine T2 ?_ ?_|refine K0 ?_
  ·refine Again.by (i+1) ⟨by omega,by omega⟩ ?_
   repeat' first|refine S0 ?_;conv=>whnf|refine Vo ?_|exact T0|refine Cho.l ?_|(refine Vc.mk ⟨rfl,rfl⟩ (Step.out ?_))|(exact ⟨rfl,bit_app W i⟩)|refine Vm ?_ ?_
  ·rw [show i=n by omega];exact ⟨rfl,fun _ _=>rfl⟩
theorem encoded_ct (s:Sc) (n:Nat) (hn:n<=5) (P:Nat->Pm) (k:Int × Int) (r:Rc) (W:Nat->Int × List Int)
 (H:∀ i,i<n->Cr 84 [s.d,(P i).d,.agg [u64 k.1,u64 k.2],r.d,i64 i] (.tup [bitD (W i),i64 0])) :
 Cr 47 [s.d,.tab 3 n fun i=>(P i).l,.agg [u64 k.1,u64 k.2],r.d] (.tup [.agg [i64 r.id,i64 r.ver,.tab 2 n fun i=>bitL (W i)],i64 0]):=by
 have h1:=each1_ct s n hn P k r W H;refine .det (De Tryz.func47 [] [0] ?_)
 repeat' first|refine S0 ?_;conv=>whnf
 refine Cw [] [] (α:=Unit) (fun u=>[(1,.tab 3 n fun i=>(P i).l),(4,.ref s.l),(6,.ref [u64 k.1,u64 k.2]),(7,.ref r.l),(8,.loc 0 0)]) (fun u=>[(0,.var [i64 0,i64 0,.nil])]) 1 (fun u=>True) ?_ ?_
 ·repeat' first|refine S0 ?_;conv=>whnf
  all_goals refine Again.by () trivial ?_
  all_goals
   repeat' first|refine S0 ?_;conv=>whnf|refine Vo ?_|exact T0
 ·intro _ _
  repeat' first|refine S0 ?_;conv=>whnf|exact T0|exact T1|refine B1 ?_|(refine M0 h1 ?_)|refine Br.bnot ?_|refine T2 ?_ ?_|refine K0 ?_
  all_goals rfl
end Kx
open Go Sx Go.Proofs
namespace Kx
structure PsOk (n:Nat) (P:Nat->Pm):Prop where
 p:∀ i,i<n->(P i).ok
 s:∀ i,i<n->(P i).s<n
 ne:∀ i,i<n->(P i).s≠i
theorem echeck_ct (s:Sc) (hs:s.ok) (P:Nat->Pm) (hP:PsOk s.f.length P):Cr 32 [s.d,.tab 3 s.f.length fun i=>(P i).l] (i64 0):=by
 have n1:=hs.n1;have n5:=hs.n5;have h1:=scheck_ct s hs;refine .det (De Tryz.func32 [] [] ?_)
 repeat' first|refine S0 ?_;conv=>whnf|refine B1 ?_|(refine M0 h1 ?_)|refine Br.bnot ?_|refine K0 ?_
 refine Lw [] [] (α:=Nat) (fun i=>[(1,.tab 3 s.f.length fun i=>(P i).l),(19,.tab 3 s.f.length fun i=>(P i).l),(20,i64 s.f.length),(21,i64 i)]) (fun i=>[]) 0 (fun i=>i<=s.f.length) (fun i=>s.f.length - i) ?_ ?_
 ·refine Again.by 0 (zle _) ?_
  repeat' first|refine S0 ?_;conv=>whnf|refine Vo ?_|exact T0
 ·intro i hi
  have hp:=fun h:i<s.f.length=>bcheck_ct (P i) (hP.p i h)
  have hps:s.f.length<=i\/(P (i:Int).toNat).s<s.f.length/\(P (i:Int).toNat).s≠i:=by
   by_cases h:i<s.f.length
   ·exact .inr ⟨hP.s i h,hP.ne i h⟩
   ·exact .inl (by omega)
  repeat' first|refine S0 ?_;conv=>whnf|refine Vo ?_|exact T0|refine W6 ?_|refine B1 ?_|refine B0 ?_|(refine M0 (hp (by omega)) ?_)|(refine Br.d (fun h=>?_) fun h=>?_)|refine Br.swap ?_|refine Br.bnot ?_|refine T2 ?_ ?_|refine K0 ?_
  ·refine Again.by (i+1) ⟨by omega,by omega⟩ ?_
   repeat' first|refine S0 ?_;conv=>whnf|refine Vo ?_|exact T0
theorem erecord_ct (s:Sc) (hs:s.ok) (P:Nat->Pm) (hP:PsOk s.f.length P) (k:Int × Int) (r:Rc) (hr:r.ok s) (W:Nat->Int × List Int)
 (H:∀ i,i<s.f.length->Cr 84 [s.d,(P i).d,.agg [u64 k.1,u64 k.2],r.d,i64 i] (.tup [bitD (W i),i64 0])) :
 Cr 18 [s.d,.tab 3 s.f.length fun i=>(P i).l,.agg [u64 k.1,u64 k.2],r.d] (.tup [.agg [i64 r.id,i64 r.ver,.tab 2 s.f.length fun i=>bitL (W i)],i64 0]):=by
 have h1:=encoded_ct s s.f.length hs.n5 P k r W H;have h2:=echeck_ct s hs P hP;refine .det (De Tryz.func18 [] [] ?_)
 repeat' first|refine S0 ?_;conv=>whnf|exact T0|exact T1|refine B1 ?_|(refine M0 h1 ?_)|(refine M0 h2 ?_)|refine Br.bnot ?_|refine T2 ?_ ?_|refine K0 ?_|(refine M0 (g:=46) (rCheck_ct _ (by assumption) _ (by assumption)) ?_)
 all_goals rfl
end Kx
open Go Sx Go.Proofs
namespace Kx
def rowL (r:Rc) (n:Nat) (W:Nat->Int × List Int):List D:=[i64 r.id,i64 r.ver,.tab 2 n fun i=>bitL (W i)]
theorem rowL_ite (c:Prop) [Decidable c] (a b:Rc) (n:Nat) (V W:Nat->Int × List Int):iteL c (rowL a n V) (rowL b n W)=rowL (if c then a else b) n (if c then V else W):=by
 show [D.int .i64 (if c then a.id else b.id),D.int .i64 (if c then a.ver else b.ver),D.tab 2 (if c then n else n) fun i=>iteL1 c (bitL (V i)) (bitL (W i))]=_
 split
 ·rename_i h;simp [rowL,h,iteL1,bitL,zipI,D.ite1,u64s]
 ·rename_i h;simp [rowL,h,iteL1,bitL,zipI,D.ite1,u64s]
theorem row_app (R:Nat->Rc) (n:Nat) (W:Nat->Nat->Int × List Int) (i:Nat):∀ j,j<i+1->iteL (j<i) (rowL (R j) n (W j)) (rowL (R i) n (W i))=rowL (R j) n (W j):=fun j hj=>by
 rw [rowL_ite];split
 ·rfl
 ·rw [show j=i by omega]
theorem all1_ct (s:Sc) (P:Nat->Pm) (n:Nat) (k:Int × Int) (r:Rc) (i:Nat) (W:Nat->Int × List Int)
 (H:Cr 47 [s.d,.tab 3 n fun i=>(P i).l,.agg [u64 k.1,u64 k.2],r.d] (.tup [.agg (rowL r n W),i64 0])) :
 Cr 64 [i64 i,r.d,.ref s.l,.ref [.tab 3 n fun i=>(P i).l],.ref [u64 k.1,u64 k.2]] (.tup [.agg (rowL r n W),i64 0]):=by
 refine .det (De Tryz.func64 [] [] ?_)
 repeat' first|refine S0 ?_;conv=>whnf|exact T0|exact T1|(refine M0 H ?_)|refine T2 ?_ ?_|refine K0 ?_
 all_goals rfl
theorem each2_ct (s:Sc) (P:Nat->Pm) (n:Nat) (k:Int × Int) (m:Nat) (hm5:m<=100) (R:Nat->Rc) (W:Nat->Nat->Int × List Int)
 (H:∀ j,j<m->Cr 47 [s.d,.tab 3 n fun i=>(P i).l,.agg [u64 k.1,u64 k.2],(R j).d] (.tup [.agg (rowL (R j) n (W j)),i64 0])) :
 Cr 63 [.tab 3 m fun j=>(R j).l,.fn 64 [.ref s.l,.ref [.tab 3 n fun i=>(P i).l],.ref [u64 k.1,u64 k.2]]] (.tup [.tab 3 m fun j=>rowL (R j) n (W j),i64 0]):=by
 refine .det (De Tryz.func63 [] [] ?_)
 repeat' first|refine S0 ?_;conv=>whnf
 refine Lw [] [] (α:=Nat) (fun i=>[(1,.fn 64 [.ref s.l,.ref [.tab 3 n fun i=>(P i).l],.ref [u64 k.1,u64 k.2]]),(6,.own 0),(11,.tab 3 m fun j=>(R j).l),(12,i64 m),(13,i64 i)]) (fun i=>[(0,.arr 79 3 i fun j=>rowL (R j) n (W j))]) 1 (fun i=>i<=m) (fun i=>m - i) ?_ ?_
 ·refine Again.by 0 (zle _) ?_
  repeat' first|refine S0 ?_;conv=>whnf|refine Vo ?_|exact T0|refine Cho.l ?_|(refine Vc.mk ⟨rfl,rfl⟩ (Step.out ?_))
 ·intro i hi
  have h1:=fun h:i<m=>all1_ct s P n k (R i) i (W i) (H i h)
  repeat' first|refine S0 ?_;conv=>whnf|refine Vo ?_|refine Vb ?_|exact T0|refine W6 ?_|refine B1 ?_|(refine M0 (h1 (by omega)) ?_)|(refine Br.d (fun h=>?_) fun h=>?_)|refine Br.bnot ?_|refine T2 ?_ ?_|refine K0 ?_
  ·refine Again.by (i+1) ⟨by omega,by omega⟩ ?_
   repeat' first|refine S0 ?_;conv=>whnf|refine Vo ?_|exact T0|refine Cho.l ?_|(refine Vc.mk ⟨rfl,rfl⟩ (Step.out ?_))|(exact ⟨rfl,row_app R n W i⟩)|refine Vm ?_ ?_
  ·rw [show i=m by omega];exact ⟨rfl,fun _ _=>rfl⟩
theorem eall_ct (s:Sc) (hs:s.ok) (P:Nat->Pm) (hP:PsOk s.f.length P) (k:Int × Int) (l:List Rc) (hl:RsOk s l) (W:Nat->Nat->Int × List Int)
 (H:∀ j i,j<l.length->i<s.f.length->Cr 84 [s.d,(P i).d,.agg [u64 k.1,u64 k.2],(l.getD j Rc.z).d,i64 i] (.tup [bitD (W j i),i64 0])) :
 Cr 34 [s.d,.tab 3 s.f.length fun i=>(P i).l,.agg [u64 k.1,u64 k.2],rcs l] (.tup [.tab 3 l.length fun j=>rowL (l.getD j Rc.z) s.f.length (W j),i64 0]):=by
 have h1:=each2_ct s P s.f.length k l.length (by have:=hl.n;omega) (fun j=>l.getD j Rc.z) W fun j hj=>encoded_ct s s.f.length hs.n5 P k (l.getD j Rc.z) (W j) fun i hi=>H j i hj hi
 have h2:=echeck_ct s hs P hP;have h3:=rAll_ct s hs l hl;refine .det (De Tryz.func34 [] [0] ?_)
 repeat' first|refine S0 ?_;conv=>whnf
 refine Cw [] [] (α:=Unit) (fun u=>[(3,rcs l),(4,.ref s.l),(5,.ref [.tab 3 s.f.length fun i=>(P i).l]),(6,.ref [u64 k.1,u64 k.2])]) (fun u=>[]) 0 (fun u=>True) ?_ ?_
 ·repeat' first|refine S0 ?_;conv=>whnf
  all_goals refine Again.by () trivial ?_
  all_goals
   repeat' first|refine S0 ?_;conv=>whnf|refine Vo ?_|exact T0
 ·intro _ _
  repeat' first|refine S0 ?_;conv=>whnf|exact T0|exact T1|refine B1 ?_|(refine M0 h1 ?_)|(refine M0 h2 ?_)|(refine M0 h3 ?_)|refine Br.bnot ?_|refine T2 ?_ ?_|refine K0 ?_
  all_goals rfl
end Kx
open Go Sx Go.Proofs
namespace Kx
theorem bgr_len (u:Str) (i:Nat):(bgr u i).length<=2:=by simp [bgr];omega
theorem tokG_mem (t:Str):∀ g ∈ tokG t,g.length<=2:=fun g hg=>by
 obtain ⟨i,_,rfl⟩:=List.mem_map.1 hg;exact bgr_len _ _
theorem gramsL_mem (l:List Str):∀ g ∈ gramsL l,g.length<=2:=fun g hg=>by
 obtain ⟨t,_,h⟩:=List.mem_flatMap.1 hg;exact tokG_mem t g h
theorem gramsL_tail:∀ l:List Str,(gramsL l).length<=(tailS [32] l).length
 | []=>by simp [gramsL]
 | t :: l=>by
   have h:=gramsL_tail l;have e:gramsL (t :: l)=tokG t ++ gramsL l:=rfl
   have e2:tailS [32] (t :: l) = [32] ++ t ++ tailS [32] l:=by simp [tailS]
   rw [e,e2];simp only [tokG,lap,bgrs_len,List.length_cons,List.length_nil];omega
theorem gramsL_join:∀ l:List Str,(gramsL l).length<=(joinS [32] l).length+1
 | []=>by simp [gramsL]
 | t :: l=>by
   have h:=gramsL_tail l;have e:gramsL (t :: l)=tokG t ++ gramsL l:=rfl;rw [e];simp only [tokG,lap,bgrs_len,joinS];omega
theorem insS_len (t:Str):∀ l:List Str,(insS t l).length<=l.length+1
 | []=>by simp [insS]
 | u :: l=>by
   have h:=insS_len t l;unfold insS;split
   ·simp
   ·split
    ·simp
    ·simp;omega
theorem setS_len:∀ l:List Str,(setS l).length<=l.length
 | []=>by simp [setS]
 | t :: l=>by
   have h:=setS_len l;have h2:=insS_len t (setS l);rw [setS];simp;omega
theorem insS_mem (t:Str):∀ l:List Str,∀ g ∈ insS t l,g=t\/g ∈ l
 | [],g,hg=>by simp [insS] at hg;exact .inl hg
 | u :: l,g,hg=>by
   have h:=insS_mem t l g;unfold insS at hg;split at hg
   ·exact .inr hg
   ·split at hg
    ·simpa using hg
    ·rcases List.mem_cons.1 hg with rfl | hg
     ·exact .inr (by simp)
     ·rcases h hg with h | h
      ·exact .inl h
      ·exact .inr (by simp [h])
theorem setS_mem:∀ l:List Str,∀ g ∈ setS l,g ∈ l
 | [],g,hg=>by simp [setS] at hg
 | t :: l,g,hg=>by
   rw [setS] at hg
   rcases insS_mem t _ g hg with h | h
   ·simp [h]
   ·simp [setS_mem l g h]
theorem gramsT_len (x:Str):(gramsL (toks x)).length<=x.length+1:=by
 have h1:=(join_toksF x [] []).2 rfl;have h2:=gramsL_join (toks x);have e:toksF [] x=toks x:=rfl;simp [e] at h1;omega
theorem gramO_len (k:Nat) (x:Str) (hx:x.length<=64):(gramO k x).length<=80:=by
 unfold gramO;split
 ·rw [posS_len];omega
 ·simp
 ·have:=setS_len (gramsL (toks x));have:=gramsT_len x;omega
theorem gramO_mem (k:Nat) (x:Str) (hx:x.length<=64):∀ g ∈ gramO k x,g.length<=1000:=fun g hg=>by
 unfold gramO at hg;split at hg
 ·obtain ⟨i,_,rfl⟩:=List.mem_map.1 hg;simp [pgram]
 ·simp at hg;subst hg;simp;omega
 ·have:=gramsL_mem _ g (setS_mem _ g hg);omega
def SetOK:Prop:=∀ l:List Str,l.length<=100->(∀ g ∈ l,g.length<=2)->Cr 263 [strs l] (strs (setS l))
def fldW (s:Sc) (p:Pm) (k:Int × Int) (r:Rc) (i:Nat):Int × List Int:=if r.v.getD i [] = [] then (0,[]) else (p.L,encW p (keyR p k r i) (gramO (s.kind i).toNat (r.v.getD i [])))
theorem fieldR_ct (hset:SetOK) (s:Sc) (hs:s.ok) (P:Nat->Pm) (hP:PsOk s.f.length P) (k:Int × Int) (r:Rc) (hr:r.ok s) (i:Nat) (hi:i<s.f.length) :
 Cr 84 [s.d,(P i).d,.agg [u64 k.1,u64 k.2],r.d,i64 i] (.tup [bitD (fldW s (P i) k r i),i64 0]):=by
 have n5:=hs.n5;have hn:=hr.n;have hv:=hr.v i hi;unfold fldW;by_cases h0:r.v.getD i [] = []
 ·rw [if_pos h0];exact field0_ct s (P i) k r (by omega) i (by omega) h0
 ·rw [if_neg h0];have hb:=hv.b;rw [nB,if_neg h0] at hb
  have hd:(r.v.getD i []).length<=26\/(s.kind i).toNat≠2:=by
   by_cases e:(s.kind i).toNat=2
   ·rw [e] at hb;have h8:rdB (r.v.getD i [])=true:=hb;simp only [rdB,bat,decide_eq_true_eq] at h8;exact .inl (by omega)
   ·exact .inr e
  have ht:=gramsT_len (r.v.getD i []);have hle:=hv.le;have hG:=sgram_ct s hs i hi _ (kind_nat hs hi) (r.v.getD i []) hle hd h0 hb (hset _ (by omega) (gramsL_mem _))
  exact field_ct s (P i) (hP.p i hi) k r (by omega) i (by omega) (by have:=hP.s i hi;omega) (fun x hx=>by
   obtain ⟨j,hj,rfl⟩:=List.getElem_of_mem hx;have h9:=(hr.v j (by omega)).le;rw [gDe,List.getElem?_eq_getElem hj] at h9
   simp at h9;omega) _ hG (gramO_len _ _ hle) (gramO_mem _ _ hle) h0
end Kx
open Go Sx Go.Proofs
namespace Kx
def U64 (x:Int):Prop:=0<=x/\x<=18446744073709551615
theorem key_ct (d:Dk):Ct Tryz.prog 23 [d.b] fun r outs=>∃ (k:Int × Int) (d' : Dk),(U64 k.1/\U64 k.2)/\r = .agg [u64 k.1,u64 k.2]/\outs = [Dk.b d']:=by
 refine .some2 (De Tryz.func23 [] [] ?_)
 repeat' first|refine S0 ?_;conv=>whnf|(refine CallOK.io1 (g:=28) (Step.out ?_))|(refine Met.by (g:=28) (word_ct _) ?_;rintro q outs ⟨x,d,hx,rfl,rfl⟩)
 rename_i dd x0 d1 h0
 refine Lf2.by (x0,x) d ⟨h0,hx⟩ ?_
 repeat' first|refine S0 ?_;conv=>whnf|exact T0|exact T1|refine T2 ?_ ?_
end Kx
open Go Sx Go.Proofs
namespace Kx
def Pm.z:Pm:=⟨0,0,0⟩
def PsL (n:Nat) (l:List Pm):Prop:=∀ i,i<l.length->(l.getD i Pm.z).ok/\(l.getD i Pm.z).s<n/\(l.getD i Pm.z).s≠i
theorem PsL.snoc {n:Nat} {l:List Pm} (h:PsL n l) (p:Pm) (h1:p.ok) (h2:p.s<n) (h3:p.s≠l.length):PsL n (l ++ [p]):=fun i hi=>by
 rw [lap,List.length_cons,List.length_nil] at hi;by_cases e:i<l.length
 ·rw [gDe,List.getElem?_append_left e,<-gDe];exact h i e
 ·have e:i=l.length:=by omega
  subst e;rw [gDe,List.getElem?_append_right (Nat.le_refl _),Nat.sub_self];exact ⟨h1,h2,h3⟩
theorem next_of (i n:Nat) (hi:i<n) (h1:1<n):0<=((i:Int)+1).tmod n/\((i:Int)+1).tmod n<n/\((i:Int)+1).tmod n≠i:=by
 rw [Int.tmod_eq_emod_of_nonneg (by omega)];by_cases e:i+1=n
 ·rw [show (i:Int)+1=n by omega,Int.emod_self];omega
 ·rw [Int.emod_eq_of_lt (by omega) (by omega)];omega
theorem pm_ok {a b s:Int} (ha:0<=a/\((3:Int)<1->a=0)/\((1:Int)<=3->a<3)) (hb:0<=b/\((6:Int)<1->b=0)/\((1:Int)<=6->b<6)) (s1 : -1<=s) (s2:s<5):(Pm.mk (64*(1+a)) (1+b) s).ok:=by
 have a3:=ha.2.2 (by decide);have b3:=hb.2.2 (by decide);have a0:=ha.1;have b0:=hb.1;refine ⟨?_,?_,?_,s1,s2⟩
 ·show 64*(1+a)=64\/64*(1+a)=128\/64*(1+a)=192
  omega
 ·show 1<=1+b
  omega
 ·show 1+b<=16
  omega
theorem Ps_step {n:Nat} {l:List Pm} {p:Pm} (h:PsL n l) (hi:(l.length:Int)<n) (h1:p.ok) (h2:p.s<n) (h3:p.s≠l.length):((l ++ [p]).length<=n/\PsL n (l ++ [p]))/\n - (l ++ [p]).length<n - l.length:=by
 have e:(l ++ [p]).length=l.length+1:=by simp
 exact ⟨⟨by omega,h.snoc p h1 h2 h3⟩,by omega⟩
def pmsL (l:List Pm):Nat->List D:=fun i=>(l.getD i Pm.z).l
set_option maxHeartbeats 1000000 in
theorem pars_ct (d:Dk) (n:Nat) (h1:1<=n) (h5:n<=5):Ct Tryz.prog 24 [d.b,i64 n] fun r outs=>∃ (l:List Pm) (d' : Dk),(PsL n l/\l.length=n)/\r = .tab 3 l.length (pmsL l)/\outs = [Dk.b d']:=by
 refine .some2 (De Tryz.func24 [] [] ?_)
 repeat' first|refine S0 ?_;conv=>whnf
 refine Lw [] [] (α:=List Pm × Dk) (fun z=>[(0,.loc 0 0),(1,i64 n),(5,.own 1),(6,i64 z.1.length)]) (fun z=>[(0,.var z.2.ls),(1,.arr 72 3 z.1.length (pmsL z.1))]) 2 (fun z=>z.1.length<=n/\PsL n z.1) (fun z=>n - z.1.length) ?_ ?_
 ·refine Again.by ([],d) ⟨zle _,nofun⟩ ?_
  repeat' first|refine S0 ?_;conv=>whnf|refine Vo ?_|exact T0|(rfl)|refine Vm ?_ ?_
 ·intro ⟨l,d⟩ ⟨hi,hl⟩;dsimp only at hi hl ⊢
  have hnx:=fun h=>next_of l.length n h
  repeat' first|refine S0 ?_;conv=>whnf|refine Vo ?_|refine Vb ?_|refine W6 ?_|(refine Br.d (fun h=>?_) fun h=>?_)|(refine Bm (fun h=>?_) fun h=>?_)|(refine CallOK.io1 (g:=8) (Step.out ?_))|(refine CallOK.io1 (g:=9) (Step.out ?_))|(refine Met.by (g:=8) (one_ct _ _) ?_;rintro q outs ⟨x,d,hx,rfl,rfl⟩)|(refine Met.by (g:=9) (next_ct _ _) ?_;rintro q outs ⟨x,d,hx,rfl,rfl⟩)
  ·rename_i _ _ hA a _ ha b _ hb hB;obtain ⟨t1,t2,t3⟩:=hnx (by omega) (by omega)
   have hlen:(l ++ [Pm.mk (64*(1+a)) (1+b) (((l.length:Nat)+1:Int).tmod n)]).length=l.length+1:=by simp
   refine Again.by (l ++ [⟨64*(1+a),1+b,((l.length:Int)+1).tmod n⟩],d) (Ps_step hl hA (pm_ok ha hb (by omega) (by omega)) t2 t3) ?_
   repeat' first|refine S0 ?_;conv=>whnf|refine Vo ?_|refine Vb ?_|exact T0|(exact app_one Pm.l Pm.z (fun _ _=>rfl) l _ rfl)|refine Vm ?_ ?_
  ·rename_i _ _ hA a _ ha b _ hb hB
   have hlen:(l ++ [Pm.mk (64*(1+a)) (1+b) (-1)]).length=l.length+1:=by simp
   refine Again.by (l ++ [⟨64*(1+a),1+b,-1⟩],d) (Ps_step hl hA (pm_ok ha hb (by omega) (by omega)) (by dsimp only;omega) (by dsimp only;omega)) ?_
   repeat' first|refine S0 ?_;conv=>whnf|refine Vo ?_|refine Vb ?_|exact T0|(exact app_one Pm.l Pm.z (fun _ _=>rfl) l _ rfl)|refine Vm ?_ ?_
  ·rename_i _ _ hA a _ ha
   have hlen:(l ++ [Pm.mk (64*(1+a)) (1+x) (-1)]).length=l.length+1:=by simp
   refine Again.by (l ++ [⟨64*(1+a),1+x,-1⟩],d) (Ps_step hl hA (pm_ok ha hx (by omega) (by omega)) (by dsimp only;omega) (by dsimp only;omega)) ?_
   repeat' first|refine S0 ?_;conv=>whnf|refine Vo ?_|refine Vb ?_|exact T0|(exact app_one Pm.l Pm.z (fun _ _=>rfl) l _ rfl)|refine Vm ?_ ?_
  ·refine Lf2.by l d ⟨hl,by omega⟩ ?_
   repeat' first|refine S0 ?_;conv=>whnf|exact T0|exact T1|refine T2 ?_ ?_
end Kx
open Go Sx Go.Proofs
namespace Kx
theorem mod3_ct (k:Int) (hk:0<=k/\k<=2):Cr 227 [i64 k,i64 3] (i64 k):=by
 refine .det (De Tryz.func227 [] [] ?_)
 have e:k.tmod 3=k:=by rw [Int.tmod_eq_emod_of_nonneg (by omega)];omega
 have e2:(k.tmod 3+3).tmod 3=k:=by rw [e,Int.tmod_eq_emod_of_nonneg (by omega)];omega
 repeat' first|refine S0 ?_;conv=>whnf|refine Vo ?_|exact T0|refine W6 ?_|refine B0 ?_|refine T2 ?_ ?_
def writtenS (y m d k:Int):Str:=if k=0 then putS (y / 100) 2 ++ putS (y % 100) 2 ++ [45] ++ putS m 2 ++ [45] ++ putS d 2 else if k=1 then putS d 2 ++ [46] ++ putS m 2 ++ [46] ++ (putS (y / 100) 2 ++ putS (y % 100) 2) else putS m 2 ++ [47] ++ putS d 2 ++ [47] ++ (putS (y / 100) 2 ++ putS (y % 100) 2)
theorem written_ct (y m d k:Int) (hk:0<=k/\k<=2) (hy:0<=y/\y<=9999) (hmo:0<=m/\m<=99) (hd:0<=d/\d<=99):Cr 160 [.agg [i64 y,i64 m,i64 d],i64 k] (.str (writtenS y m d k)):=by
 unfold writtenS;have e1:=mtwo_ct (y / 100) (by omega) (by omega);have e2:=mtwo_ct (y % 100) (by omega) (by omega);have e3:=mtwo_ct m (by omega) (by omega);have e4:=mtwo_ct d (by omega) (by omega);have lA:(putS (y / 100) 2).length=2:=rfl;have lB:(putS (y % 100) 2).length=2:=rfl;have lC:(putS m 2).length=2:=rfl;have lD:(putS d 2).length=2:=rfl;have e5:=mod3_ct k hk;generalize hA:putS (y / 100) 2=A at *;generalize hB:putS (y % 100) 2=B at *;generalize hC:putS m 2=C at *;generalize hD:putS d 2=E at *;refine .det (De Tryz.func160 ord160 [] ?_)
 repeat' first|(rw [Int.tdiv_eq_ediv_of_nonneg (by omega)])|(rw [Int.tmod_eq_emod_of_nonneg (by omega)])|refine S0 ?_;conv=>whnf|refine Vo ?_|exact T0|refine W6 ?_|(refine M0 e1 ?_)|(refine M0 e2 ?_)|(refine M0 e3 ?_)|(refine M0 e4 ?_)|(refine M0 e5 ?_)|(refine Vc.om ?_ ?_;focus ((simp only [lap,List.length_cons,List.length_nil];omega);done))|(refine Br.d (fun h=>?_) fun h=>?_)|refine T2 ?_ ?_|refine K0 ?_|refine K1 ?_
 ·rw [if_pos ‹k=0›]
 ·rw [if_neg (by omega),if_pos ‹k=1›]
 ·rw [if_neg (by omega),if_neg (by omega)]
end Kx
open Go Sx Go.Proofs
namespace Kx
def codesL:List Str:=[[83,87,49,32,49,65,65],[56,48,48,49],[56,48,32,48,50],[97,45,49]]
def addrsL:List Str:=[[49,50,32,77,97,105,110,32,83,116,46],[77,97,105,110,32,83,116,32,49,50],[80,97,114,107,32,82,100,32,51,98],[77,97,105,110,32,83,116,114,101,101,116],[48,48,55,32,80,97,114,107,32,114,100]]
def namesL:List Str:=[[114,111,98,101,114,116,32,115,109,105,116,104],[98,111,98,32,115,109,105,116,104],[114,117,112,101,114,116],[97,110,110,97,32,109,105,108,108,101,114],[97,110,110],[111,110,101,105,108,108],[109,97,114,105,97,32,118,97,110,32,115,109,105,116,104],[112,101,116,101,114]]
def RawP (k:Int) (x:Str):Prop :=
 x = []\/(k=2/\∃ y m d w:Int,(1980<=y/\y<=1981)/\(1<=m/\m<=3)/\(1<=d/\d<=3)/\x=writtenS y m d w)\/(k=3/\x ∈ codesL)\/(k=4/\x ∈ addrsL) \/
 (k≠2/\k≠3/\k≠4/\∃ n ∈ namesL,x.length<=2*n.length+2/\(foldedC n->(∀ y ∈ x,isPrn y=true)/\toks (x.flatMap plainS)=toks n))
theorem rawv_ct (d:Dk) (k:Int):Ct Tryz.prog 99 [d.b,i64 k] fun r outs=>∃ (x:Str) (d' : Dk),RawP k x/\r = .str x/\outs = [Dk.b d']:=by
 refine .some2 (De Tryz.func99 [] [] ?_)
 repeat' first|refine S0 ?_;conv=>whnf|refine W6 ?_|(refine Met.by (picks_ct _ namesL (by decide) (by decide)) ?_;rintro q outs ⟨x,d,hx,rfl,rfl⟩)|(refine Met.by (picks_ct _ codesL (by decide) (by decide)) ?_;rintro q outs ⟨x,d,hx,rfl,rfl⟩)|(refine Met.by (picks_ct _ addrsL (by decide) (by decide)) ?_;rintro q outs ⟨x,d,hx,rfl,rfl⟩)|(refine Br.d (fun h=>?_) fun h=>?_)|(refine Bm (fun h=>?_) fun h=>?_)|(refine CallOK.io1 (g:=8) (Step.out ?_))|(refine CallOK.io1 (g:=9) (Step.out ?_))|(refine CallOK.io1F (g:=161) (Step.out ?_))|(refine CallOK.io1 (g:=162) (Step.out ?_))|refine K0 ?_|(refine Met.by (g:=8) (one_ct _ _) ?_;rintro q outs ⟨x,d,hx,rfl,rfl⟩)|(refine Met.by (g:=9) (next_ct _ _) ?_;rintro q outs ⟨x,d,hx,rfl,rfl⟩)|(refine Met.by (g:=160) (written_ct _ _ _ _ (by omega) (by omega) (by omega) (by omega)) ?_;rintro q outs ⟨rfl,rfl⟩)
 ·refine Lf2.by [] d (.inl rfl) ?_
  repeat' first|refine S0 ?_;conv=>whnf|exact T0|exact T1|refine T2 ?_ ?_
 ·rename_i a _ ha b _ hb c _ hc;have a3:=ha.2.2 (by decide);have b3:=hb.2.2 (by decide);have c3:=hc.2.2 (by decide);have a4:=ha.2.2 (by decide)
  refine Lf2.by (writtenS (1980+a) (1+b) (1+c) x) d (.inr (.inl ⟨h,1980+a,1+b,1+c,x,⟨by omega,by omega⟩,⟨by omega,by omega⟩,⟨by omega,by omega⟩,rfl⟩)) ?_
  repeat' first|refine S0 ?_;conv=>whnf|exact T0|exact T1|refine T2 ?_ ?_
 ·refine Lf2.by x d (.inr (.inr (.inl ⟨h,hx⟩))) ?_
  repeat' first|refine S0 ?_;conv=>whnf|exact T0|exact T1|refine T2 ?_ ?_
 ·refine Lf2.by x d (.inr (.inr (.inr (.inl ⟨h,hx⟩)))) ?_
  repeat' first|refine S0 ?_;conv=>whnf|exact T0|exact T1|refine T2 ?_ ?_
 ·have hN:∀ n ∈ namesL,n.length<=100000:=by decide
  refine Met.by (dressP_ct _ x (hN _ hx)) ?_
  rintro q outs ⟨z,d,hz,rfl,rfl⟩
  repeat' first|refine S0 ?_;conv=>whnf
  refine Lf2.by z d (.inr (.inr (.inr (.inr ⟨‹_›,‹_›,h,x,hx,hz⟩)))) ?_
  repeat' first|refine S0 ?_;conv=>whnf|exact T0|exact T1|refine T2 ?_ ?_
end Kx
open Go Sx Go.Proofs
namespace Kx
theorem bitI_nat (a b:Nat) (ha:a<18446744073709551616) (hb:b<18446744073709551616):bitI .and .u64 (a:Int) (b:Int)=((a &&& b:Nat):Int)/\bitI .or .u64 (a:Int) (b:Int)=((a ||| b:Nat):Int) :=
 ⟨bits_and_u64_nat a b ha hb,bits_or_u64_nat a b ha hb⟩
theorem and15 (x:Int) (h:U64 x):bitI .and .u64 x 15=x % 16:=by
 obtain ⟨n,rfl⟩:=Int.eq_ofNat_of_zero_le h.1;have h2:=h.2;have:=(bitI_nat n 15 (by omega) (by omega)).1;rw [show (15:Int)=((15:Nat):Int) from rfl,this,show (15:Nat)=2 ^ 4 - 1 from rfl,Nat.and_two_pow_sub_one_eq_mod];omega
def hiP (x:Int) (j:Nat):Int:=x / 16 ^ (16 - j)
def nibP (x:Int) (j:Nat):Int:=hiP x (j+1) % 16
def hexD:Str:=[48,49,50,51,52,53,54,55,56,57,97,98,99,100,101,102]
def hxc (x:Int) (j:Nat):UInt8:=hexD.getD (nibP x j).toNat 0
def hexL (w:List Int):Str:=(List.range (16*w.length)).map fun i=>hxc (w.getD (i / 16) 0) (i % 16)
theorem hexL_len (w:List Int):(hexL w).length=16*w.length:=by simp [hexL]
theorem hexL_at (w:List Int) (i:Nat) (h:i<16*w.length):(hexL w).getD i 0=hxc (w.getD (i / 16) 0) (i % 16):=by simp [hexL,List.getD,h]
theorem hiP_in {x:Int} (h:U64 x) (j:Nat):U64 (hiP x j):=by
 have h1:(0:Int)<16 ^ (16 - j):=Int.pow_pos (by decide);refine ⟨Int.ediv_nonneg h.1 (Int.le_of_lt h1),Int.le_trans (Int.ediv_le_self _ h.1) h.2⟩
theorem nib_is {x:Int} (h:U64 x) (j:Nat) (hj:j<16):bitI .and .u64 (x.fdiv (2 ^ (min (60 - 4*(j:Int)).toNat IntKind.u64.bits))) 15=nibP x j:=by
 have e:x.fdiv (2 ^ (min (60 - 4*(j:Int)).toNat IntKind.u64.bits))=hiP x (j+1):=by
  rw [Int.fdiv_eq_ediv_of_nonneg _ (Int.le_of_lt (Int.pow_pos (by decide)))];unfold hiP
  congr 1
  rw [show (16:Int)=2 ^ 4 from rfl,<-Int.pow_mul]
  congr 1
  show min _ 64=_
  omega
 rw [e,and15 _ (hiP_in h _)];rfl
theorem nib_in (x:Int) (j:Nat):0<=nibP x j/\nibP x j<16:=by unfold nibP;omega
structure WOk (w:Int × List Int):Prop where
 L:LenOk w.1
 n:w.2.length=(w.1 / 64).toNat
 u:∀ i,i<w.2.length->U64 (w.2.getD i 0)
theorem WOk.b {w:Int × List Int} (h:WOk w):(Bs.mk w.1 w.2).ok:=⟨h.L,h.n⟩
theorem WOk.le {w:Int × List Int} (h:WOk w):1<=w.2.length/\w.2.length<=3:=by
 have:=len_pos h.L;have:=h.n;omega
theorem validW_ct (w:Int × List Int) (h:WOk w):Cr 104 [bitD w] (.bool true):=bvalid_ct ⟨w.1,w.2⟩ h.b
theorem hx_step (w:List Int) (hu:∀ i,i<w.length->U64 (w.getD i 0)) (k j:Nat) (hk:k<w.length) (hj:j<16) (m:Nat) (hm:m=16*k+j) :
 (hexL w).getD m 0=hexD.getD (bitI .and .u64 ((w.getD k 0).fdiv (2 ^ (min (60 - 4*(j:Int)).toNat IntKind.u64.bits))) 15).toNat 0:=by
 rw [hexL_at _ _ (by omega),nib_is (hu k hk) j hj,hxc,show m / 16=k by omega,show m % 16=j by omega]
theorem bytes_one (H:Str) (m:Nat) (c:UInt8) (hc:H.getD m 0=c) (i:Nat) (hi:i<m+1):iteL (i<m) (bytesF H i) (selC [[D.int .u8 c.toNat]] (i - m))=bytesF H i:=by
 by_cases h:i<m
 ·rw [iteL_same rfl,if_pos h]
 ·obtain rfl:i=m:=by omega
  rw [Nat.sub_self,iteL_same rfl,if_neg h,<-hc];rfl
theorem hexh_ct (w:Int × List Int) (h:WOk w):Cr 193 [bitD w] (.tup [.str (hexL w.2),i64 0]):=by
 have h1:=validW_ct w h;have hu:=h.u;have hle:=h.le;have hl:=hexL_len w.2;have hst:=hx_step w.2 hu
 have hnb:=fun k hk j hj=>nib_is (hu k hk) j hj
 generalize hH:hexL w.2=H at *;refine .det (De Tryz.func193 [] [] ?_)
 repeat' first|refine S0 ?_;conv=>whnf|with_reducible refine Br.tt ?_|(refine M0 h1 ?_)|refine Br.bnot ?_|refine K0 ?_
 refine Lw [] [] (α:=Nat) (fun k=>[(4,.own 0),(12,u64s w.2),(13,i64 w.2.length),(14,i64 k)]) (fun k=>[(0,.arr 5 1 (16*k) (bytesF H))]) 1 (fun k=>k<=w.2.length) (fun k=>w.2.length - k) ?_ ?_
 ·refine Again.by 0 (zle _) ?_
  repeat' first|refine S0 ?_;conv=>whnf|refine Vo ?_|exact T0
 ·intro k hk
  repeat' first|refine S0 ?_;conv=>whnf|refine Vo ?_|(refine Br.d (fun h=>?_) fun h=>?_)
  ·refine Lw [] [] (α:=Nat) (fun j=>[(4,.own 0),(6,u64 (w.2.getD k 0)),(7,i64 (60 - 4*(j:Int))),(12,u64s w.2),(13,i64 w.2.length),(14,i64 k)]) (fun j=>[(0,.arr 5 1 (16*k+j) (bytesF H))]) 1 (fun j=>j<=16) (fun j=>16 - j) ?_ ?_
   ·refine Again.by 0 (zle _) ?_
    repeat' first|refine S0 ?_;conv=>whnf|refine Vo ?_|exact T0|(rfl)|(exact ⟨rfl,fun _ _=>rfl⟩)|refine Vm ?_ ?_
   ·intro j hj
    have hr:=fun h:j<16=>(show 0<=bitI .and .u64 ((w.2.getD k 0).fdiv (2 ^ (min (60 - 4*(j:Int)).toNat IntKind.u64.bits))) 15/\bitI .and .u64 ((w.2.getD k 0).fdiv (2 ^ (min (60 - 4*(j:Int)).toNat IntKind.u64.bits))) 15<16 from by rw [hnb k (by omega) j h];exact nib_in _ _)
    repeat' first|refine S0 ?_;conv=>whnf|refine Vo ?_|refine Vb ?_|refine W6 ?_|(exact hr (by omega))|(refine Br.d (fun h=>?_) fun h=>?_)|refine Vm ?_ ?_
    ·refine Again.by (j+1) ⟨by omega,by omega⟩ ?_
     have hs:=hst k j (by omega) (by omega) (16*k+j) rfl
     repeat' first|refine S0 ?_;conv=>whnf|refine Vo ?_|exact T0|(exact ⟨rfl,fun i hi=>bytes_one H (16*k+j) _ hs i (by omega)⟩)|refine Vm ?_ ?_
    ·refine Again.by (k+1) ⟨by omega,by omega⟩ ?_
     obtain rfl:j=16:=by omega
     repeat' first|refine S0 ?_;conv=>whnf|refine Vo ?_|exact T0|(exact ⟨rfl,fun _ _=>rfl⟩)|refine Vm ?_ ?_
  ·refine Lf.by H ⟨by omega,fun _ _=>rfl⟩ ?_
   repeat' first|refine S0 ?_;conv=>whnf|exact T0|refine T2 ?_ ?_
theorem hexh0_ct:Cr 193 [bitD (0,[])] (.tup [.str [],i64 8]):=by
 refine .det (De Tryz.func193 [] [] ?_)
 repeat' first|refine S0 ?_;conv=>whnf|exact T0|with_reducible refine Br.ff ?_|(refine M0 bvalid0_ct ?_)|refine Br.bnot ?_|refine T2 ?_ ?_|refine K0 ?_
end Kx
open Go Sx Go.Proofs
namespace Kx
theorem joinS_two (c:UInt8) (x y:Str) (l:List Str):joinS [c] (x :: y :: l)=x ++ c :: joinS [c] (y :: l):=by simp [joinS,tailS]
end Kx
