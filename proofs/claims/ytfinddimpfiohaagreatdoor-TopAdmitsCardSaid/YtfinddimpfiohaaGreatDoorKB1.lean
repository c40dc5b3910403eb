/-
  Lines of encoded records.
  No condition beyond those written in each theorem.
-/
import Derived.Test.YtfinddimpfiohaaGreatDoorKA9
import Derived.Test.YtfinddimpfiohaaGreatDoorFD
import Derived.Shelf.SlIter.Nil
import Derived.Shelf.SlSortCmp.NoneTotal
import Derived.Shelf.SlicesG.Cmp
import Derived.Shelf.Spec.TrailingZeros
import Derived.Test.YtfinddimpfiohaaGreatDoorProg
import Derived.Test.YtfinddimpfiohaaGreatDoorKA2
import Derived.WalkKit
import Derived.Maps.OwnSet
import Derived.Maps.Views
set_option linter.unusedSimpArgs false
set_option linter.unusedVariables false
set_option maxRecDepth 4000
open Go Sx Go.Proofs
namespace Kx
def MOk (w:Int × List Int):Prop:=w=(0,[])\/WOk w
def noneB (w:Int × List Int):Bool:=decide (w.2 = [])
theorem MOk.two {w:Int × List Int} (h:MOk w):(w=(0,[])/\noneB w=true)\/(WOk w/\noneB w=false/\w.2.length≠0/\w.1≠0):=by
 rcases h with rfl | h
 ·exact .inl ⟨rfl,rfl⟩
 ·have:=h.le;have:=len_pos h.L
  have hne:w.2.length≠0:=by omega
  exact .inr ⟨h,decide_eq_false fun e=>hne (by rw [e];rfl),hne,by omega⟩
theorem none_ct (w:Int × List Int) (h:MOk w):Cr 252 [bitD w] (.bool (noneB w)):=by
 rcases h.two with ⟨rfl,e⟩ | ⟨_,e,h1,h2⟩
 ·rw [e];refine .det (De Tryz.func252 [] [] ?_)
  repeat' first|refine S0 ?_;conv=>whnf|exact T0|refine B1 ?_|refine T2 ?_ ?_
 ·rw [e];refine .det (De Tryz.func252 [] [] ?_)
  repeat' first|refine S0 ?_;conv=>whnf|exact T0|refine B0 ?_|refine T2 ?_ ?_
theorem validM_ct (w:Int × List Int) (h:MOk w):Cr 104 [bitD w] (.bool (!noneB w)):=by
 rcases h.two with ⟨rfl,e⟩ | ⟨h,e,h1,h2⟩
 ·exact bvalid0_ct
 ·rw [e];exact validW_ct w h
theorem valid1_ct (w:Int × List Int) (h:MOk w):Cr 251 [bitD w] (.bool false):=by
 have h1:=none_ct w h;have h2:=validM_ct w h
 cases hw:noneB w
 all_goals
  rw [hw] at h1 h2;refine .det (De Tryz.func251 [] [] ?_)
  repeat' first|refine S0 ?_;conv=>whnf|exact T0|with_reducible refine Br.tt ?_|with_reducible refine Br.ff ?_|(refine M0 h1 ?_)|(refine M0 h2 ?_)|refine Br.bnot ?_|refine T2 ?_ ?_|refine K0 ?_
theorem indexB_ct (n:Nat) (hn:n<=100) (W:Nat->Int × List Int) (h:∀ i,i<n->MOk (W i)):Cr 173 [.tab 2 n fun i=>bitL (W i),.fn 251 []] (i64 (-1)):=by
 refine .det (De Tryz.func173 [] [] ?_)
 repeat' first|refine S0 ?_;conv=>whnf
 refine Lw [] [] (α:=Nat) (fun i=>[(0,.tab 2 n fun i=>bitL (W i)),(1,.fn 251 []),(7,i64 n),(8,i64 i)]) (fun i=>[]) 0 (fun i=>i<=n) (fun i=>n - i) ?_ ?_
 ·refine Again.by 0 (zle _) ?_
  repeat' first|refine S0 ?_;conv=>whnf|refine Vo ?_|exact T0|refine Cho.l ?_|(refine Vc.mk ⟨rfl,rfl⟩ (Step.out ?_))
 ·intro i hi
  have h1:=fun hi:i<n=>valid1_ct (W i) (h i hi)
  repeat' first|refine S0 ?_;conv=>whnf|refine Vo ?_|exact T0|refine W6 ?_|with_reducible refine Br.ff ?_|(refine M0 (h1 (by omega)) ?_)|(refine Br.d (fun h=>?_) fun h=>?_)|refine T2 ?_ ?_|refine K0 ?_
  refine Again.by (i+1) ⟨by omega,by omega⟩ ?_
  repeat' first|refine S0 ?_;conv=>whnf|refine Vo ?_|exact T0|refine Cho.l ?_|(refine Vc.mk ⟨rfl,rfl⟩ (Step.out ?_))
theorem containsB_ct (n:Nat) (hn:n<=100) (W:Nat->Int × List Int) (h:∀ i,i<n->MOk (W i)):Cr 250 [.tab 2 n fun i=>bitL (W i),.fn 251 []] (.bool false):=by
 have h1:=indexB_ct n hn W h;refine .det (De Tryz.func250 [] [] ?_)
 repeat' first|refine S0 ?_;conv=>whnf|exact T0|(refine M0 h1 ?_)|refine T2 ?_ ?_|refine K0 ?_
def erL (id ver:Int) (n:Nat) (W:Nat->Int × List Int):List D:=[i64 id,i64 ver,.tab 2 n fun i=>bitL (W i)]
structure ErOk (id ver:Int) (n:Nat) (W:Nat->Int × List Int):Prop where
 i1:1<=id
 i2:id<=1048576
 v1:1<=ver
 v2:ver<=1048576
 n1:1<=n
 n5:n<=5
 w:∀ i,i<n->MOk (W i)
theorem evalid_ct (id ver:Int) (n:Nat) (W:Nat->Int × List Int) (h:ErOk id ver n W):Cr 188 [.agg (erL id ver n W)] (.bool true):=by
 have i1:=h.i1;have i2:=h.i2;have v1:=h.v1;have v2:=h.v2;have n1:=h.n1;have n5:=h.n5;have h1:=containsB_ct n (by omega) W h.w;refine .det (De Tryz.func188 [] [] ?_)
 repeat' first|refine S0 ?_;conv=>whnf|exact T0|refine B1 ?_|(refine M0 h1 ?_)|refine T2 ?_ ?_|refine K0 ?_
def wordS (w:Int × List Int):Str:=if w.2 = [] then [45] else hexL w.2
theorem hexM_ct (w:Int × List Int) (h:MOk w):Cr 193 [bitD w] (.tup [.str (hexL w.2),i64 (if noneB w then 8 else 0)]):=by
 rcases h.two with ⟨rfl,e⟩ | ⟨h,e,h1,h2⟩
 ·exact hexh0_ct
 ·rw [e];exact hexh_ct w h
def wordsL (n:Nat) (W:Nat->Int × List Int):List Str:=(List.range n).map fun i=>wordS (W i)
def lineE (id ver:Int) (n:Nat) (W:Nat->Int × List Int):List Str:=itS id.toNat :: itS ver.toNat :: wordsL n W
theorem lineE_len (id ver:Int) (n:Nat) (W:Nat->Int × List Int):(lineE id ver n W).length=n+2:=by simp [lineE,wordsL]
theorem lineE_at (id ver:Int) (n:Nat) (W:Nat->Int × List Int) (i:Nat) (hi:i<n):(lineE id ver n W).getD (i+2) []=wordS (W i):=by simp [lineE,wordsL,List.getD,hi]
theorem wordS_is (w:Int × List Int):wordS w=if noneB w then [45] else hexL w.2:=by
 unfold wordS noneB
 by_cases h:w.2 = []<;>simp [h]
theorem hexL_len' (w:List Int) (h:w.length<=3):(hexL w).length<=48:=by rw [hexL_len];omega
theorem wordS_len {w:Int × List Int} (h:MOk w):(wordS w).length<=48:=by
 rw [wordS_is]
 rcases h.two with ⟨rfl,e⟩ | ⟨h,e,_⟩
 ·decide
 ·rw [e];exact hexL_len' _ h.le.2
theorem str_one (H:List Str) (m:Nat) (c:Str) (hc:H.getD m []=c) (i:Nat) (hi:i<m+1):iteL (i<m) [D.str (H.getD i [])] (selC [[D.str c]] (i - m)) = [D.str (H.getD i [])]:=by
 by_cases h:i<m
 ·rw [iteL_same rfl,if_pos h]
 ·obtain rfl:i=m:=by omega
  rw [Nat.sub_self,iteL_same rfl,if_neg h,<-hc];rfl
theorem join_len (c:UInt8) (b:Nat):∀ l:List Str,(∀ t ∈ l,t.length<=b)->(joinS [c] l).length<=(b+1)*l.length
 | [],_=>by simp [joinS]
 | [x],h=>by
   have:=h x (by simp);simp [joinS,tailS];omega
 | x :: y :: l,h=>by
   have h1:=join_len c b (y :: l) fun t ht=>h t (by simp at ht ⊢;exact .inr ht)
   have h2:=h x (by simp);rw [joinS_two];simp only [lap,List.length_cons,Nat.mul_add,Nat.mul_one] at h1 ⊢;omega
theorem lineE_join {id ver:Int} {n:Nat} {W:Nat->Int × List Int} (h:ErOk id ver n W):(joinS [32] (lineE id ver n W)).length<=1000:=by
 have i1:=h.i1;have i2:=h.i2;have v1:=h.v1;have v2:=h.v2;have n1:=h.n1;have n5:=h.n5
 have:=join_len 32 48 (lineE id ver n W) fun t ht=>by
  simp only [lineE,wordsL,List.mem_cons,List.mem_map,List.mem_range] at ht
  rcases ht with rfl | rfl | ⟨i,hi,rfl⟩
  ·have:=itS_len id.toNat (by omega);omega
  ·have:=itS_len ver.toNat (by omega);omega
  ·exact wordS_len (h.w i hi)
 rw [lineE_len] at this;omega
theorem eline_ct (id ver:Int) (n:Nat) (W:Nat->Int × List Int) (h:ErOk id ver n W):Cr 132 [.agg (erL id ver n W)] (.tup [.str (joinS [32] (lineE id ver n W)),i64 0]):=by
 have i1:=h.i1;have i2:=h.i2;have v1:=h.v1;have v2:=h.v2;have n1:=h.n1;have n5:=h.n5;have h1:=evalid_ct id ver n W h;have h2:=itoa_ct id.toNat (by omega);have h3:=itoa_ct ver.toNat (by omega);rw [show ((id.toNat:Nat):Int)=id by omega] at h2;rw [show ((ver.toNat:Nat):Int)=ver by omega] at h3;have hl:=lineE_len id ver n W;have hat:=lineE_at id ver n W;have hJ:=lineE_join h;have hj:=sjoin_ct (lineE id ver n W) [32] (by omega) (by omega);have e0:(lineE id ver n W).getD 0 []=itS id.toNat:=rfl;have e1:(lineE id ver n W).getD 1 []=itS ver.toNat:=rfl;generalize lineE id ver n W=L at *;refine .det (De Tryz.func132 ord132 [] ?_)
 repeat' first|refine S0 ?_;conv=>whnf|with_reducible refine Br.tt ?_|(refine M0 h1 ?_)|(refine M0 h2 ?_)|(refine M0 h3 ?_)|refine Br.bnot ?_|refine K0 ?_|refine K1 ?_
 refine Lw ord132 [] (α:=Nat) (fun i=>[(4,.own 0),(20,.tab 2 n fun i=>bitL (W i)),(21,i64 n),(22,i64 i)]) (fun i=>[(0,.arr 9 1 (i+2) fun j=>[.str (L.getD j [])])]) 1 (fun i=>i<=n) (fun i=>n - i) ?_ ?_
 ·refine Again.by 0 (zle _) ?_
  repeat' first|refine S0 ?_;conv=>whnf|refine Vo ?_|exact T0|refine Vm ?_ ?_
  exact ⟨rfl,fun j hj=>match j,hj with
   | 0,_=>by dsimp only;rw [e0];rfl
   | 1,_=>by dsimp only;rw [e1];rfl⟩
 ·intro i hi
  have hx:=fun hi:i<n=>hexM_ct (W i) (h.w i hi)
  have hwi:=hat i;rw [wordS_is] at hwi;by_cases hlt:i<n
  ·have hwi:=hwi hlt;have hx:=hx hlt
   cases hb:noneB (W i)
   all_goals
    rw [hb] at hwi hx
    repeat' first|refine S0 ?_;conv=>whnf|refine Vo ?_|refine Vb ?_|exact T0|refine W6 ?_|refine B1 ?_|(refine M0 hx ?_)|(refine Br.d (fun h=>?_) fun h=>?_)|refine Br.bnot ?_|refine K0 ?_
    refine Again.by (i+1) ⟨by omega,by omega⟩ ?_
    repeat' first|refine S0 ?_;conv=>whnf|refine Vo ?_|exact T0|(exact ⟨rfl,fun j hj=>str_one L (i+2) _ hwi j hj⟩)|refine Vm ?_ ?_
  ·obtain rfl:i=n:=by omega
   have hj' : Cr 192 [.tab 1 (i+2) fun j=>[.str (L.getD j [])],.str [32]] (.str (joinS [32] L)):=by rw [<-hl];exact hj
   repeat' first|refine S0 ?_;conv=>whnf|exact T0|exact noSh_str _|refine B0 ?_|(refine M0 hj' ?_)|refine T2 ?_ ?_|refine K0 ?_|refine Vm ?_ ?_
end Kx
open Go Sx Go.Proofs
namespace Kx
end Kx
open Go Sx Go.Proofs
namespace Kx
theorem RuD.check {r:Ru} (h:RuD r):checkE r=0:=by
 obtain ⟨t,n,s⟩:=r;obtain ⟨h1,h2,h3⟩:=h;simp only at h1 h2 h3
 rcases h1 with rfl | rfl<;>rcases h2 with rfl | rfl<;>rcases h3 with rfl | rfl<;>decide +kernel
def nmL:List Str:=[[102,97,109,105,108,121],[103,105,118,101,110],[98,105,114,116,104],[115,116,114,101,101,116],[99,111,100,101]]
def FdD (f:List Fd):Prop:=∀ j,j<f.length->(f.getD j ([],0)).1=nmL.getD j []/\1<=(f.getD j ([],0)).2/\(f.getD j ([],0)).2<=4
theorem FdD.snoc {f:List Fd} (h:FdD f) (k:Int) (hk:1<=k/\k<=4):FdD (f ++ [(nmL.getD f.length [],k)]):=fun i hi=>by
 rw [lap,List.length_cons,List.length_nil] at hi;by_cases e:i<f.length
 ·rw [gDe,List.getElem?_append_left e,<-gDe];exact h i e
 ·obtain rfl:i=f.length:=by omega
  rw [gDe (l:=f ++ _),List.getElem?_append_right (Nat.le_refl _),Nat.sub_self];exact ⟨rfl,hk⟩
structure ScD (s:Sc):Prop where
 n1:1<=s.f.length
 n4:s.f.length<=4
 ok:s.ok
 r:RuD s.r
theorem fd_app (f:List Fd) (x:Fd) {m:List D} (hm:m=fdF x):f.length+1=(f ++ [x]).length/\∀ i,i<(f ++ [x]).length->iteL (i<f.length) (fdF (f.getD i ([],0))) (selC [m] (i - f.length))=fdF ((f ++ [x]).getD i ([],0)) :=
 app_one fdF ([],0) (fun _ _=>rfl) f x hm
end Kx
open Go Sx Go.Proofs
namespace Kx
def anS (c:UInt8):Bool:=isAn c || c == 32
def okB (b:Bool) (y:Str):Bool:=(decide (y = []) || b) && (decide (y.length<=64) && y.all anS)
theorem okB_v {s:Sc} {i:Nat} {y:Str} (h:okB (nrmB s.r (s.kind i).toNat y) y=true):VOk s i y:=by
 simp only [okB,bat,Bool.or_eq_true,decide_eq_true_eq,List.all_eq_true] at h;obtain ⟨h1,h2,h3⟩:=h;refine ⟨?_,h2,fun c hc=>?_⟩
 ·unfold nB;split
  ·rfl
  ·rename_i hne;exact h1.resolve_left hne
 ·have:=h3 c hc;simp only [anS,Bool.or_eq_true,beq_iff_eq] at this;exact this
theorem name_okB {r:Ru} {x:Str} (h:normE r x=0):okB (normB r (normO r x)) (normO r x)=true:=by
 obtain ⟨h1,h2,_,h4⟩:=norm_twice h;obtain ⟨hr,_,_,_,h5⟩:=norm_ok h
 have h6:(normO r x).all anS=true:=by
  rw [h5,List.all_eq_true];intro c hc;have hg:=keep_good hr (toks (foldO x))
  rcases join_mem hc with e | ⟨y,hy,hcy⟩
  ·subst e;rfl
  ·have:=low_an ((hg y hy).lo c hcy);simp [anS,this]
 simp only [okB,normB,h1,h2,h6,decide_true,Bool.and_true,Bool.or_true,decide_eq_true h4]
theorem code_okB:∀ x ∈ codesL,codeE x=0->okB (codeB (codeO x)) (codeO x)=true:=by decide +kernel
theorem addr_okB:∀ t ∈ [[],rT],∀ n ∈ [[],rN],∀ u ∈ [[],rS],∀ x ∈ addrsL,addrE ⟨t,n,u⟩ x=0->okB (addrB ⟨t,n,u⟩ (addrO ⟨t,n,u⟩ x)) (addrO ⟨t,n,u⟩ x)=true:=by decide +kernel
def wrtD (y m d w:Nat):Str:=writtenS y m d w
theorem day_okB:∀ y<2,∀ m<3,∀ d<3,∀ w<3,okB (rdB (dayO (wrtD (1980+y) (1+m) (1+d) w))) (dayO (wrtD (1980+y) (1+m) (1+d) w))=true:=by decide +kernel
theorem raw_ok {s:Sc} (hs:ScD s) (i:Nat) (x:Str) (h:RawP (s.kind i) x) (hk:1<=s.kind i/\s.kind i<=4) (he:nE s i x=0):VOk s i (nO s i x):=by
 by_cases h0:x = []
 ·rw [nO,if_pos h0];exact okB_v (by simp [okB])
 rw [nE,if_neg h0] at he;rw [nO,if_neg h0];apply okB_v
 rcases h with rfl | ⟨hk2,y,m,d,w,hy,hm,hd,rfl⟩ | ⟨hk2,hx⟩ | ⟨hk2,hx⟩ | ⟨h2,h3,h4,_⟩
 ·exact absurd rfl h0
 ·rw [hk2]
  have hw:∃ v:Nat,v<3/\writtenS y m d w=writtenS y m d v:=by
   by_cases h1:w=0
   ·exact ⟨0,by omega,by rw [h1];rfl⟩
   ·by_cases h2:w=1
    ·exact ⟨1,by omega,by rw [h2];rfl⟩
    ·exact ⟨2,by omega,by rw [writtenS,writtenS,if_neg h1,if_neg h2,if_neg (by decide),if_neg (by decide)]⟩
  obtain ⟨v,hv,e⟩:=hw;have:=day_okB (y - 1980).toNat (by omega) (m - 1).toNat (by omega) (d - 1).toNat (by omega) v hv;unfold wrtD at this;rw [show ((1980+(y - 1980).toNat:Nat):Int)=y by omega,show ((1+(m - 1).toNat:Nat):Int)=m by omega,show ((1+(d - 1).toNat:Nat):Int)=d by omega,<-e] at this;exact this
 ·rw [hk2] at he ⊢;exact code_okB x hx he
 ·rw [hk2] at he ⊢;obtain ⟨ht,hn,hu⟩:=hs.r;generalize hr:s.r=r at *;obtain ⟨t,n,u⟩:=r;exact addr_okB t (by simpa using ht) n (by simpa using hn) u (by simpa using hu) x hx he
 ·have e:s.kind i=1:=by omega
  rw [e] at he ⊢;exact name_okB he
theorem raw_len {k:Int} {x:Str} (h:RawP k x):x.length<=10000:=by
 have hN:∀ n ∈ namesL,n.length<=1000:=by decide
 have hC:∀ n ∈ codesL,n.length<=1000:=by decide
 have hA:∀ n ∈ addrsL,n.length<=1000:=by decide
 rcases h with rfl | ⟨_,y,m,d,w,_,_,_,rfl⟩ | ⟨_,hx⟩ | ⟨_,hx⟩ | ⟨_,_,_,n,hn,hl,_⟩
 ·exact zle _
 ·unfold writtenS;split
  ·simp [putS_len]
  ·split<;>simp [putS_len]
 ·have:=hC _ hx;omega
 ·have:=hA _ hx;omega
 ·have:=hN _ hn;omega
def RawsP (s:Sc) (l:List Str):Prop:=∀ i,i<l.length->RawP (s.kind i) (l.getD i [])
theorem RawsP.snoc {s:Sc} {l:List Str} (h:RawsP s l) {x:Str} (hx:RawP (s.kind l.length) x):RawsP s (l ++ [x]):=fun i hi=>by
 rw [lap,List.length_cons,List.length_nil] at hi;by_cases e:i<l.length
 ·rw [gDe,List.getElem?_append_left e,<-gDe];exact h i e
 ·obtain rfl:i=l.length:=by omega
  rw [gDe,List.getElem?_append_right (Nat.le_refl _),Nat.sub_self];exact hx
theorem RawsP.len {s:Sc} {l:List Str} (h:RawsP s l):∀ x ∈ l,x.length<=10000:=fun x hx=>by
 obtain ⟨i,hi,rfl⟩:=List.getElem_of_mem hx;have:=raw_len (h i hi);rw [gDe,List.getElem?_eq_getElem hi] at this;exact this
theorem made_ok {s:Sc} (hs:ScD s) {raws:List Str} (hr:RawsP s raws) (hn:raws.length=s.f.length) {a b:Int} (h:1<=a/\a<=1048576/\1<=b/\b<=1048576) (he:∀ i,i<s.f.length->nE s i (raws.getD i [])=0):(Rc.mk a b (mkL s raws s.f.length)).ok s :=
 ⟨h.1,h.2.1,h.2.2.1,h.2.2.2,mkL_len _ _ _,fun i hi=>by
  dsimp only;rw [mkL_at _ _ _ _ hi]
  exact raw_ok hs i _ (hr i (by omega)) (hs.ok.kd hi) (he i hi)⟩
structure RDl (s:Sc) (l:List Rc) (id:Int):Prop where
 ok:∀ r ∈ l,r.ok s
 asc:∀ i,i+1<l.length->(l.getD i Rc.z).id<(l.getD (i+1) Rc.z).id
 last:∀ i,i<l.length->(l.getD i Rc.z).id<=id
 b0:0<=id
 b1:id<=3*l.length
theorem RDl.snoc {s:Sc} {l:List Rc} {id:Int} (h:RDl s l id) (x:Rc) (j:Int) (hx:x.ok s/\x.id=j) (h1:id+1<=j) (h3:j<=id+3):RDl s (l ++ [x]) j:=by
 have hg:∀ i,i<l.length->(l ++ [x]).getD i Rc.z=l.getD i Rc.z:=fun i e=>by
  rw [gDe,List.getElem?_append_left e,<-gDe]
 have hl:(l ++ [x]).getD l.length Rc.z=x:=by
  rw [gDe,List.getElem?_append_right (Nat.le_refl _),Nat.sub_self];rfl
 have b0:=h.b0;have b1:=h.b1;refine ⟨fun r hr=>?_,fun i hi=>?_,fun i hi=>?_,by omega,by simp;omega⟩
 ·rcases List.mem_append.1 hr with hr | hr
  ·exact h.ok r hr
  ·simp at hr;subst hr;exact hx.1
 ·rw [lap,List.length_cons,List.length_nil] at hi;by_cases e:i+1<l.length
  ·rw [hg i (by omega),hg (i+1) e];exact h.asc i e
  ·have e:i+1=l.length:=by omega
   rw [e,hl,hg i (by omega),hx.2];have:=h.last i (by omega);omega
 ·rw [lap,List.length_cons,List.length_nil] at hi;by_cases e:i<l.length
  ·rw [hg i e];have:=h.last i e;omega
  ·obtain rfl:i=l.length:=by omega
   rw [hl,hx.2];omega
end Kx
namespace Go.Proofs
open Go.Shelf
def Kx.keysA_ren:Go.Shelf.Ren:=⟨fun | 7=>307 | 10=>344 | n=>n,fun | 23=>370 | 26=>9 | 3=>371 | 28=>367 | 0=>0 | 27=>366 | 33=>140 | 4=>4 | n=>n,fun | n=>n⟩
theorem Kx.keysA:Go.Proofs.SlLaysZ.n7 Tryz.prog Kx.keysA_ren:={
 mixed:=by kernel_rfl
 f7:=⟨Tryz.f307.name,by decide,Tryz.func307.trans (congrArg some (by kernel_rfl))⟩
 f10:=⟨Tryz.f344.name,by decide,Tryz.func344.trans (congrArg some (by kernel_rfl))⟩
 t0:=Tryz.underlying0
 a0:=Tryz.isAgg0
 z0:=Tryz.sizeOf0
 v0:=Tryz.zeroValue0
 t4:=Tryz.underlying4
 a4:=Tryz.isAgg4
 z4:=Tryz.sizeOf4
 v4:=Tryz.zeroValue4
 t23:=Tryz.underlying370
 a23:=Tryz.isAgg370
 z23:=Tryz.sizeOf370
 v23:=Tryz.zeroValue370
 t26:=Tryz.underlying9
 a26:=Tryz.isAgg9
 z26:=Tryz.sizeOf9
 v26:=Tryz.zeroValue9
 t27:=Tryz.underlying366
 a27:=Tryz.isAgg366
 z27:=Tryz.sizeOf366
 v27:=Tryz.zeroValue366
 t28:=Tryz.underlying367
 a28:=Tryz.isAgg367
 z28:=Tryz.sizeOf367
 v28:=Tryz.zeroValue367
 t33:=Tryz.underlying140
 a33:=Tryz.isAgg140
 z33:=Tryz.sizeOf140
 v33:=Tryz.zeroValue140 }
def Kx.sortedA_ren:Go.Shelf.Ren:=⟨fun | 6=>306 | 8=>342 | 9=>343 | 11=>356 | 13=>170 | 12=>357 | 23=>239 | 24=>240 | 14=>364 | 15=>365 | 16=>366 | 17=>367 | 18=>368 | 19=>369 | 20=>370 | 21=>371 | 22=>372 | 25=>375 | 26=>287 | 27=>288 | 28=>376 | 29=>377 | 30=>378 | 31=>383 | n=>n,fun | 26=>9 | 28=>367 | 24=>28 | 0=>0 | 3=>3 | 37=>103 | 48=>321 | 50=>43 | 4=>4 | 40=>315 | 39=>314 | 45=>216 | 5=>5 | 9=>9 | 51=>346 | 55=>349 | 57=>380 | 58=>381 | 33=>140 | n=>n,fun | n=>n⟩
theorem Kx.sortedA:Go.Proofs.SlLaysZ.n6 Tryz.prog Kx.sortedA_ren:={
 mixed:=by kernel_rfl
 f6:=⟨Tryz.f306.name,by decide,Tryz.func306.trans (congrArg some (by kernel_rfl))⟩
 f8:=⟨Tryz.f342.name,by decide,Tryz.func342.trans (congrArg some (by kernel_rfl))⟩
 f11:=⟨Tryz.f356.name,by decide,Tryz.func356.trans (congrArg some (by kernel_rfl))⟩
 t0:=Tryz.underlying0
 a0:=Tryz.isAgg0
 z0:=Tryz.sizeOf0
 v0:=Tryz.zeroValue0
 t24:=Tryz.underlying28
 a24:=Tryz.isAgg28
 z24:=Tryz.sizeOf28
 v24:=Tryz.zeroValue28
 t26:=Tryz.underlying9
 a26:=Tryz.isAgg9
 z26:=Tryz.sizeOf9
 v26:=Tryz.zeroValue9
 t28:=Tryz.underlying367
 a28:=Tryz.isAgg367
 z28:=Tryz.sizeOf367
 v28:=Tryz.zeroValue367
 i26:=by kernel_rfl }
def Kx.cmpI_ren:Go.Shelf.Ren:=⟨fun | 5=>167 | 7=>229 | n=>n,fun | 22=>3 | 3=>3 | 4=>4 | n=>n,fun | n=>n⟩
theorem Kx.cmpI:Go.Proofs.SlLaysC2.n5 Tryz.prog Kx.cmpI_ren:={
 mixed:=by kernel_rfl
 f5:=⟨Tryz.f167.name,by decide,Tryz.func167.trans (congrArg some (by kernel_rfl))⟩
 f7:=⟨Tryz.f229.name,by decide,Tryz.func229.trans (congrArg some (by kernel_rfl))⟩
 t3:=Tryz.underlying3
 a3:=Tryz.isAgg3
 z3:=Tryz.sizeOf3
 v3:=Tryz.zeroValue3
 t4:=Tryz.underlying4
 a4:=Tryz.isAgg4
 z4:=Tryz.sizeOf4
 v4:=Tryz.zeroValue4
 t22:=Tryz.underlying3
 a22:=Tryz.isAgg3
 z22:=Tryz.sizeOf3
 v22:=Tryz.zeroValue3 }
def Kx.laysTz_ren:Go.Shelf.Ren:=⟨fun | 27=>246 | 28=>291 | 29=>292 | n=>n,fun | 25=>103 | 3=>3 | 27=>321 | 22=>43 | 4=>4 | 53=>383 | 0=>0 | 5=>5 | 54=>384 | n=>n,fun | 0=>1 | 1=>2 | n=>n⟩
theorem Kx.laysTz:Go.Proofs.Lays7.n27 Tryz.prog Kx.laysTz_ren:={
 mixed:=by kernel_rfl
 f27:=Tryz.func246.trans (congrArg some (by kernel_rfl))
 f28:=Tryz.func291.trans (congrArg some (by kernel_rfl))
 f29:=Tryz.func292.trans (congrArg some (by kernel_rfl))
 t0:=Tryz.underlying0
 a0:=Tryz.isAgg0
 z0:=Tryz.sizeOf0
 v0:=Tryz.zeroValue0
 i0:=by kernel_rfl
 t3:=Tryz.underlying3
 a3:=Tryz.isAgg3
 z3:=Tryz.sizeOf3
 v3:=Tryz.zeroValue3
 i3:=by kernel_rfl
 t4:=Tryz.underlying4
 a4:=Tryz.isAgg4
 z4:=Tryz.sizeOf4
 v4:=Tryz.zeroValue4
 i4:=by kernel_rfl
 t5:=Tryz.underlying5
 a5:=Tryz.isAgg5
 z5:=Tryz.sizeOf5
 v5:=Tryz.zeroValue5
 i5:=by kernel_rfl
 t22:=Tryz.underlying43
 a22:=Tryz.isAgg43
 z22:=Tryz.sizeOf43
 v22:=Tryz.zeroValue43
 i22:=by kernel_rfl
 t25:=Tryz.underlying103
 a25:=Tryz.isAgg103
 z25:=Tryz.sizeOf103
 v25:=Tryz.zeroValue103
 i25:=by kernel_rfl
 t27:=Tryz.underlying321
 a27:=Tryz.isAgg321
 z27:=Tryz.sizeOf321
 v27:=Tryz.zeroValue321
 i27:=by kernel_rfl
 t53:=Tryz.underlying383
 a53:=Tryz.isAgg383
 z53:=Tryz.sizeOf383
 v53:=Tryz.zeroValue383
 i53:=by kernel_rfl
 t54:=Tryz.underlying384
 a54:=Tryz.isAgg384
 z54:=Tryz.sizeOf384
 g0:=by kernel_rfl
 g1:=by kernel_rfl }
end Go.Proofs
open Go Sx Go.Proofs
namespace Kx
open Go.RowKit Go.Maps Go.WideMaps
def keysK (g:Nat->ByteArray) (k:Nat):List Lit:=(List.range k).map fun j=>Lit.string (g j).data.toList
def SnU (g:Nat->ByteArray) (k:Nat):DataW Unit:=setOf (.agg []) (keysK g k)
theorem SnU_succ (g:Nat->ByteArray) (k:Nat):SnU g (k+1)=(SnU g k).put (.string (g k).data.toList) (.agg []):=by
 unfold SnU keysK;rw [List.range_succ,List.map_append,List.map_singleton,setOf_snoc]
theorem SnU_zero (g:Nat->ByteArray):SnU g 0 = .map []:=by simp [SnU,keysK,setOf]
theorem lawK:Keyed Tryz.prog 9:=string_keyed Tryz.underlying9
set_option maxRecDepth 100000 in
theorem of_none (g:Nat->ByteArray) (a:Option Addr) (cap:Nat) (w:World):Calls Tryz.prog 308 #[.slice a 0 cap] w fun e w'=>e = .returned (.map (some w.heap.size))/\w'.ownsMap Tryz.prog 9 unitElem w.heap.size 0 (SnU g 0)/\Below w.heap.size w w':=by
 have hmm:=@run_makeMap Tryz.prog
 go_enter Tryz.func308,Tryz.ntmps308
 go_wp2
 refine wp_loop_rounds 1 ?_;rw [rounds_succ]
 go_wp2
 go_ret
 exact ⟨rfl,by rw [SnU_zero];exact World.ownsMap_made _ _ _ _,(Below.refl _ _).alloc (Nat.le_refl _) _⟩
set_option maxRecDepth 100000 in
theorem of_some (b off cap n:Nat) (g:Nat->ByteArray) (w:World) (hl:n<=1000) (hb:b<w.heap.size)
 (hc:∀ j,j<n->w.cell? ⟨b,off+j,none⟩=some (.string (g j))) (hsz:∀ j,j<n->(g j).size<=maxLen) :
 Calls Tryz.prog 308 #[.slice (some ⟨b,off,none⟩) n cap] w fun e w'=>e = .returned (.map (some w.heap.size))/\w'.ownsMap Tryz.prog 9 unitElem w.heap.size n (SnU g n)/\Below w.heap.size w w':=by
 have hmm:=@run_makeMap Tryz.prog
 go_enter Tryz.func308,Tryz.ntmps308
 go_wp2
 go_loopw [9] (fun i wr=>∃ k:Nat,k<=n/\i = .int .i64 k/\wr.ownsMap Tryz.prog 9 unitElem w.heap.size k (SnU g k)/\Below w.heap.size w wr)
  (fun i _=>n - (Go.RowKit.intOf i).toNat)
 case atStart=>exact ⟨0,zle _,rfl,by rw [SnU_zero];exact World.ownsMap_made _ _ _ _,(Below.refl _ _).alloc (Nat.le_refl _) _⟩
 case round =>
  obtain ⟨k,hk,rfl,hown,hnx⟩:=hrel
  have hcx:k<n->wr.cell? ⟨b,off+k,none⟩=some (.string (g k)):=fun h=>(hnx.cell (by exact hb)).trans (hc k h)
  have hkey:k<n->keyOf Tryz.prog 9 (.string (g k))=some (.string (g k).data.toList):=fun h=>keyOf_string_mk Tryz.underlying9 (hsz k h)
  go_wp2_with (first
   | (at_mapUpdate;refine wpList_mapUpdate_own _ rfl _ _ _ 370 rfl _ _ lawK Tryz.underlying370 unitElem w.heap.size k _ rfl hown (by unfold maxLen;omega) _ _ _ rfl rfl (hkey (by omega)) _ [] unitElem_mk ?_;intro w1 hown1 hgrow1)
   | go_in)
  ·have hlt:k<n:=by assumption
   go_roundw
   case rel=>exact ⟨k+1,by omega,by go_num,(SnU_succ g k).symm ▸ hown1,hnx.grown hgrow1 hnx.size (fun j hj=>by cases hj;exact Nat.le_refl _)⟩
   case measure=>simp [Go.RowKit.intOf];omega
  ·have:k=n:=by omega
   subst this
   go_ret
   exact ⟨rfl,hown,hnx⟩
theorem sortsK (m:Nat):AnyZ.SortsIn Tryz.prog Kx.sortedA_ren Fence.wide m :=
 ⟨fun blk off cap ss W hH hblk hsz=>callsIn_wide.2 (Kx.slices_Sort_string blk off cap ss W hH hblk hsz),fun p cap W=>callsIn_wide.2 (Kx.slices_Sort_string_none p cap W)⟩
set_option maxHeartbeats 1000000 in
theorem sorted_keys (b nn:Nat) (D0:DataW Unit) (w:World) (hown:w.ownsMap Tryz.prog 9 unitElem b nn D0) (hmax:Maps.size D0<=1000) :
 CallsIn Fence.wide 6 Tryz.prog 307 #[.map (some b)] w (fun e w'=>e = .returned (.func (.func 344) #[] #[.pointer (some ⟨w.heap.size,0,none⟩)])/\w' = w.alloc (.cells #[.map (some b)] 370)) /\
 CallsIn Fence.wide 6 Tryz.prog 306 #[.func (.func 344) #[] #[.pointer (some ⟨w.heap.size,0,none⟩)]] (w.alloc (.cells #[.map (some b)] 370)) fun e w'=>∃ (v:Value) (ss:List (List UInt8)),e = .returned v/\ss.Perm (strKeys D0) /\
  w'.ownsRow (w.alloc (.cells #[.map (some b)] 370)).heap.size 9 1 v ss.length ((ss.mergeSort (fun x y=>decide (x<=y))).map encStr)/\Below (w.alloc (.cells #[.map (some b)] 370)).heap.size (w.alloc (.cells #[.map (some b)] 370)) w':=by
 have hbl:=hown.lt
 have hseq:SeqGives Fence.wide 3 Tryz.prog 344 #[.pointer (some ⟨w.heap.size,0,none⟩)] encStr (fun ss=>ss.Perm (strKeys D0)) (Maps.size D0) (w.alloc (.cells #[.map (some b)] 370)) :=
  AnyZ.keys_gives (ρ:=Kx.keysA_ren) { Kx.keysA with } Fence.wide _ trivial rfl (by omega) w.heap.size b nn D0 _ (by simp) (by simp) (by
   obtain ⟨es,clock,hb,Ft,hs,hD⟩:=hown
   exact ⟨es,clock,(Below.heap_alloc _ _ b hbl).trans hb,Ft,hs,hD⟩)
 refine ⟨AnyZ.keys_in Kx.keysA Fence.wide 6 trivial rfl (some b) w,?_⟩;have cS:=AnyZ.sorted_in Kx.sortedA Fence.wide 6 trivial trivial trivial trivial rfl (by omega) (sortsK _) (enters_of Tryz.func343 (by kernel_rfl) rfl) 344 #[.pointer (some ⟨w.heap.size,0,none⟩)] trivial (enters_of Tryz.func344 (by kernel_rfl) rfl) _ _ (by unfold maxLen;omega) (by omega) _ hseq
 exact cS.mono fun e w' ⟨v,ss,h1,h2,h3,_,h5⟩=>⟨v,ss,h1,h2,h3,h5⟩
set_option maxHeartbeats 1000000 in
theorem set_law (n:Nat) (hn:n<=1000) (g:Nat->ByteArray) (x:Value) (w:World) (hof:Calls Tryz.prog 308 #[x] w fun e w'=>e = .returned (.map (some w.heap.size))/\w'.ownsMap Tryz.prog 9 unitElem w.heap.size n (SnU g n)/\Below w.heap.size w w') :
 Calls Tryz.prog 263 #[x] w fun e w'=>∃ (v:Value) (ss:List (List UInt8)),e = .returned v/\ss.Perm (strKeys (SnU g n)) /\
  w'.ownsRow w.heap.size 9 1 v ss.length ((ss.mergeSort (fun x y=>decide (x<=y))).map encStr)/\Below w.heap.size w w'/\∃ W b m,World.ownsMap W Tryz.prog 9 unitElem b m (SnU g n):=by
 refine (callsIn_wide (n:=7)).1 ?_;have cO:=(callsIn_wide (n:=6)).2 hof
 have cK:=fun W (h:World.ownsMap W Tryz.prog 9 unitElem w.heap.size n (SnU g n))=>(sorted_keys _ _ _ W h (by have:=h.size_le;omega)).1
 have cS:=fun W (h:World.ownsMap W Tryz.prog 9 unitElem w.heap.size n (SnU g n))=>(sorted_keys _ _ _ W h (by have:=h.size_le;omega)).2
 have f1:Fence.wide.fn 308:=trivial;have f2:Fence.wide.fn 307:=trivial;have f3:Fence.wide.fn 306:=trivial;refine callsIn_of_wp Tryz.func263 rfl trivial ?_ rfl;simp only [Tryz.ntmps263,List.size_toArray,List.length_cons,List.length_nil,Nat.reduceAdd,Nat.reduceSub,Array.replicate_succ,Array.replicate_zero,List.push_toArray,List.append_toArray,List.nil_append,List.cons_append]
 gi_wp2_with (first
  | (gi_at_call 308;refine cO.mono ?_;rintro e w1 ⟨rfl,ho,hb1⟩)
  | (gi_at_call 307;refine (cK w1 ho).mono ?_;rintro e w2 ⟨rfl,rfl⟩)
  | (gi_at_call 306;refine (cS w1 ho).mono ?_;rintro e w3 ⟨v,ss,rfl,hS,hrow,hb⟩))
 go_ret
 have hb2:=hb1.trans (((Below.refl w1.heap.size w1).alloc (Nat.le_refl _) (.cells #[.map (some w.heap.size)] 370)).mono hb1.size);exact ⟨v,ss,rfl,hS,ownsRow_base_a hrow hb2.size,hb2.trans (hb.mono hb2.size),w1,_,_,ho⟩
theorem insS_iff (t:Str):∀ l:List Str,∀ g,g ∈ insS t l ↔ g=t\/g ∈ l
 | [],g=>by simp [insS]
 | u :: l,g=>by
   have h:=insS_iff t l g;unfold insS;split
   ·rename_i e;subst e;simp
   ·split
    ·simp
    ·simp only [List.mem_cons,h]
     constructor<;>(intro h;rcases h with h | h | h<;>simp [h])
theorem lt_iff:∀ a b:Str,ltS a b=true ↔ a<b
 | [],[]=>by simp [ltS]
 | [],_ :: _=>by simp [ltS]
 | _ :: _,[]=>by simp [ltS]
 | x :: a,y :: b=>by
   have h:=lt_iff a b;rw [List.cons_lt_cons_iff];unfold ltS;by_cases e:x=y
   ·subst e;rw [if_pos rfl,h];constructor
    ·exact fun h=>.inr ⟨rfl,h⟩
    ·rintro (h | h)
     ·exact absurd h (by simp)
     ·exact h.2
   ·rw [if_neg e,decide_eq_true_eq];constructor
    ·exact fun h=>.inl (UInt8.lt_iff_toNat_lt.2 h)
    ·rintro (h | h)
     ·exact UInt8.lt_iff_toNat_lt.1 h
     ·exact absurd h.1 e
theorem insS_sort (t:Str):∀ l:List Str,l.Pairwise (fun a b=>a<b)->(insS t l).Pairwise (fun a b=>a<b)
 | [],_=>by simp [insS]
 | u :: l,h=>by
   have h1:=List.pairwise_cons.1 h;have h2:=insS_sort t l h1.2;unfold insS;split
   ·exact h
   ·rename_i hne;split
    ·rename_i hlt;rw [lt_iff] at hlt;refine List.pairwise_cons.2 ⟨fun x hx=>?_,h⟩
     rcases List.mem_cons.1 hx with rfl | hx
     ·exact hlt
     ·exact List.lt_trans hlt (h1.1 x hx)
    ·rename_i hlt;rw [lt_iff] at hlt;refine List.pairwise_cons.2 ⟨fun x hx=>?_,h2⟩
     rcases (insS_iff t l x).1 hx with rfl | hx
     ·exact Classical.byContradiction fun h2=>hne (List.le_antisymm (List.not_lt.1 h2) (List.not_lt.1 hlt))
     ·exact h1.1 x hx
theorem setS_iff:∀ l:List Str,∀ g,g ∈ setS l ↔ g ∈ l
 | [],g=>by simp [setS]
 | t :: l,g=>by rw [setS,insS_iff,setS_iff l g,List.mem_cons]
theorem setS_sort:∀ l:List Str,(setS l).Pairwise (fun a b=>a<b)
 | []=>by simp [setS]
 | t :: l=>by rw [setS];exact insS_sort t _ (setS_sort l)
theorem setS_merge (l:List Str) {ss:List (List UInt8)} (h:ss.Perm (setS l)):ss.mergeSort (fun x y=>decide (x<=y))=setS l:=by
 rw [mergeSort_of_perm h];refine List.mergeSort_of_pairwise ((setS_sort l).imp fun {a b} hab=>?_);exact decide_eq_true (List.le_of_lt hab)
theorem set_perm {n:Nat} {l:List Str} (hn:n=l.length) {w:World} {b m:Nat} (hown:w.ownsMap Tryz.prog 9 unitElem b m (SnU (fun i=>⟨(l.getD i []).toArray⟩) n)):(setS l).Perm (strKeys (SnU (fun i=>⟨(l.getD i []).toArray⟩) n)):=by
 refine Collected.perm (left:=fun _=>false) ⟨(setS_sort l).imp fun {a b} h e=>?_,fun x=>?_⟩ hown lawK Tryz.underlying9 fun _=>rfl
 ·subst e;exact List.lt_irrefl _ h
 ·rw [setS_iff,SnU,has_setOf _ _ _ (fun y hy=>by obtain ⟨j,_,rfl⟩:=List.mem_map.1 hy;trivial)];subst hn;simp only [keysK,List.any_map,List.any_eq_true,List.mem_range,Function.comp,and_true];constructor
  ·intro hx;obtain ⟨i,hi,rfl⟩:=List.getElem_of_mem hx;exact ⟨i,hi,by simp [Lit.sameKey,List.getD,hi]⟩
  ·rintro ⟨i,hi,e⟩
   simp [Lit.sameKey,List.getD,hi] at e;rw [<-e];exact List.getElem_mem hi
theorem setO_ct (l:List Str) (hl:l.length<=1000) (hg:∀ g ∈ l,g.length<=1000):Cr 263 [strs l] (strsO 9 (setS l)):=by
 refine ⟨⟨Tryz.f263,Tryz.func263,by decide,by decide⟩,fun w S0 vs F hS hod hnd hFS=>?_⟩;have hll:=hod.length
 obtain ⟨va,hvs⟩:∃ va,vs = #[va]:=by
  match vs,hll with
  | ⟨[a]⟩,_=>exact ⟨a,rfl⟩
 subst hvs;simp only [OdT,strs,Od] at hod;obtain ⟨F1,F2,rfl,⟨hv,rfl⟩,rfl⟩:=hod;simp only [Rd] at hv;obtain ⟨a,cap,rfl,hn,hel⟩:=hv
 have hof:Calls Tryz.prog 308 #[.slice a l.length cap] w fun e w'=>e = .returned (.map (some w.heap.size))/\w'.ownsMap Tryz.prog 9 unitElem w.heap.size l.length (SnU (fun i=>⟨(l.getD i []).toArray⟩) l.length)/\Below w.heap.size w w':=by
  rcases Nat.eq_zero_or_pos l.length with h0 | h0
  ·rw [h0];exact of_none _ a cap w
  ·obtain ⟨b,off,rfl,hb,_⟩:=hel 0 h0;refine of_some b off cap l.length _ w hl (hS b hb) (fun j hj=>?_) (fun j hj=>?_)
   ·obtain ⟨b',off',e,_,us,hu,hc,hr⟩:=hel j hj;cases e
    match us,hr with
    | [u],hr =>
      simp only [RdL,Rd] at hr;have:=hc 0 (by simp);rw [cell?_at];simp only [Nat.mul_one,Nat.add_zero,MiS] at this;rw [this,hr.2.1];rfl
   ·have:=hg _ (getD_in (z:=[]) hj)
    have e:(⟨(l.getD j []).toArray⟩:ByteArray).size=(l.getD j []).length:=by simp [ByteArray.size]
    unfold maxLen;omega
 refine (set_law l.length hl _ _ w hof).mono ?_
 rintro e w' ⟨v,ss,rfl,hp,hrow,hb,W,b1,m,hown⟩
 have hm:=setS_merge l (hp.trans (set_perm rfl hown).symm)
 have hlen:ss.length=(setS l).length:=by rw [<-hm,List.length_mergeSort]
 rw [hm,hlen] at hrow
 have hblk:∀ b,v.ownBlock=some b->w.heap.size<=b:=fun b hb=>by
  rcases hrow.2 with ⟨rfl,_⟩ | ⟨gb,c,cur,rfl,hge,_⟩
  ·simp [Value.ownBlock] at hb
  ·simp only [Value.ownBlock,Option.some.injEq] at hb;omega
 refine ⟨v,_,[],S0,v.ownBlock.toList,rfl,⟨rfl,rfl⟩,⟨hb.os,hb.tape,hb.output,hb.size,fun b h1 _=>hb.block b h1,fun b h=>h,fun b h=>.inl h,by cases v.ownBlock<;>simp,?_,?_⟩,?_⟩
 ·intro b hb1 hb2;exact absurd (hS b hb2) (Nat.not_lt.2 (hblk b (by simpa using hb1)))
 ·intro b hb1;exact .inr (hblk b (by simpa using hb1))
 ·simp only [OdT,strsO,Od,ioV];refine ⟨v.ownBlock.toList,[],by simp,⟨⟨(setS l).map encStr,OwnsH.of_row hrow,fun i hi=>?_,fun u hu=>?_⟩,rfl⟩,rfl⟩
  ·rw [Nat.mul_one,List.drop_eq_getElem_cons (by simpa using hi)];simp only [List.take_succ_cons,List.take_zero,RdL,Rd,and_true];simp [encStr,Value.oneCell',List.getD,hi]
  ·obtain ⟨x,_,rfl⟩:=List.mem_map.1 hu;rfl
theorem set_ok:SetOK:=fun l hl hg=>by
 refine Ct.det ((setO_ct l (by omega) fun g h=>by have:=hg g h;omega).mono ?_)
 rintro r outs ⟨rfl,rfl⟩
 exact ⟨⟨rfl,fun _ _=>rfl⟩,trivial⟩
end Kx
open Go Sx Go.Proofs
namespace Kx
theorem ispow_ct:Cr 245 [i64 16] (.bool true):=by
 refine .det (De Tryz.func245 [] [] ?_)
 repeat' first|refine S0 ?_;conv=>whnf|exact T0|refine W6 ?_|refine T2 ?_ ?_
def hexD2:Str:=[48,49,50,51,52,53,54,55,56,57,97,98,99,100,101,102,103,104,105,106,107,108,109,110,111,112,113,114,115,116,117,118,119,120,121,122]
def dgE (x:Int) (j:Nat):Int:=(hexD2.getD (x / 16 ^ j % 16).toNat 0).toNat
def dgs (x:Int) (j:Nat):Str:=(List.range (j+1)).map fun i=>hexD2.getD (x / 16 ^ (j - i) % 16).toNat 0
theorem dgs_len (x:Int) (j:Nat):(dgs x j).length=j+1:=by simp [dgs]
theorem dgs_at (x:Int) (j i:Nat) (h:i<j+1):(((dgs x j).getD i 0).toNat:Int)=dgE x (j - i):=by simp [dgs,dgE,List.getD,h]
theorem u64_div {x:Int} (h:U64 x) (j:Nat):U64 (x / 16 ^ j):=by
 have h1:(0:Int)<16 ^ j:=Int.pow_pos (by decide);exact ⟨Int.ediv_nonneg h.1 (Int.le_of_lt h1),Int.le_trans (Int.ediv_le_self _ h.1) h.2⟩
theorem div_step {x:Int} (h:U64 x) (j:Nat):(x / 16 ^ j).fdiv (2 ^ (min (Int.toNat 4) IntKind.u64.bits))=x / 16 ^ (j+1):=by
 rw [Int.fdiv_eq_ediv_of_nonneg _ (by decide),show (2:Int) ^ (min (Int.toNat 4) IntKind.u64.bits)=16 from rfl,Int.ediv_ediv_of_nonneg (Int.le_of_lt (Int.pow_pos (by decide))),<-Int.pow_succ]
theorem dg_set (x:Int) (j:Nat) (hj:j<=15) (k:Nat) (hk:k=64 - j) (c:Int) (hc:c=dgE x j) (i:Nat) :
 D.ite (i=k) (.int .u8 c) (.int .u8 (if 65 - j<=i then dgE x (64 - i) else 0)) = .int .u8 (if 65 - (j+1)<=i then dgE x (64 - i) else 0):=by
 show D.int .u8 (if i=k then c else if 65 - j<=i then dgE x (64 - i) else 0)=_
 subst hc hk
 congr 1
 by_cases h:i=64 - j
 ·rw [if_pos h,if_pos (by omega),show 64 - i=j by omega]
 ·rw [if_neg h];by_cases h2:65 - j<=i
  ·rw [if_pos h2,if_pos (by omega)]
  ·rw [if_neg h2,if_neg (by omega)]
theorem fbits_ct (x:Int) (hx:U64 x) (tz:Cr 246 [u64 16] (i64 4)):Ct Tryz.prog 180 [.nil,u64 x,i64 16,.lit false,.lit false] fun r outs=>∃ j:Nat,(j<=15/\x / 16 ^ j<16)/\r = .tup [.nil,.str (dgs x j)]/\outs = []:=by
 refine .some (De Tryz.func180 [] [] ?_)
 repeat' first|refine S0 ?_;conv=>whnf|with_reducible refine Br.tt ?_|refine B0 ?_|(refine M0 ispow_ct ?_)|(refine M0 tz ?_)|(refine Wr.u64 ?_ ?_;omega)|refine Br.swap ?_|refine K0 ?_
 refine Lw [] [] (α:=Nat) (fun j=>[(0,.nil),(1,u64 (x / 16 ^ j)),(3,.lit false),(4,.lit false),(10,.nil),(11,.str []),(12,.loc 0 0),(13,i64 (65 - (j:Int))),(14,u64 4),(15,u64 16),(16,u64 15)]) (fun j=>[(0,.vec 65 fun k=>.int .u8 (if 65 - j<=k then dgE x (64 - k) else 0))]) 1 (fun j=>j<=15) (fun j=>16 - j) ?_ ?_
 ·refine Again.by 0 (zle _) ?_
  repeat' first|refine S0 ?_;conv=>whnf|refine Vo ?_|exact T0|(exact fun i hi=>⟨by dsimp only;rw [if_neg (by omega)],rfl⟩)|refine Vm ?_ ?_
 ·intro j hj;have hd:=u64_div hx j;have ha:=and15 _ hd
  have h15:16<=x / 16 ^ j->j<=14:=fun h=>by
   refine Classical.byContradiction fun hn=>?_
   obtain rfl:j=15:=by omega
   have:=Int.mul_ediv_self_le (x:=x) (k:=16 ^ 15) (by decide);have:=hx.2
   have e:(16:Int) ^ 15=1152921504606846976:=by decide
   rw [e] at *;omega
  repeat' first|refine S0 ?_;conv=>whnf|refine Vo ?_|refine W6 ?_|(rw [ha];exact ⟨by omega,by show _<(36:Int);omega⟩)|(exact ⟨hd.1,by show _<(36:Int);omega⟩)|(show 0+_*1<65;omega)|(refine Br.d (fun h=>?_) fun h=>?_)|refine Vm ?_ ?_
  ·refine Again.by (j+1) ⟨by have:=h15 ‹_›;omega,by omega⟩ ?_
   repeat' first|refine S0 ?_;conv=>whnf|refine Vo ?_|exact T0|(exact div_step hx j)|(exact fun i hi=>⟨dg_set x j hj _ (by show 0+_*1=_;omega) _ (by rw [ha];rfl) i,rfl⟩)|refine Vm ?_ ?_
  ·exact ⟨by omega,fun i hi=>rfl⟩
  ·refine Lf.by (dgs x j) ⟨by rw [dgs_len];omega,fun i hi=>?_⟩ ?_
   ·have hk:i<j+1:=by omega
    rw [dgs_at x j i hk];have:=dg_set x j hj (0+(65 - (j:Int) - 1).toNat*1) (by omega) ((hexD2.getD (x / 16 ^ j).toNat 0).toNat:Int) (by unfold dgE;rw [Int.emod_eq_of_lt hd.1 (by omega)]) ((65 - (j:Int) - 1).toNat+i);refine (congrArg (fun d=>[d]) this).trans ?_;rw [if_pos (by omega),show 64 - ((65 - (j:Int) - 1).toNat+i)=j - i by omega]
   ·repeat' first|refine S0 ?_;conv=>whnf
    refine Lf.by j ⟨hj,by omega⟩ ?_
    repeat' first|refine S0 ?_;conv=>whnf|exact T0|refine T2 ?_ ?_
theorem tab_named:Tryz.prog.globalNamed "math/bits.deBruijn64tab" = some (Kx.laysTz_ren.g 1):=by kernel_rfl
theorem tz_ct:Cr 246 [u64 16] (i64 4):=by
 refine Ct.lib (vs:=[.int .u64 (16:Nat)]) ⟨Tryz.f246,Tryz.func246,by decide,by decide⟩ rfl (fun _=>⟨rfl,rfl⟩) fun w hl=>?_
 refine (Any7.bits_TrailingZeros Kx.laysTz 16 (by decide) w fun _ j hj=>?_).mono ?_
 ·obtain ⟨h1,_,ty,p,h3⟩:=hl ("math/bits.deBruijn64tab",.u8,Lib.deBruijn64tab) (List.mem_cons_self ..) _ tab_named;rw [cell?_at];unfold cellAt;rw [h3];simp [List.getD,hj]
 ·rintro e w' ⟨rfl,rfl⟩
  exact ⟨by rw [show Lib.ctz 64 16=4 from by decide +kernel];rfl,below_same rfl⟩
theorem fuint_ct (x:Int) (hx:U64 x):Ct Tryz.prog 255 [u64 x,i64 16] fun r outs=>∃ j:Nat,(j<=15/\x / 16 ^ j<16)/\r = .str (dgs x j)/\outs = []:=by
 refine .some (De Tryz.func255 [] [] ?_)
 repeat' first|refine S0 ?_;conv=>whnf|refine B0 ?_|(refine Met.by (fbits_ct x hx tz_ct) ?_;rintro q outs ⟨j,hj,rfl,rfl⟩)|refine K0 ?_
 refine Lf.by j hj ?_
 repeat' first|refine S0 ?_;conv=>whnf|exact T0|refine T2 ?_ ?_
theorem fuint2_ct (x:Int) (hx:U64 x):Ct Tryz.prog 194 [u64 x,i64 16] fun r outs=>∃ j:Nat,(j<=15/\x / 16 ^ j<16)/\r = .str (dgs x j)/\outs = []:=by
 refine .some (De Tryz.func194 [] [] ?_)
 repeat' first|refine S0 ?_;conv=>whnf|(refine Met.by (fuint_ct x hx) ?_;rintro q outs ⟨j,hj,rfl,rfl⟩)|refine K0 ?_
 refine Lf.by j hj ?_
 repeat' first|refine S0 ?_;conv=>whnf|exact T0|refine T2 ?_ ?_
theorem repeat_ct (n:Nat) (hn:n<=100):Cr 195 [.str [48],i64 n] (.str (List.replicate n 48)):=by
 refine Ct.lib (vs:=[.string ⟨#[48]⟩,.int .i64 n]) ⟨Tryz.f195,Tryz.func195,by decide,by decide⟩ rfl (fun _=>⟨rfl,rfl⟩) fun w _=>?_
 refine (Kx.strings_Repeat ⟨#[48]⟩ n w (by omega) (by show 1*n<=_;omega)).mono ?_
 rintro e w' ⟨rfl,hb⟩
 refine ⟨?_,hb⟩
 have:∀ n,Lib.repeatL [48] n=List.replicate n (48:UInt8):=fun n=>by
  induction n with
  | zero=>rfl
  | succ n ih=>rw [Lib.repeatL,ih];rfl
 show Ending.returned (.string ⟨(Lib.repeatL [48] n).toArray⟩)=_
 rw [this]
theorem repeat_at (n:Nat) (hn:n<=100) (m:Int) (hm:m=n):Cr 195 [.str [48],i64 m] (.str (List.replicate n 48)):=hm ▸ repeat_ct n hn
def hex16 (x:Int):Str:=(List.range 16).map fun i=>hexD2.getD (x / 16 ^ (15 - i) % 16).toNat 0
theorem hex16_is {x:Int} (hx:U64 x) {j:Nat} (hj:j<=15) (h:x / 16 ^ j<16):List.replicate (15 - j) 48 ++ dgs x j=hex16 x:=by
 apply List.ext_getElem?;intro i;by_cases h1:i<15 - j
 ·rw [List.getElem?_append_left (by simp;omega),List.getElem?_replicate,if_pos h1]
  have hz:x / 16 ^ (15 - i)=0:=by
   have hp:(0:Int)<16 ^ j:=Int.pow_pos (by decide);rw [show 15 - i=j+1+(14 - i - j) by omega,Int.pow_add,<-Int.ediv_ediv_of_nonneg (Int.le_of_lt (Int.pow_pos (by decide))),Int.pow_succ,<-Int.ediv_ediv_of_nonneg (Int.le_of_lt hp)];have:=(u64_div hx j).1;rw [show x / 16 ^ j / 16=0 by omega,Int.zero_ediv]
  simp only [hex16,List.getElem?_map,List.getElem?_range (show i<16 by omega),Option.map_some,hz];rfl
 ·rw [List.getElem?_append_right (by simp;omega),List.length_replicate];by_cases h2:i<16
  ·simp only [hex16,dgs,List.getElem?_map,List.getElem?_range (show i<16 by omega),List.getElem?_range (show i - (15 - j)<j+1 by omega),Option.map_some,show j - (i - (15 - j))=15 - i by omega]
  ·rw [List.getElem?_eq_none (by rw [dgs_len];omega),List.getElem?_eq_none (by simp [hex16];omega)]
end Kx
