/-
  Dates: the program's and the reference's functions.
  No condition beyond those written in each theorem.
-/
import Derived.Test.YtjommlbfjnifmaaGreatDoorKA4
import Derived.Test.YtjommlbfjnifmaaGreatDoorKA1
import Derived.Test.YtjommlbfjnifmaaGreatDoorFD
set_option linter.unusedSimpArgs false
set_option linter.unusedVariables false
set_option maxRecDepth 4000
open Go Sx Go.Proofs
namespace Kx
def dnum (s:Str):Int:=s.foldl (fun n x=>10*n+((x.toNat:Int) - 48)) 0
def pnum (s:Str):Int:=if s.all isDig=true then dnum s else -1
theorem dnum_step {s:Str} {i:Nat} (h:i<s.length):dnum (s.take (i+1))=10*dnum (s.take i)+(((s.getD i 0).toNat:Int) - 48):=by
 unfold dnum;rw [List.take_add_one,List.foldl_append];simp [List.getElem?_eq_getElem h]
theorem digs_step {s:Str} {i:Nat} (h:i<s.length):(s.take (i+1)).all isDig=((s.take i).all isDig && isDig (s.getD i 0)):=by
 rw [List.take_add_one,List.all_append];simp [List.getElem?_eq_getElem h]
theorem digs_no {s:Str} {i:Nat} (h:i<s.length) (hx:isDig (s.getD i 0)=false):¬s.all isDig=true:=fun ha=>by
 rw [List.all_eq_true] at ha;have:=ha (s.getD i 0) (getD_in h);rw [hx] at this;cases this
theorem isDig_is {x:UInt8}:isDig x=true ↔ 48<=x.toNat/\x.toNat<=57:=by
 unfold isDig;simp [UInt8.le_iff_toNat_le];omega
theorem dnum_bd:∀ (n:Nat) (s:Str),s.length<=n->s.all isDig=true->0<=dnum s/\dnum s<10 ^ n:=by
 intro n
 induction n with
 | zero =>
   intro s h _;have:s = []:=List.length_eq_zero_iff.1 (by omega);subst this;decide
 | succ n ih =>
   intro s h ha
   rcases Nat.eq_zero_or_pos s.length with h0 | h0
   ·have:s = []:=List.length_eq_zero_iff.1 h0;subst this;refine ⟨by decide,?_⟩;have:(0:Int)<10 ^ (n+1):=Int.pow_pos (by decide);exact this
   ·have e:s=s.take (s.length - 1+1):=by rw [List.take_of_length_le (by omega)]
    have h1:(s.take (s.length - 1)).all isDig=true:=by
     rw [List.all_eq_true] at ha ⊢
     exact fun x hx=>ha x (List.mem_of_mem_take hx)
    have h2:=ih _ (by rw [List.length_take];omega) h1;have h3:isDig (s.getD (s.length - 1) 0)=true:=(List.all_eq_true.1 ha) _ (getD_in (by omega));rw [isDig_is] at h3;rw [e,dnum_step (by omega)]
    have h4:(10:Int) ^ (n+1)=10*10 ^ n:=by rw [Int.pow_succ];omega
    rw [h4];omega
theorem dnum_take {s:Str} {i:Nat} (hs:s.length<=10) (h:(s.take i).all isDig=true):0<=dnum (s.take i)/\dnum (s.take i)<10000000000 :=
 dnum_bd 10 _ (by rw [List.length_take];omega) h
theorem number_ct' (s:Str) (hs:s.length<=10):Cr 263 [.str s] (i64 (pnum s)):=by
 refine .det (De Tryz.func263 [] [] ?_)
 repeat' first|refine S0 ?_;conv=>whnf
 refine Lw [] [] (α:=Nat) (fun i=>[(0,.str s),(3,i64 (dnum (s.take i))),(6,i64 s.length),(7,i64 i)]) (fun i=>[]) 0 (fun i=>i<=s.length/\(s.take i).all isDig=true) (fun i=>s.length - i) ?_ ?_
 ·refine Again.by 0 ⟨zle _,rfl⟩ ?_
  repeat' first|refine S0 ?_;conv=>whnf|refine Vo ?_|exact T0|(rfl)|refine Vm ?_ ?_
 ·intro i ⟨hi,hd⟩;have hb:=dnum_take hs hd
  have hno:=fun (h:i<s.length) (hx:¬(48<=(s.getD i 0).toNat/\(s.getD i 0).toNat<=57))=>digs_no h (by rw [<-Bool.not_eq_true,isDig_is];exact hx)
  repeat' first|refine S0 ?_;conv=>whnf|refine Vo ?_|exact T0|refine W6 ?_|refine W8 ?_|(refine Br.d (fun h=>?_) fun h=>?_)|refine Br.swap ?_|refine T2 ?_ ?_
  all_goals try simp only [tnc] at *
  ·rw [pnum,if_neg (hno (by omega) (by omega))]
  ·rw [pnum,if_neg (hno (by omega) (by omega))]
  ·refine Again.by (i+1) ⟨⟨by omega,by rw [digs_step (by omega),hd,Bool.true_and,isDig_is];omega⟩,by omega⟩ ?_
   have hst:=dnum_step (s:=s) (i:=i) (by omega)
   repeat' first|refine S0 ?_;conv=>whnf|refine Vo ?_|exact T0
  ·have e:s.take i=s:=by rw [List.take_of_length_le (by omega)]
   rw [e] at hd ⊢;rw [pnum,if_pos hd]
def leapB (y:Int):Bool:=decide (y.tmod 4=0) && (!decide (y.tmod 100=0) || decide (y.tmod 400=0))
def daysM (y m:Int):Int:=if m=2 then (if leapB y=true then 29 else 28) else if m=4\/m=6\/m=9\/m=11 then 30 else 31
def validD (y m d:Int):Bool:=decide (1800<=y/\y<=2199/\1<=m/\m<=12/\1<=d/\d<=daysM y m)
theorem leap_ct (y:Int):Cr 296 [i64 y] (.bool (leapB y)):=by
 refine .det (De Tryz.func296 [] [] ?_)
 repeat' first|refine S0 ?_;conv=>whnf|refine Vo ?_|exact T0|(refine Br.d (fun h=>?_) fun h=>?_)|refine Br.swap ?_|refine Br.bnot ?_|refine T2 ?_ ?_
 all_goals simp [leapB, *]
theorem days_ct (y m:Int) (h1:1<=m) (h2:m<=12):Cr 279 [i64 y,i64 m] (i64 (daysM y m)):=by
 have hm:m=1\/m=2\/m=3\/m=4\/m=5\/m=6\/m=7\/m=8\/m=9\/m=10\/m=11\/m=12:=by omega
 rcases hm with rfl | rfl | rfl | rfl | rfl | rfl | rfl | rfl | rfl | rfl | rfl | rfl
 all_goals
  refine .det (De Tryz.func279 [] [] ?_)
  repeat' first|refine S0 ?_;conv=>whnf|refine Vo ?_|exact T0|refine W6 ?_|refine B1 ?_|refine B0 ?_|(refine Bm (fun h=>?_) fun h=>?_)|refine T2 ?_ ?_|refine K0 ?_|(refine M0 (g:=296) (leap_ct _) ?_)
 all_goals simp [daysM, *]
def dtD (y m d:Int):D:=.agg [i64 y,i64 m,i64 d]
theorem dvalid_ct (y m d:Int):Cr 261 [dtD y m d] (.bool (validD y m d)):=by
 refine .det (De Tryz.func261 ord261 [] ?_)
 repeat' first|refine S0 ?_;conv=>whnf|exact T0|(refine Br.d (fun h=>?_) fun h=>?_)|refine T2 ?_ ?_|refine K1 ?_|(refine M0 (g:=279) (days_ct _ _ (by omega) (by omega)) ?_)
 all_goals (simp [validD, *];try omega)
theorem dvalid_is (y m d:Int) (v:Bool) (h:validD y m d=v):Cr 261 [dtD y m d] (.bool v):=h ▸ dvalid_ct y m d
def pk (b:Bool) (x:Int):Int:=match b with
 | true=>x| false=>0
def ern (b:Bool) (e:Int):Int:=match b with
 | true=>0| false=>e
theorem made_ct (a b c:Str) (ha:a.length<=10) (hb:b.length<=10) (hc:c.length<=10) (v:Bool) (hv:validD (pnum a) (pnum b) (pnum c)=v):Cr 229 [.str a,.str b,.str c] (.tup [dtD (pk v (pnum a)) (pk v (pnum b)) (pk v (pnum c)),i64 (ern v 4)]):=by
 cases v
 all_goals
  refine .det (De Tryz.func229 [] [] ?_)
  repeat' first|refine S0 ?_;conv=>whnf|exact T0|with_reducible refine Br.tt ?_|with_reducible refine Br.ff ?_|(refine M0 (dvalid_is _ _ _ _ hv) ?_)|refine Br.bnot ?_|refine T2 ?_ ?_|refine K0 ?_|(refine M0 (g:=263) (number_ct' _ (by first | omega | decide | (simp;done) | (simp;omega))) ?_)
 all_goals rfl
def parts3 (s:Str):Option (Str × Str × Str) :=
 if s.length=10 then
  if (s.getD 4 0).toNat=45/\(s.getD 7 0).toNat=45 then some (s.take 4,(s.take 7).drop 5,(s.take s.length).drop 8)
  else if (s.getD 2 0).toNat=46/\(s.getD 5 0).toNat=46 then some ((s.take s.length).drop 6,(s.take 5).drop 3,s.take 2)
  else if (s.getD 2 0).toNat=47/\(s.getD 5 0).toNat=47 then some ((s.take s.length).drop 6,s.take 2,(s.take 5).drop 3)
  else none
 else none
def dateOf (s:Str):Option (Int × Int × Int):=match parts3 s with
 | some (a,b,c)=>if validD (pnum a) (pnum b) (pnum c)=true then some (pnum a,pnum b,pnum c) else none
 | none=>none
def dt0:Option (Int × Int × Int)->Int × Int × Int
 | some x=>x| none=>(0,0,0)
theorem dateOf_fin {s a b c:Str} (h:parts3 s=some (a,b,c)):pk (validD (pnum a) (pnum b) (pnum c)) (pnum a)=(dt0 (dateOf s)).1/\pk (validD (pnum a) (pnum b) (pnum c)) (pnum b)=(dt0 (dateOf s)).2.1/\pk (validD (pnum a) (pnum b) (pnum c)) (pnum c)=(dt0 (dateOf s)).2.2/\ern (validD (pnum a) (pnum b) (pnum c)) 4=ern (dateOf s).isSome 4:=by
 unfold dateOf;rw [h];dsimp only
 cases validD (pnum a) (pnum b) (pnum c)
 ·exact ⟨rfl,rfl,rfl,rfl⟩
 ·exact ⟨rfl,rfl,rfl,rfl⟩
theorem dateOf_no {s:Str} (h:parts3 s=none):0=(dt0 (dateOf s)).1/\0=(dt0 (dateOf s)).2.1/\0=(dt0 (dateOf s)).2.2/\4=ern (dateOf s).isSome 4:=by
 unfold dateOf;rw [h];exact ⟨rfl,rfl,rfl,rfl⟩
theorem p_dash {s:Str} (h:(s.length:Int)=10) (h1:((s.getD 4 0).toNat:Int)=45) (h2:((s.getD 7 0).toNat:Int)=45):parts3 s=some (s.take 4,(s.take 7).drop 5,(s.take s.length).drop 8):=by
 rw [parts3,if_pos (by omega),if_pos (by omega)]
theorem p_dot {s:Str} (h:(s.length:Int)=10) (n:¬(((s.getD 4 0).toNat:Int)=45/\((s.getD 7 0).toNat:Int)=45)) (h1:((s.getD 2 0).toNat:Int)=46) (h2:((s.getD 5 0).toNat:Int)=46):parts3 s=some ((s.take s.length).drop 6,(s.take 5).drop 3,s.take 2):=by
 rw [parts3,if_pos (by omega),if_neg (by omega),if_pos (by omega)]
theorem p_bar {s:Str} (h:(s.length:Int)=10) (n:¬(((s.getD 4 0).toNat:Int)=45/\((s.getD 7 0).toNat:Int)=45)) (h1:((s.getD 2 0).toNat:Int)=47) (h2:((s.getD 5 0).toNat:Int)=47):parts3 s=some ((s.take s.length).drop 6,s.take 2,(s.take 5).drop 3):=by
 rw [parts3,if_pos (by omega),if_neg (by omega),if_neg (by omega),if_pos (by omega)]
theorem p_no {s:Str} (h:¬(s.length:Int)=10\/(¬(((s.getD 4 0).toNat:Int)=45/\((s.getD 7 0).toNat:Int)=45)/\¬(((s.getD 2 0).toNat:Int)=46/\((s.getD 5 0).toNat:Int)=46)/\¬(((s.getD 2 0).toNat:Int)=47/\((s.getD 5 0).toNat:Int)=47))):parts3 s=none:=by
 rw [parts3];by_cases h0:s.length=10
 ·rw [if_pos h0,if_neg (by omega),if_neg (by omega),if_neg (by omega)]
 ·rw [if_neg h0]
theorem parse_cases (s:Str) :
 (parts3 s=none/\¬(s.length:Int)=10) \/
 ((s.length:Int)=10/\((((s.getD (Int.toNat 4) 0).toNat:Int)=45/\((s.getD (Int.toNat 7) 0).toNat:Int)=45)/\parts3 s=some (s.take 4,(s.take 7).drop 5,(s.take s.length).drop 8) \/
   (¬((s.getD (Int.toNat 4) 0).toNat:Int)=45\/¬((s.getD (Int.toNat 7) 0).toNat:Int)=45) /\
    ((((s.getD (Int.toNat 2) 0).toNat:Int)=46/\((s.getD (Int.toNat 5) 0).toNat:Int)=46)/\parts3 s=some ((s.take s.length).drop 6,(s.take 5).drop 3,s.take 2) \/
     (((s.getD (Int.toNat 2) 0).toNat:Int)=47/\((s.getD (Int.toNat 5) 0).toNat:Int)=47)/\parts3 s=some ((s.take s.length).drop 6,s.take 2,(s.take 5).drop 3) \/
     (¬((s.getD (Int.toNat 2) 0).toNat:Int)=46\/¬((s.getD (Int.toNat 5) 0).toNat:Int)=46)/\(¬((s.getD (Int.toNat 2) 0).toNat:Int)=47\/¬((s.getD (Int.toNat 5) 0).toNat:Int)=47)/\parts3 s=none))):=by
 by_cases h:(s.length:Int)=10
 ·refine .inr ⟨h,?_⟩;by_cases h1:((s.getD (Int.toNat 4) 0).toNat:Int)=45/\((s.getD (Int.toNat 7) 0).toNat:Int)=45
  ·exact .inl ⟨h1,p_dash h h1.1 h1.2⟩
  ·refine .inr ⟨by omega,?_⟩;by_cases h2:((s.getD (Int.toNat 2) 0).toNat:Int)=46/\((s.getD (Int.toNat 5) 0).toNat:Int)=46
   ·exact .inl ⟨h2,p_dot h h1 h2.1 h2.2⟩
   ·by_cases h3:((s.getD (Int.toNat 2) 0).toNat:Int)=47/\((s.getD (Int.toNat 5) 0).toNat:Int)=47
    ·exact .inr (.inl ⟨h3,p_bar h h1 h3.1 h3.2⟩)
    ·exact .inr (.inr ⟨by omega,by omega,p_no (.inr ⟨h1,h2,h3⟩)⟩)
 ·exact .inl ⟨p_no (.inl h),h⟩
theorem parse_ct (s:Str):Cr 227 [.str s] (.tup [dtD (dt0 (dateOf s)).1 (dt0 (dateOf s)).2.1 (dt0 (dateOf s)).2.2,i64 (ern (dateOf s).isSome 4)]):=by
 rcases parse_cases s with ⟨hp,h⟩ | ⟨h,⟨⟨h1,h2⟩,hp⟩ | ⟨hn,⟨⟨h1,h2⟩,hp⟩ | ⟨⟨h1,h2⟩,hp⟩ | ⟨h1,h2,hp⟩⟩⟩
 ·have e:=dateOf_no hp;refine .det (De Tryz.func227 ord227 [] ?_)
  repeat' first|refine S0 ?_;conv=>whnf|exact T0|refine B0 ?_|refine Br.bnot ?_|refine T2 ?_ ?_
  all_goals first
   | exact e.1
   | exact e.2.1
   | exact e.2.2.1
   | exact e.2.2.2
 ·have e:=dateOf_fin hp;refine .det (De Tryz.func227 ord227 [] ?_)
  repeat' first|refine S0 ?_;conv=>whnf|refine Vo ?_|exact T0|refine B1 ?_|(refine M0 (made_ct _ _ _ (by simp;omega) (by simp;omega) (by simp;omega) _ rfl) ?_)|refine Br.bnot ?_|refine T2 ?_ ?_|refine K1 ?_
  all_goals first
   | exact e.1
   | exact e.2.1
   | exact e.2.2.1
   | exact e.2.2.2
 ·have e:=dateOf_fin hp;refine .det (De Tryz.func227 ord227 [] ?_)
  repeat' first|refine S0 ?_;conv=>whnf|refine Vo ?_|exact T0|refine B1 ?_|refine B0 ?_|(refine M0 (made_ct _ _ _ (by simp;omega) (by simp;omega) (by simp;omega) _ rfl) ?_)|(refine Br.d (fun h=>?_) fun h=>?_)|refine Br.bnot ?_|refine T2 ?_ ?_|refine K1 ?_
  all_goals first
   | exact e.1
   | exact e.2.1
   | exact e.2.2.1
   | exact e.2.2.2
 ·have e:=dateOf_fin hp;refine .det (De Tryz.func227 ord227 [] ?_)
  repeat' first|refine S0 ?_;conv=>whnf|refine Vo ?_|exact T0|refine B1 ?_|refine B0 ?_|(refine M0 (made_ct _ _ _ (by simp;omega) (by simp;omega) (by simp;omega) _ rfl) ?_)|(refine Br.d (fun h=>?_) fun h=>?_)|refine Br.bnot ?_|refine T2 ?_ ?_|refine K1 ?_
  all_goals first
   | exact e.1
   | exact e.2.1
   | exact e.2.2.1
   | exact e.2.2.2
 ·have e:=dateOf_no hp;refine .det (De Tryz.func227 ord227 [] ?_)
  repeat' first|refine S0 ?_;conv=>whnf|refine Vo ?_|exact T0|refine B1 ?_|refine B0 ?_|(refine Br.d (fun h=>?_) fun h=>?_)|refine Br.bnot ?_|refine T2 ?_ ?_
  all_goals first
   | exact e.1
   | exact e.2.1
   | exact e.2.2.1
   | exact e.2.2.2
end Kx
open Go Sx Go.Proofs
namespace Kx
def sX (a b:Int):Int:=bitI .xor .u64 a b
def sA (a b:Int):Int:=IntKind.u64.wrap (a+b)
def sOr (a b:Int):Int:=bitI .or .u64 a b
def rotN (n:Int):Int:=bitI .and .u64 (IntKind.u64.wrap n) 63
def rotS (x n:Int):Int:=sOr (IntKind.u64.wrap (x*2 ^ (min (rotN n).toNat IntKind.u64.bits))) (x.fdiv (2 ^ (min (IntKind.u64.wrap (64 - rotN n)).toNat IntKind.u64.bits)))
structure S4 where
 a:Int
 b:Int
 c:Int
 d:Int
def S4.ls (s:S4):List D:=[u64 s.a,u64 s.b,u64 s.c,u64 s.d]
def rnd (s:S4):S4 :=
 let a1:=sA s.a s.b
 let b1:=sX (rotS s.b 13) a1
 let a2:=rotS a1 32
 let c1:=sA s.c s.d
 let d1:=sX (rotS s.d 16) c1
 let a3:=sA a2 d1
 let d2:=sX (rotS d1 21) a3
 let c2:=sA c1 b1
 let b2:=sX (rotS b1 17) c2
 ⟨a3,b2,rotS c2 32,d2⟩
def rnds (s:S4):Nat->S4
 | 0=>s| n+1=>rnd (rnds s n)
def wrd (s:S4) (m:Int):S4 :=
 let t:=rnds ⟨s.a,s.b,s.c,sX s.d m⟩ 2
 ⟨sX t.a m,t.b,t.c,t.d⟩
def numS (s:Str):Nat->Int
 | 0=>0| i+1=>sOr (numS s i) (IntKind.u64.wrap (IntKind.u64.wrap ((s.getD i 0).toNat:Int)*2 ^ (min (8*(i:Int)).toNat IntKind.u64.bits)))
def eat (s:Str) (t:S4):Nat->S4
 | 0=>t| j+1=>wrd (eat s t j) (numS (s.drop (8*j)) 8)
def sip0 (k:Int × Int):S4:=⟨sX k.1 8317987319222330741,sX k.2 7237128888997146477,sX k.1 7816392313619706465,sX k.2 8387220255154660723⟩
def sipEnd (t:S4) (m:Int):Int :=
 let u:=wrd t m
 let v:=rnds ⟨u.a,u.b,sX u.c 255,u.d⟩ 4
 sX (sX (sX v.a v.b) v.c) v.d
def sLast (n:Int):Int:=IntKind.u64.wrap (IntKind.u64.wrap n*2 ^ (min (56:Int).toNat IntKind.u64.bits))
def sip (k:Int × Int) (s:Str):Int :=
 sipEnd (eat s (sip0 k) (s.length / 8)) (sOr (numS (s.drop (8*(s.length / 8))) (s.length % 8)) (sLast s.length))
theorem bit_in (op:BinOp) (x y:Int):0<=bitI op .u64 x y/\bitI op .u64 x y<=18446744073709551615:=by
 unfold bitI
 split<;>exact wu_in _
theorem sip_in (k:Int × Int) (s:Str):0<=sip k s/\sip k s<=18446744073709551615:=by
 unfold sip sipEnd sX;exact bit_in _ _ _
theorem rot_ct (x n:Int):Cr 301 [u64 x,i64 n] (u64 (rotS x n)):=by
 refine .det (De Tryz.func301 [] [] ?_)
 repeat' first|refine S0 ?_;conv=>whnf|exact T0|refine Wr.raw ?_|(refine Vc.om (bit_in _ _ _).1 ?_)|(refine Vc.om (wu_in _).1 ?_)|refine T2 ?_ ?_
 all_goals rfl
theorem rounds_ct (s:S4) (n:Nat) (hn:n<=100):Ct Tryz.prog 287 [.fbox s.ls,i64 n] fun r outs=>r = .tup []/\outs = [.fbox (rnds s n).ls]:=by
 refine .det (De Tryz.func287 ord287 [] ?_)
 repeat' first|refine S0 ?_;conv=>whnf
 refine Lw ord287 [] (α:=Nat) (fun i=>[(0,.loc 0 0),(4,i64 n),(5,i64 i)]) (fun i=>[(0,.var (rnds s i).ls)]) 1 (fun i=>i<=n) (fun i=>n - i) ?_ ?_
 ·refine Again.by 0 (zle _) ?_
  repeat' first|refine S0 ?_;conv=>whnf|refine Vo ?_|exact T0|(rfl)|refine Vm ?_ ?_
 ·intro i hi;generalize hx:rnds s i=x
  have hy:rnds s (i+1)=rnd x:=by rw [<-hx];rfl
  repeat' first|refine S0 ?_;conv=>whnf|exact T0|refine W6 ?_|refine Wr.raw ?_|(refine Br.d (fun h=>?_) fun h=>?_)|refine T2 ?_ ?_|refine K0 ?_|refine K1 ?_|(refine M0 (g:=301) (rot_ct _ _) ?_)
  ·refine Again.by (i+1) ⟨by omega,by omega⟩ ?_
   rw [hy]
   repeat' first|refine S0 ?_;conv=>whnf|refine Vo ?_|exact T0|(rfl)|refine Vm ?_ ?_
  all_goals
   obtain rfl:n=i:=by omega
   rw [hx]
theorem rounds_is (s:S4) (n:Nat) (hn:n<=100) (t:S4) (ht:rnds s n=t):Ct Tryz.prog 287 [.fbox s.ls,i64 n] fun r outs=>r = .tup []/\outs = [.fbox t.ls]:=ht ▸ rounds_ct s n hn
theorem wrd_is (s:S4) (m:Int) (t:S4) (ht:rnds ⟨s.a,s.b,s.c,sX s.d m⟩ 2=t):Ct Tryz.prog 285 [.fbox s.ls,u64 m] fun r outs=>r = .tup []/\outs = [.fbox [u64 (sX t.a m),u64 t.b,u64 t.c,u64 t.d]]:=by
 refine .det (De Tryz.func285 [] [] ?_)
 repeat' first|refine S0 ?_;conv=>whnf|exact T0|(refine M0 (rounds_is ⟨s.a,s.b,s.c,sX s.d m⟩ 2 (by decide) t ht) ?_)|refine T2 ?_ ?_|(refine CallOK.io1 (g:=287) (Step.out ?_))
 all_goals rfl
theorem wrd_ct (s:S4) (m:Int) (u:S4) (hu:wrd s m=u):Ct Tryz.prog 285 [.fbox s.ls,u64 m] fun r outs=>r = .tup []/\outs = [.fbox u.ls]:=by
 obtain ⟨t,ht⟩:∃ t,rnds ⟨s.a,s.b,s.c,sX s.d m⟩ 2=t:=⟨_,rfl⟩;have:=wrd_is s m t ht
 have e:u=⟨sX t.a m,t.b,t.c,t.d⟩:=by rw [<-hu,<-ht];rfl
 rw [e];exact this
theorem wrd_at (s:S4) (m:Int) (u:S4) (hu:wrd s m=u):Ct Tryz.prog 285 [.fbox [.int .u64 s.a,.int .u64 s.b,.int .u64 s.c,.int .u64 s.d],.int .u64 m] fun r outs=>r = .tup []/\outs = [.fbox u.ls]:=wrd_ct s m u hu
theorem num_ct (s:Str) (n:Nat) (hn:n<=s.length) (h8:n<=8):Cr 286 [.tab 1 n (bytesF s)] (u64 (numS s n)):=by
 refine .det (De Tryz.func286 [] [] ?_)
 repeat' first|refine S0 ?_;conv=>whnf
 refine Lw [] [] (α:=Nat) (fun i=>[(3,u64 (numS s i)),(6,.tab 1 n (bytesF s)),(7,i64 n),(8,i64 i)]) (fun i=>[]) 0 (fun i=>i<=n) (fun i=>n - i) ?_ ?_
 ·refine Again.by 0 (zle _) ?_
  repeat' first|refine S0 ?_;conv=>whnf|refine Vo ?_|exact T0|(rfl)|refine Vm ?_ ?_
 ·intro i hi
  repeat' first|refine S0 ?_;conv=>whnf|refine Vo ?_|exact T0|refine W6 ?_|refine Wr.raw ?_|(refine Br.d (fun h=>?_) fun h=>?_)|refine T2 ?_ ?_
  ·refine Again.by (i+1) ⟨by omega,by omega⟩ ?_
   repeat' first|refine S0 ?_;conv=>whnf|refine Vo ?_|exact T0|refine Vm ?_ ?_
   simp only [tnc];rfl
  ·rw [show i=n by omega]
theorem num_at {m:Nat} {f:Nat->List D} (w:Str) (n:Nat) (h1:n<=w.length) (h8:n<=8) (hm:m=n) (hf:∀ i,f i=bytesF w i) (x:Int) (hx:numS w n=x):Cr 286 [.tab 1 m f] (u64 x) :=
 hx ▸ (num_ct w n h1 h8).arg ⟨rfl,⟨hm,fun i _=>hf i⟩,trivial⟩
theorem bytes_drop (s:Str) (j:Nat) (i:Nat):bytesF (s.drop (8*j)) (8+i)=bytesF (s.drop (8*(j+1))) i:=by
 unfold bytesF;simp only [gDe,List.getElem?_drop];rw [show 8*j+(8+i)=8*(j+1)+i by omega]
theorem sum_ct (k:Int × Int) (s:Str) (hs:s.length<=1000000):Cr 267 [.agg [u64 k.1,u64 k.2],.tab 1 s.length (bytesF s)] (u64 (sip k s)):=by
 refine .det (De Tryz.func267 [] [] ?_)
 repeat' first|refine S0 ?_;conv=>whnf|refine Vo ?_|refine Wr.raw ?_
 refine Lw [] [] (α:=Nat) (fun j=>[(1,.tab 1 (s.length - 8*j) (bytesF (s.drop (8*j)))),(5,.loc 0 0),(6,u64 (sLast s.length))]) (fun j=>[(0,.var (eat s (sip0 k) j).ls)]) 1 (fun j=>8*j<=s.length) (fun j=>s.length - j) ?_ ?_
 ·refine Again.by 0 (zle _) ?_
  repeat' first|refine S0 ?_;conv=>whnf|exact T0|(exact ⟨rfl,fun _ _=>rfl⟩)|(rfl)|refine Vm ?_ ?_
 ·intro j hj;obtain ⟨x,hx⟩:∃ x,eat s (sip0 k) j=x:=⟨_,rfl⟩;obtain ⟨w,hw⟩:∃ w,s.drop (8*j)=w:=⟨_,rfl⟩;obtain ⟨r,hr⟩:∃ r,s.length - 8*j=r:=⟨_,rfl⟩;obtain ⟨m8,h8⟩:∃ m,numS w 8=m:=⟨_,rfl⟩;obtain ⟨mr,hmr⟩:∃ m,numS w r=m:=⟨_,rfl⟩;obtain ⟨y,hy⟩:∃ y,wrd x m8=y:=⟨_,rfl⟩;obtain ⟨u,hu⟩:∃ u,wrd x (sOr mr (sLast s.length))=u:=⟨_,rfl⟩;obtain ⟨v,hv⟩:∃ v,rnds ⟨u.a,u.b,sX u.c 255,u.d⟩ 4=v:=⟨_,rfl⟩
  have hl:w.length=r:=by rw [<-hw,List.length_drop,hr]
  have hs1:8<=r->eat s (sip0 k) (j+1)=y:=fun _=>by rw [<-hy,<-h8,<-hx,<-hw];rfl
  have hs2:r<8->sX (sX (sX v.a v.b) v.c) v.d=sip k s:=fun h=>by
   have e1:s.length / 8=j:=by omega
   have e2:s.length % 8=r:=by omega
   unfold sip sipEnd;rw [e1,e2,hw,hx,hmr,hu];dsimp only;rw [hv]
  have hb:=bytes_drop s j;rw [hw] at hb;rw [hx,hw,hr]
  repeat' first|refine S0 ?_;conv=>whnf|refine Vo ?_|exact T0|(refine M0 (num_at w 8 (by omega) (by omega) (by decide) (fun i=>congrArg (bytesF w) (Nat.zero_add i)) m8 h8) ?_)|(refine M0 (num_at w r (by omega) (by omega) rfl (fun i=>rfl) mr hmr) ?_)|(with_reducible refine Met.by (wrd_at x m8 y hy) ?_;rintro q outs ⟨rfl,rfl⟩)|(refine M0 (wrd_ct x (sOr mr (sLast s.length)) u hu) ?_)|(refine M0 (rounds_is ⟨u.a,u.b,sX u.c 255,u.d⟩ 4 (by decide) v hv) ?_)|(refine Br.d (fun h=>?_) fun h=>?_)|refine T2 ?_ ?_|(refine CallOK.io1 (g:=285) (Step.out ?_))|(refine CallOK.io1 (g:=287) (Step.out ?_))|refine K0 ?_
  ·refine Again.by (j+1) ⟨by omega,by omega⟩ ?_
   rw [hs1 (by omega)]
   repeat' first|refine S0 ?_;conv=>whnf|refine Vo ?_|exact T0|(exact ⟨by simp;omega,fun i _=>by simpa using hb i⟩)|refine Vm ?_ ?_
  ·exact hs2 (by omega)
def hdS (t:Str):Str:=[UInt8.ofNat (t.length / 256),UInt8.ofNat (t.length % 256)] ++ t
def partsB (l:List Str):Str:=l.flatMap hdS
theorem partsB_step {l:List Str} {i:Nat} (h:i<l.length):partsB (l.take (i+1))=partsB (l.take i) ++ hdS (l.getD i []):=by
 unfold partsB;rw [take_step l [] i h,List.flatMap_append];simp
theorem partsB_len:∀ (l:List Str) (n:Nat),(∀ t ∈ l,t.length<=n)->(partsB l).length<=(n+2)*l.length
 | [],_,_=>by simp [partsB]
 | t :: l,n,h=>by
   have h1:=partsB_len l n fun u hu=>h u (by simp [hu])
   have h2:=h t (by simp);have e:partsB (t :: l)=hdS t ++ partsB l:=rfl;rw [e];simp only [hdS,lap,List.length_cons,List.length_nil,Nat.mul_add,Nat.mul_one];omega
theorem hd_at (x y:Int) (a b:UInt8) (hx:x=(a.toNat:Int)) (hy:y=(b.toNat:Int)) (i:Nat) (hi:i<2):selC [[D.int .u8 x],[D.int .u8 y]] i=bytesF [a,b] i:=by
 subst hx hy
 match i with
 | 0=>rfl| 1=>rfl| n+2=>omega
theorem hd_hi (n:Nat) (h:n<=9000):IntKind.u8.wrap ((n:Int).fdiv (2 ^ min (Int.toNat 8) IntKind.i64.bits))=((UInt8.ofNat (n / 256)).toNat:Int):=by
 have e:(n:Int).fdiv (2 ^ min (Int.toNat 8) IntKind.i64.bits)=((n / 256:Nat):Int):=by
  show (n:Int).fdiv 256=_
  rw [Int.fdiv_eq_ediv_of_nonneg _ (by decide)];omega
 rw [e,w8 _ (by omega)]
 have:(UInt8.ofNat (n / 256)).toNat=n / 256:=by rw [UInt8.toNat_ofNat'];omega
 omega
theorem hd_lo (n:Nat):IntKind.u8.wrap (n:Int)=((UInt8.ofNat (n % 256)).toNat:Int):=by
 have:(UInt8.ofNat (n % 256)).toNat=n % 256:=by rw [UInt8.toNat_ofNat'];omega
 rw [this];simp only [IntKind.wrap,IntKind.signed,IntKind.bits,Bool.false_and];simp
theorem hd_app (o t:Str) (x y:Int) (f:Nat->List D) (hx:x=((UInt8.ofNat (t.length / 256)).toNat:Int)) (hy:y=((UInt8.ofNat (t.length % 256)).toNat:Int)) (u:Str) (hu:u=t) (w:Str) (hw:w=o ++ hdS t) :
 o.length+2+u.length=w.length/\∀ i,i<w.length->iteL (i<o.length+2) (iteL (i<o.length) (bytesF o i) (selC [[D.int .u8 x],[D.int .u8 y]] (i - o.length))) (bytesF u (i - (o.length+2)))=bytesF w i:=by
 subst hu hw;have h2:=bytes_app (o ++ [UInt8.ofNat (u.length / 256),UInt8.ofNat (u.length % 256)]) u;have h1:=bytes_app o [UInt8.ofNat (u.length / 256),UInt8.ofNat (u.length % 256)]
 have e:o ++ hdS u=o ++ [UInt8.ofNat (u.length / 256),UInt8.ofNat (u.length % 256)] ++ u:=by simp [hdS]
 rw [e]
 have el:(o ++ [UInt8.ofNat (u.length / 256),UInt8.ofNat (u.length % 256)]).length=o.length+2:=by simp
 rw [el] at h1 h2;refine ⟨h2.1,fun i hi=>?_⟩;rw [<-h2.2 i hi];by_cases hc:i<o.length+2
 ·have k:=h1.2 i hc
  have e1:iteL (i<o.length) (bytesF o i) (selC [[D.int .u8 x],[D.int .u8 y]] (i - o.length))=bytesF (o ++ [UInt8.ofNat (u.length / 256),UInt8.ofNat (u.length % 256)]) i:=by
   rw [<-k];by_cases hd:i<o.length
   ·rw [iteL_same rfl,iteL_same rfl,if_pos hd,if_pos hd]
   ·rw [hd_at x y _ _ hx hy _ (by omega)]
  rw [e1]
 ·rw [iteL_same rfl,if_neg hc,iteL_same rfl,if_neg hc]
theorem cut_all (t:Str) (h:t.length<=9000):List.drop (Int.toNat 0) (List.take (min (t.length:Int) 65535).toNat t)=t:=by
 rw [show (min (t.length:Int) 65535).toNat=t.length by omega,List.take_length];rfl
theorem parts_ct (k:Int × Int) (l:List Str) (hl:l.length<=100) (ht:∀ t ∈ l,t.length<=9000):Cr 236 [.agg [u64 k.1,u64 k.2],strs l] (u64 (sip k (partsB l))):=by
 have hp:=partsB_len l 9000 ht;refine .det (De Tryz.func236 [] [] ?_)
 repeat' first|refine S0 ?_;conv=>whnf
 refine Lw [] [] (α:=Nat) (fun i=>[(2,.loc 0 0),(5,.own 1),(8,strs l),(9,i64 l.length),(10,i64 i)]) (fun i=>[(0,.var [u64 k.1,u64 k.2]),(1,.arr 5 1 (partsB (l.take i)).length (bytesF (partsB (l.take i))))]) 2 (fun i=>i<=l.length) (fun i=>l.length - i) ?_ ?_
 ·refine Again.by 0 (zle _) ?_
  repeat' first|refine S0 ?_;conv=>whnf|refine Vo ?_|exact T0|(rfl)|refine Vm ?_ ?_
 ·intro i hi
  have hx:=fun h:(i:Int)<l.length=>ht (l.getD (i:Int).toNat []) (getD_in (by omega))
  have hq:=partsB_len (l.take i) 9000 fun t h=>ht t (List.mem_of_mem_take h)
  rw [List.length_take] at hq
  repeat' first|refine S0 ?_;conv=>whnf|refine Vo ?_|refine Vb ?_|exact T0|exact noSh_int _ _|refine W6 ?_|refine Wr.raw ?_|(refine Vc.om ?_ ?_;focus ((rw [cut_all _ (hx (by omega))];have:=hx (by omega);omega);done))|(refine M0 (sum_ct k (partsB (l.take i)) (by omega)) ?_)|(refine Br.d (fun h=>?_) fun h=>?_)|refine T2 ?_ ?_|refine K0 ?_|refine Vm ?_ ?_
  ·refine Again.by (i+1) ⟨by omega,by omega⟩ ?_
   have hy:=hx (by omega);have hst:=partsB_step (l:=l) (i:=i) (by omega)
   repeat' first|refine S0 ?_;conv=>whnf|refine Vo ?_|exact T0|(exact hd_app _ _ _ _ (fun _=>[]) (by rw [cut_all _ hy];exact hd_hi _ hy) (by rw [cut_all _ hy];exact hd_lo _) _ (cut_all _ hy) _ hst)|refine Vm ?_ ?_
  ·rw [List.take_of_length_le (by omega)]
theorem parts2_ct (k:Int × Int) (a b:Str) (ha:a.length<=9000) (hb:b.length<=9000):Cr 236 [.agg [u64 k.1,u64 k.2],.tab 1 2 fun i=>selC [[.str a],[.str b]] i] (u64 (sip k (partsB [a,b]))) :=
 Ct.lit2 [a,b] ⟨rfl,rfl,rfl,trivial⟩ (parts_ct k [a,b] (by simp) (by simp;omega))
def keyD (k:Int × Int) (t:Str):Int × Int:=(sip k (partsB [t,[97]]),sip k (partsB [t,[98]]))
theorem derive_ct (k:Int × Int) (t:Str) (ht:t.length<=9000):Cr 204 [.agg [u64 k.1,u64 k.2],.str t] (.agg [u64 (keyD k t).1,u64 (keyD k t).2]):=by
 refine .det (De Tryz.func204 ord204 [] ?_)
 repeat' first|refine S0 ?_;conv=>whnf|exact T0|exact noSh_int _ _|(refine M0 (parts2_ct k t [97] ht (by decide)) ?_)|(refine M0 (parts2_ct k t [98] ht (by decide)) ?_)|refine T2 ?_ ?_|refine K1 ?_|refine Vm ?_ ?_
 all_goals rfl
end Kx
open Go Sx Go.Proofs
namespace Kx
def dg (n:Int):UInt8:=UInt8.ofNat (48+n.toNat)
def putS (n:Int):Nat->Str
 | 0=>[]| k+1=>putS (n / 10) k ++ [dg (n % 10)]
def bytesO (s:Str):D:=.ftab 5 1 s.length (bytesF s)
theorem dg_is (n:Int) (h0:0<=n) (h:n<=9):((dg n).toNat:Int)=48+n:=by
 unfold dg;rw [UInt8.toNat_ofNat'];omega
theorem putS_len:∀ (k:Nat) (n:Int),(putS n k).length=k
 | 0,_=>rfl
 | k+1,n=>by simp [putS,putS_len k]
theorem byS_bytes (u:Str):ByS u.length (bytesF u) u:=⟨rfl,fun _ _=>rfl⟩
theorem put_nil (k:Nat):∀ (n:Int),0<=n->n<=1000000->k<=8->Cr 262 [.nil,i64 n,i64 k] (bytesO (putS n k)):=by
 induction k with
 | zero =>
   intro n h0 h1 hk;refine .det (De Tryz.func262 [] [] ?_)
   repeat' first|refine S0 ?_;conv=>whnf|exact T0|refine B1 ?_|refine T2 ?_ ?_
   rfl
 | succ k ih =>
   intro n h0 h1 hk
   have ih:∀ m:Int,m=(k:Int)->Cr 262 [.nil,i64 (n / 10),i64 m] (bytesO (putS (n / 10) k)):=by
    rintro _ rfl
    exact ih (n / 10) (by omega) (by omega) (by omega)
   have hl:=putS_len k (n / 10);refine .det (De Tryz.func262 [] [] ?_)
   repeat' first|(rw [Int.tdiv_eq_ediv_of_nonneg (by omega)])|(rw [Int.tmod_eq_emod_of_nonneg (by omega)])|refine S0 ?_;conv=>whnf|refine Vo ?_|refine Vb ?_|exact T0|refine W6 ?_|refine W8 ?_|refine B0 ?_|(refine CallOK.gv (g:=262) (Step.out ?_))|(refine M0 (ih _ (by omega)) ?_)|refine T2 ?_ ?_
   exact byte_app _ _ (by rw [dg_is (n % 10) (by omega) (by omega)])
theorem put_own (o:Str) (h1o:1<=o.length) (ho:o.length<=100) (k:Nat):∀ (n:Int),0<=n->n<=1000000->k<=8->Cr 262 [bytesO o,i64 n,i64 k] (bytesO (o ++ putS n k)):=by
 induction k with
 | zero =>
   intro n h0 h1 hk;rw [show o ++ putS n 0=o from List.append_nil o];refine .det (De Tryz.func262 [] [] ?_)
   repeat' first|refine S0 ?_;conv=>whnf|exact T0|exact T1|refine B1 ?_|refine T2 ?_ ?_
 | succ k ih =>
   intro n h0 h1 hk
   have ih:∀ m:Int,m=(k:Int)->Cr 262 [bytesO o,i64 (n / 10),i64 m] (bytesO (o ++ putS (n / 10) k)):=by
    rintro _ rfl
    exact ih (n / 10) (by omega) (by omega) (by omega)
   have hl:=putS_len k (n / 10)
   have hl2:(o ++ putS (n / 10) k).length=o.length+k:=by rw [lap,hl]
   rw [show o ++ putS n (k+1)=(o ++ putS (n / 10) k) ++ [dg (n % 10)] by simp [putS]];refine .det (De Tryz.func262 [] [] ?_)
   repeat' first|(rw [Int.tdiv_eq_ediv_of_nonneg (by omega)])|(rw [Int.tmod_eq_emod_of_nonneg (by omega)])|refine S0 ?_;conv=>whnf|refine Vo ?_|refine Vb ?_|exact T0|refine W6 ?_|refine W8 ?_|refine B0 ?_|(refine CallOK.gv (g:=262) (Step.out ?_))|(refine M0 (ih _ (by omega)) ?_)|refine T2 ?_ ?_
   exact byte_app _ _ (by rw [dg_is (n % 10) (by omega) (by omega)])
def fmtD (y m d:Int):Str:=putS y 4 ++ putS m 2 ++ putS d 2
theorem validD_is {y m d:Int} (h:validD y m d=true):1800<=y/\y<=2199/\1<=m/\m<=12/\1<=d/\d<=31:=by
 have:=of_decide_eq_true h
 have hd:daysM y m<=31:=by
  unfold daysM
  (repeat' split)<;>omega
 omega
theorem format_ct (y m d:Int) (h:validD y m d=true):Cr 228 [dtD y m d] (.tup [.str (fmtD y m d),i64 0]):=by
 have hb:=validD_is h;have h1:=put_nil 4 y (by omega) (by omega) (by omega);have h2:=put_own (putS y 4) (by rw [putS_len];omega) (by rw [putS_len];omega) 2 m (by omega) (by omega) (by omega)
 have l2:(putS y 4 ++ putS m 2).length=6:=by rw [lap,putS_len,putS_len]
 have h3:=put_own (putS y 4 ++ putS m 2) (by omega) (by omega) 2 d (by omega) (by omega) (by omega);refine .det (De Tryz.func228 ord228 [] ?_)
 repeat' first|refine S0 ?_;conv=>whnf|exact T0|with_reducible refine Br.tt ?_|(refine M0 (dvalid_is _ _ _ _ h) ?_)|(refine CallOK.gv (g:=262) (Step.out ?_))|(refine M0 h1 ?_)|(refine M0 h2 ?_)|(refine M0 h3 ?_)|(refine Lf.by _ (byS_bytes _) ?_)|refine Br.bnot ?_|refine T2 ?_ ?_|refine K0 ?_
 all_goals rfl
def rdB (s:Str):Bool:=decide (s.length=8) && validD (pnum (s.take 4)) (pnum ((s.take 6).drop 4)) (pnum ((s.take s.length).drop 6))
theorem read_ct (s:Str):Ct Tryz.prog 193 [.str s] fun r outs=>∃ y m d,True/\r = .tup [dtD y m d,i64 (ern (rdB s) 4)]/\outs = []:=by
 refine .some3 (De Tryz.func193 ord193 [] ?_);by_cases h:s.length=8
 ·have e:rdB s=validD (pnum (s.take 4)) (pnum ((s.take 6).drop 4)) (pnum ((s.take s.length).drop 6)):=by rw [rdB,decide_eq_true h,Bool.true_and]
  repeat' first|refine S0 ?_;conv=>whnf|refine Vo ?_|refine B1 ?_|(refine M0 (made_ct _ _ _ (by simp;omega) (by simp;omega) (by simp;omega) _ rfl) ?_)|refine Br.bnot ?_|refine K1 ?_
  all_goals refine Lf3.by (pk (rdB s) (pnum (s.take 4))) (pk (rdB s) (pnum ((s.take 6).drop 4))) (pk (rdB s) (pnum ((s.take s.length).drop 6))) trivial ?_
  all_goals rw [e]
  all_goals
   repeat' first|refine S0 ?_;conv=>whnf|exact T0|refine T2 ?_ ?_
  all_goals rfl
 ·have e:rdB s=false:=by rw [rdB,decide_eq_false h,Bool.false_and]
  repeat' first|refine S0 ?_;conv=>whnf|refine B0 ?_|refine Br.bnot ?_
  all_goals refine Lf3.by 0 0 0 trivial ?_
  all_goals rw [e]
  all_goals
   repeat' first|refine S0 ?_;conv=>whnf|exact T0|refine T2 ?_ ?_
  all_goals rfl
theorem ern_true (b:Bool):decide (ern b 4=0)=b:=by cases b<;>rfl
theorem isdate_ct (r:Ru) (s:Str):Cr 192 [ruD r,.str s] (.bool (rdB s)):=by
 refine .det (De Tryz.func192 [] [] ?_)
 repeat' first|refine S0 ?_;conv=>whnf|exact T0|refine T2 ?_ ?_|refine K0 ?_|(refine Met.by (g:=193) (read_ct _) ?_;rintro q outs ⟨y,m,d,_,rfl,rfl⟩)
 exact ern_true _
def dayO (s:Str):Str:=match dateOf s with
 | some x=>fmtD x.1 x.2.1 x.2.2| none=>[]
def dayE (s:Str):Int:=ern (dateOf s).isSome 4
theorem dateOf_valid {s:Str} {x:Int × Int × Int} (h:dateOf s=some x):validD x.1 x.2.1 x.2.2=true:=by
 unfold dateOf at h;split at h
 ·split at h
  ·rw [<-Option.some.inj h];assumption
  ·cases h
 ·cases h
theorem day_ct (r:Ru) (s:Str):Cr 191 [ruD r,.str s] (.tup [.str (dayO s),i64 (dayE s)]):=by
 have hp:=parse_ct s;unfold dayO dayE
 cases h:dateOf s with
 | none =>
   rw [h] at hp;refine .det (De Tryz.func191 [] [] ?_)
   repeat' first|refine S0 ?_;conv=>whnf|exact T0|(refine M0 hp ?_)|(refine Br.d (fun h=>?_) fun h=>?_)|refine Br.bnot ?_|refine T2 ?_ ?_|refine K0 ?_
 | some x =>
   rw [h] at hp;simp only [dt0,Option.isSome_some,ern] at hp ⊢;refine .det (De Tryz.func191 [] [] ?_)
   repeat' first|refine S0 ?_;conv=>whnf|exact T0|refine B1 ?_|(refine M0 hp ?_)|(refine M0 (format_ct x.1 x.2.1 x.2.2 (dateOf_valid h)) ?_)|refine Br.bnot ?_|refine T2 ?_ ?_|refine K0 ?_
end Kx
open Go Sx Go.Proofs
namespace Kx
end Kx
open Go Sx Go.Proofs
namespace Kx
abbrev Fd:=Str × Int
def fdF (x:Fd):List D:=[.str x.1,i64 x.2]
def fdsN (l:List Fd) (n:Nat):D:=.tab 2 n fun i=>fdF (l.getD i ([],0))
structure Sc where
 f:List Fd
 r:Ru
def Sc.l (s:Sc):List D:=[fdsN s.f s.f.length,strs s.r.t,prs s.r.n,prs s.r.s]
def Sc.d (s:Sc):D:=.agg s.l
def wordB (s:Str):Bool:=decide (s≠[]) && (decide (s.length<=12) && decide (lettersS s=s))
structure Sc.ok (s:Sc):Prop where
 n1:1<=s.f.length
 n5:s.f.length<=5
 w:∀ x ∈ s.f,wordB x.1=true
 nd:∀ i j,i<j->j<s.f.length->(s.f.getD i ([],0)).1≠(s.f.getD j ([],0)).1
 k:∀ x ∈ s.f,1<=x.2/\x.2<=4
 ro:Ru.ok s.r
 re:checkE s.r=0
def Sc.kind (s:Sc) (i:Nat):Int:=(s.f.getD i ([],0)).2
theorem Sc.ok.kd {s:Sc} (h:s.ok) {i:Nat} (hi:i<s.f.length):1<=s.kind i/\s.kind i<=4:=h.k _ (getD_in hi)
theorem sword_ct (s:Str):Cr 64 [.str s] (.bool (wordB s)):=by
 refine .det (De Tryz.func64 [] [] ?_)
 repeat' first|refine S0 ?_;conv=>whnf|exact T0|(refine Br.d (fun h=>?_) fun h=>?_)|refine Br.bnot ?_|refine T2 ?_ ?_|refine K0 ?_|(refine M0 (g:=110) (lettersS_ct _ (by first | omega | decide | (simp;done) | (simp;omega))) ?_)
 ·rw [wordB,decide_eq_false (show ¬s≠[] from fun e=>e h)];rfl
 ·rw [wordB,decide_eq_true (show s≠[] from ‹_›),decide_eq_true (show s.length<=12 by omega)];rfl
 ·rw [wordB,decide_eq_false (show ¬s.length<=12 by omega),Bool.false_and,Bool.and_false]
theorem named_ct (x y:Fd):Cr 63 [.agg (fdF x),.ref (fdF y)] (.bool (decide (x.1=y.1))):=by
 refine .det (De Tryz.func63 [] [] ?_)
 repeat' first|refine S0 ?_;conv=>whnf|exact T0|refine T2 ?_ ?_
theorem indexfd_ct (l:List Fd) (n:Nat) (hn:n<=1000) (y:Fd) (hno:∀ j,j<n->(l.getD j ([],0)).1≠y.1):Cr 109 [fdsN l n,.fn 63 [.ref (fdF y)]] (i64 (-1)):=by
 refine .det (De Tryz.func109 [] [] ?_)
 repeat' first|refine S0 ?_;conv=>whnf
 refine Lw [] [] (α:=Nat) (fun i=>[(0,fdsN l n),(1,.fn 63 [.ref (fdF y)]),(7,i64 n),(8,i64 i)]) (fun i=>[]) 0 (fun i=>i<=n) (fun i=>n - i) ?_ ?_
 ·refine Again.by 0 (zle _) ?_
  repeat' first|refine S0 ?_;conv=>whnf|refine Vo ?_|exact T0|refine Cho.r ?_
 ·intro i hi
  repeat' first|refine S0 ?_;conv=>whnf|refine Vo ?_|exact T0|refine W6 ?_|(refine M0 (named_ct _ _) ?_)|(refine Br.d (fun h=>?_) fun h=>?_)|refine T2 ?_ ?_|refine K0 ?_
  all_goals try simp only [tnc] at *
  ·exact absurd h (hno i (by omega))
  ·refine Again.by (i+1) ⟨by omega,by omega⟩ ?_
   repeat' first|refine S0 ?_;conv=>whnf|refine Vo ?_|exact T0|refine Cho.r ?_
theorem containsfd_ct (l:List Fd) (n:Nat) (hn:n<=1000) (y:Fd) (hno:∀ j,j<n->(l.getD j ([],0)).1≠y.1):Cr 62 [fdsN l n,.fn 63 [.ref (fdF y)]] (.bool false):=by
 refine .det (De Tryz.func62 [] [] ?_)
 repeat' first|refine S0 ?_;conv=>whnf|exact T0|(refine M0 (indexfd_ct l n hn y hno) ?_)|refine T2 ?_ ?_|refine K0 ?_
theorem containsfd_at (l:List Fd) (n:Nat) (hn:n<=1000) (m:Nat) (hm:m=n) (f:Nat->List D) (hf:∀ i,f i=fdF (l.getD i ([],0))) (y:Fd) (hno:∀ j,j<n->(l.getD j ([],0)).1≠y.1):Cr 62 [.tab 2 m f,.fn 63 [.ref (fdF y)]] (.bool false) :=
 (containsfd_ct l n hn y hno).arg ⟨rfl,⟨hm,fun i _=>hf i⟩,⟨rfl,⟨rfl,rfl,trivial⟩,trivial⟩,trivial⟩
theorem scheck_ct (s:Sc) (hs:s.ok):Cr 26 [s.d] (i64 0):=by
 have h1:=hs.n1;have h5:=hs.n5;have hro:=hs.ro;have hre:=hs.re;refine .det (De Tryz.func26 [] [] ?_)
 repeat' first|refine S0 ?_;conv=>whnf|refine B0 ?_|refine Br.swap ?_
 refine Lw [] [] (α:=Nat) (fun i=>[(1,.loc 0 0),(17,fdsN s.f s.f.length),(18,i64 s.f.length),(19,i64 i)]) (fun i=>[(0,.var s.l)]) 1 (fun i=>i<=s.f.length) (fun i=>s.f.length - i) ?_ ?_
 ·refine Again.by 0 (zle _) ?_
  repeat' first|refine S0 ?_;conv=>whnf|refine Vo ?_|exact T0
 ·intro i hi
  have hw:=fun hi:i<s.f.length=>hs.w _ (getD_in (z:=([],0)) hi)
  have hk:=fun hi:i<s.f.length=>hs.k _ (getD_in (z:=([],0)) hi)
  repeat' first|refine S0 ?_;conv=>whnf|refine Vo ?_|exact T0|exact noSh_bool _|refine W6 ?_|with_reducible refine Br.ff ?_|(refine M0 (containsfd_at s.f i (by omega) _ (by omega) _ (fun _=>congrArg (fun k=>fdF (s.f.getD k ([],0))) (Nat.zero_add _)) (s.f.getD i ([],0)) (fun j hj=>hs.nd j i hj (by omega))) ?_)|(refine Br.d (fun h=>?_) fun h=>?_)|refine Br.swap ?_|refine Br.bnot ?_|(refine Bm (fun h=>?_) fun h=>?_)|refine T2 ?_ ?_|refine K0 ?_|(refine M0 (g:=64) (sword_ct _) ?_)|(refine M0 (g:=65) (check_ct _ (by assumption)) ?_)|refine Vm ?_ ?_
  all_goals try simp only [tnc] at *
  ·have:=hk (by omega);omega
  ·have:=hk (by omega);omega
  ·refine Again.by (i+1) ⟨by omega,by omega⟩ ?_
   repeat' first|refine S0 ?_;conv=>whnf|refine Vo ?_|exact T0
  ·rw [hw (by omega)] at h;cases h
  all_goals exact hre
def kindF:Nat->List D
 | 1=>[.str [110,97,109,101],.fn 188 [],.fn 189 [],.fn 190 []]| 2=>[.str [100,97,116,101],.fn 191 [],.fn 192 [],.fn 194 []]| 3=>[.str [99,111,100,101],.fn 195 [],.fn 197 [],.fn 199 []]| 4=>[.str [97,100,100,114,101,115,115],.fn 200 [],.fn 201 [],.fn 190 []]| _=>[.str [],.nilfn,.nilfn,.nilfn]
def kc (j i:Nat):D:=(kindF i).getD j .any
def kindL (i:Nat):List D:=[kc 0 i,kc 1 i,kc 2 i,kc 3 i]
def kindsL:List D:=kindL 0 ++ kindL 1 ++ kindL 2 ++ kindL 3 ++ kindL 4
theorem kinds_ct:Cr 153 [] (.agg kindsL):=by
 refine .det (De Tryz.func153 [] [] ?_)
 repeat' first|refine S0 ?_;conv=>whnf|refine Vo ?_|exact T0|refine T2 ?_ ?_
 all_goals rfl
theorem find_kind (s:Sc) (hs:s.ok) (i:Nat) (hi:i<s.f.length) (k:Nat) (hk:s.kind i=(k:Int)):Cr 100 [s.d,i64 i] (.tup [.agg (kindL k),i64 0]):=by
 have h4:=hs.kd hi
 have hk4:k=1\/k=2\/k=3\/k=4:=by omega
 have hk' : (s.f.getD (i:Int).toNat ([],0)).2=(k:Int):=hk
 rcases hk4 with rfl | rfl | rfl | rfl
 all_goals
  refine .det (De Tryz.func100 ord100 [] ?_)
  repeat' first|refine S0 ?_;conv=>whnf|refine Vo ?_|exact T0|refine B1 ?_|refine B0 ?_|(refine Lf.by _ hk' ?_)|refine Br.swap ?_|refine Br.bnot ?_|refine T2 ?_ ?_|refine K0 ?_|refine K1 ?_|(refine M0 (g:=26) (scheck_ct _ (by assumption)) ?_)|(refine M0 (g:=153) (kinds_ct) ?_)
theorem code2_ct (r:Ru) (x:Str) (hx:x.length<=10000):Cr 195 [ruD r,.str x] (.tup [.str (codeO x),i64 (codeE x)]):=by
 refine .det (De Tryz.func195 [] [] ?_)
 repeat' first|refine S0 ?_;conv=>whnf|exact T0|(refine M0 (code_ct x hx) ?_)|refine T2 ?_ ?_|refine K0 ?_
theorem normed3_ct (r:Ru) (x:Str) (hx:x.length<=10000):Cr 197 [ruD r,.str x] (.bool (codeB x)):=by
 refine .det (De Tryz.func197 [] [] ?_)
 repeat' first|refine S0 ?_;conv=>whnf|exact T0|(refine M0 (normed_ct x hx) ?_)|refine T2 ?_ ?_|refine K0 ?_
def nrmO (r:Ru) (k:Nat) (x:Str):Str:=match k with
 | 1=>normO r x| 2=>dayO x| 3=>codeO x| _=>addrO r x
def nrmE (r:Ru) (k:Nat) (x:Str):Int:=match k with
 | 1=>normE r x| 2=>dayE x| 3=>codeE x| _=>addrE r x
def nrmB (r:Ru) (k:Nat) (x:Str):Bool:=match k with
 | 1=>normB r x| 2=>rdB x| 3=>codeB x| _=>addrB r x
theorem snorm_ct (s:Sc) (hs:s.ok) (i:Nat) (hi:i<s.f.length) (k:Nat) (hk:s.kind i=(k:Int)) (x:Str) (hx:x.length<=10000) (h0:x≠[]):Ct Tryz.prog 55 [s.d,i64 i,.str x] fun r outs=>r = .tup [.str (nrmO s.r k x),i64 (nrmE s.r k x)]/\outs = []:=by
 have h4:=hs.kd hi;have hro:=hs.ro;have hf:=find_kind s hs i hi k hk
 have hk4:k=1\/k=2\/k=3\/k=4:=by omega
 rcases hk4 with rfl | rfl | rfl | rfl
 all_goals
  refine .det (De Tryz.func55 [] [] ?_)
  repeat' first|refine S0 ?_;conv=>whnf|exact T0|refine B1 ?_|refine B0 ?_|(refine M0 hf ?_)|(refine M0 (norm_ct s.r x hro hx) ?_)|(refine M0 (day_ct s.r x) ?_)|(refine M0 (code2_ct s.r x hx) ?_)|(refine M0 (anorm_ct s.r x hro hx) ?_)|refine Br.swap ?_|refine Br.bnot ?_|refine T2 ?_ ?_|refine K0 ?_
 all_goals rfl
theorem snorm0_ct (s:Sc) (hs:s.ok) (i:Nat) (hi:i<s.f.length) (k:Nat) (hk:s.kind i=(k:Int)):Cr 55 [s.d,i64 i,.str []] (.tup [.str [],i64 0]):=by
 have hf:=find_kind s hs i hi k hk;have h4:=hs.kd hi
 have hk4:k=1\/k=2\/k=3\/k=4:=by omega
 rcases hk4 with rfl | rfl | rfl | rfl
 all_goals
  refine .det (De Tryz.func55 [] [] ?_)
  repeat' first|refine S0 ?_;conv=>whnf|exact T0|refine B1 ?_|(refine M0 hf ?_)|(refine Br.dT rfl ?_)|refine Br.swap ?_|refine Br.bnot ?_|refine T2 ?_ ?_|refine K0 ?_
 all_goals rfl
theorem snormal_ct (s:Sc) (hs:s.ok) (i:Nat) (hi:i<s.f.length) (k:Nat) (hk:s.kind i=(k:Int)) (x:Str) (hx:x.length<=10000) (h0:x≠[]):Ct Tryz.prog 155 [s.d,i64 i,.str x] fun r outs=>r = .bool (nrmB s.r k x)/\outs = []:=by
 have h4:=hs.kd hi;have hro:=hs.ro;have hf:=find_kind s hs i hi k hk
 have hk4:k=1\/k=2\/k=3\/k=4:=by omega
 rcases hk4 with rfl | rfl | rfl | rfl
 all_goals
  refine .det (De Tryz.func155 [] [] ?_)
  repeat' first|refine S0 ?_;conv=>whnf|exact T0|refine B1 ?_|refine B0 ?_|(refine M0 hf ?_)|(refine M0 (normal_ct s.r x hro hx) ?_)|(refine M0 (isdate_ct s.r x) ?_)|(refine M0 (normed3_ct s.r x hx) ?_)|(refine M0 (anormal_ct s.r x hro hx) ?_)|refine Br.swap ?_|refine T2 ?_ ?_|refine K0 ?_
 all_goals rfl
theorem snormal0_ct (s:Sc) (hs:s.ok) (i:Nat) (hi:i<s.f.length) (k:Nat) (hk:s.kind i=(k:Int)):Cr 155 [s.d,i64 i,.str []] (.bool true):=by
 have hf:=find_kind s hs i hi k hk;have h4:=hs.kd hi
 have hk4:k=1\/k=2\/k=3\/k=4:=by omega
 rcases hk4 with rfl | rfl | rfl | rfl
 all_goals
  refine .det (De Tryz.func155 [] [] ?_)
  repeat' first|refine S0 ?_;conv=>whnf|exact T0|refine B1 ?_|(refine M0 hf ?_)|(refine Br.dT rfl ?_)|refine Br.swap ?_|refine T2 ?_ ?_|refine K0 ?_
 all_goals rfl
end Kx
open Go Sx Go.Proofs
namespace Kx
end Kx
