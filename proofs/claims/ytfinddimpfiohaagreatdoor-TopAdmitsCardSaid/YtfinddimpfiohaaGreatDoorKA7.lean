/-
  Dates: written.
  No condition beyond those written in each theorem.
-/
import Derived.Test.YtfinddimpfiohaaGreatDoorKA6
import Derived.Test.YtfinddimpfiohaaGreatDoorKA4
import Derived.Test.YtfinddimpfiohaaGreatDoorKA5
import Derived.Test.YtfinddimpfiohaaGreatDoorFD
set_option linter.unusedSimpArgs false
set_option linter.unusedVariables false
set_option maxRecDepth 4000
open Go Sx Go.Proofs
namespace Kx
def dg (n:Int):UInt8:=UInt8.ofNat (48+n.toNat)
def putS (n:Int):Nat->Str
 | 0=>[]| k+1=>putS (n / 10) k ++ [dg (n % 10)]
def bytesO (s:Str):D:=.ftab 5 1 s.length (bytesF s)
theorem dg_is (n:Int) (h0:0<=n) (h:n<=9):((dg n).toNat:Int)=48+n:=by
 unfold dg;rw [UInt8.toNat_ofNat'];omega
theorem putS_len:∀ (k:Nat) (n:Int),(putS n k).length=k
 | 0,_=>rfl
 | k+1,n=>by simp [putS,putS_len k]
theorem byS_bytes (u:Str):ByS u.length (bytesF u) u:=⟨rfl,fun _ _=>rfl⟩
theorem put_nil (k:Nat):∀ (n:Int),0<=n->n<=1000000->k<=8->Cr 310 [.nil,i64 n,i64 k] (bytesO (putS n k)):=by
 induction k with
 | zero =>
   intro n h0 h1 hk;refine .det (De Tryz.func310 [] [] ?_)
   repeat' first|refine S0 ?_;conv=>whnf|exact T0|refine B1 ?_|refine T2 ?_ ?_
   rfl
 | succ k ih =>
   intro n h0 h1 hk
   have ih:∀ m:Int,m=(k:Int)->Cr 310 [.nil,i64 (n / 10),i64 m] (bytesO (putS (n / 10) k)):=by
    rintro _ rfl
    exact ih (n / 10) (by omega) (by omega) (by omega)
   have hl:=putS_len k (n / 10);refine .det (De Tryz.func310 [] [] ?_)
   repeat' first|(rw [Int.tdiv_eq_ediv_of_nonneg (by omega)])|(rw [Int.tmod_eq_emod_of_nonneg (by omega)])|refine S0 ?_;conv=>whnf|refine Vo ?_|refine Vb ?_|exact T0|refine W6 ?_|refine W8 ?_|refine B0 ?_|(refine CallOK.gv (g:=310) (Step.out ?_))|(refine M0 (ih _ (by omega)) ?_)|refine T2 ?_ ?_
   exact byte_app _ _ (by rw [dg_is (n % 10) (by omega) (by omega)])
theorem put_own (o:Str) (h1o:1<=o.length) (ho:o.length<=100) (k:Nat):∀ (n:Int),0<=n->n<=1000000->k<=8->Cr 310 [bytesO o,i64 n,i64 k] (bytesO (o ++ putS n k)):=by
 induction k with
 | zero =>
   intro n h0 h1 hk;rw [show o ++ putS n 0=o from List.append_nil o];refine .det (De Tryz.func310 [] [] ?_)
   repeat' first|refine S0 ?_;conv=>whnf|exact T0|exact T1|refine B1 ?_|refine T2 ?_ ?_
 | succ k ih =>
   intro n h0 h1 hk
   have ih:∀ m:Int,m=(k:Int)->Cr 310 [bytesO o,i64 (n / 10),i64 m] (bytesO (o ++ putS (n / 10) k)):=by
    rintro _ rfl
    exact ih (n / 10) (by omega) (by omega) (by omega)
   have hl:=putS_len k (n / 10)
   have hl2:(o ++ putS (n / 10) k).length=o.length+k:=by rw [lap,hl]
   rw [show o ++ putS n (k+1)=(o ++ putS (n / 10) k) ++ [dg (n % 10)] by simp [putS]];refine .det (De Tryz.func310 [] [] ?_)
   repeat' first|(rw [Int.tdiv_eq_ediv_of_nonneg (by omega)])|(rw [Int.tmod_eq_emod_of_nonneg (by omega)])|refine S0 ?_;conv=>whnf|refine Vo ?_|refine Vb ?_|exact T0|refine W6 ?_|refine W8 ?_|refine B0 ?_|(refine CallOK.gv (g:=310) (Step.out ?_))|(refine M0 (ih _ (by omega)) ?_)|refine T2 ?_ ?_
   exact byte_app _ _ (by rw [dg_is (n % 10) (by omega) (by omega)])
def fmtD (y m d:Int):Str:=putS y 4 ++ putS m 2 ++ putS d 2
theorem validD_is {y m d:Int} (h:validD y m d=true):1800<=y/\y<=2199/\1<=m/\m<=12/\1<=d/\d<=31:=by
 have:=of_decide_eq_true h
 have hd:daysM y m<=31:=by
  unfold daysM
  (repeat' split)<;>omega
 omega
theorem format_ct (y m d:Int) (h:validD y m d=true):Cr 265 [dtD y m d] (.tup [.str (fmtD y m d),i64 0]):=by
 have hb:=validD_is h;have h1:=put_nil 4 y (by omega) (by omega) (by omega);have h2:=put_own (putS y 4) (by rw [putS_len];omega) (by rw [putS_len];omega) 2 m (by omega) (by omega) (by omega)
 have l2:(putS y 4 ++ putS m 2).length=6:=by rw [lap,putS_len,putS_len]
 have h3:=put_own (putS y 4 ++ putS m 2) (by omega) (by omega) 2 d (by omega) (by omega) (by omega);refine .det (De Tryz.func265 ord265 [] ?_)
 repeat' first|refine S0 ?_;conv=>whnf|exact T0|with_reducible refine Br.tt ?_|(refine M0 (dvalid_is _ _ _ _ h) ?_)|(refine CallOK.gv (g:=310) (Step.out ?_))|(refine M0 h1 ?_)|(refine M0 h2 ?_)|(refine M0 h3 ?_)|(refine Lf.by _ (byS_bytes _) ?_)|refine Br.bnot ?_|refine T2 ?_ ?_|refine K0 ?_
 all_goals rfl
def rdB (s:Str):Bool:=decide (s.length=8) && validD (pnum (s.take 4)) (pnum ((s.take 6).drop 4)) (pnum ((s.take s.length).drop 6))
theorem read_ct (s:Str):Ct Tryz.prog 201 [.str s] fun r outs=>∃ y m d,True/\r = .tup [dtD y m d,i64 (ern (rdB s) 4)]/\outs = []:=by
 refine .some3 (De Tryz.func201 ord201 [] ?_);by_cases h:s.length=8
 ·have e:rdB s=validD (pnum (s.take 4)) (pnum ((s.take 6).drop 4)) (pnum ((s.take s.length).drop 6)):=by rw [rdB,decide_eq_true h,Bool.true_and]
  repeat' first|refine S0 ?_;conv=>whnf|refine Vo ?_|refine B1 ?_|(refine M0 (made_ct _ _ _ (by simp;omega) (by simp;omega) (by simp;omega) _ rfl) ?_)|refine Br.bnot ?_|refine K1 ?_
  all_goals refine Lf3.by (pk (rdB s) (pnum (s.take 4))) (pk (rdB s) (pnum ((s.take 6).drop 4))) (pk (rdB s) (pnum ((s.take s.length).drop 6))) trivial ?_
  all_goals rw [e]
  all_goals
   repeat' first|refine S0 ?_;conv=>whnf|exact T0|refine T2 ?_ ?_
  all_goals rfl
 ·have e:rdB s=false:=by rw [rdB,decide_eq_false h,Bool.false_and]
  repeat' first|refine S0 ?_;conv=>whnf|refine B0 ?_|refine Br.bnot ?_
  all_goals refine Lf3.by 0 0 0 trivial ?_
  all_goals rw [e]
  all_goals
   repeat' first|refine S0 ?_;conv=>whnf|exact T0|refine T2 ?_ ?_
  all_goals rfl
theorem ern_true (b:Bool):decide (ern b 4=0)=b:=by cases b<;>rfl
theorem isdate_ct (r:Ru) (s:Str):Cr 200 [ruD r,.str s] (.bool (rdB s)):=by
 refine .det (De Tryz.func200 [] [] ?_)
 repeat' first|refine S0 ?_;conv=>whnf|exact T0|refine T2 ?_ ?_|refine K0 ?_|(refine Met.by (g:=201) (read_ct _) ?_;rintro q outs ⟨y,m,d,_,rfl,rfl⟩)
 exact ern_true _
def dayO (s:Str):Str:=match dateOf s with
 | some x=>fmtD x.1 x.2.1 x.2.2| none=>[]
def dayE (s:Str):Int:=ern (dateOf s).isSome 4
theorem dateOf_valid {s:Str} {x:Int × Int × Int} (h:dateOf s=some x):validD x.1 x.2.1 x.2.2=true:=by
 unfold dateOf at h;split at h
 ·split at h
  ·rw [<-Option.some.inj h];assumption
  ·cases h
 ·cases h
theorem day_ct (r:Ru) (s:Str):Cr 199 [ruD r,.str s] (.tup [.str (dayO s),i64 (dayE s)]):=by
 have hp:=parse_ct s;unfold dayO dayE
 cases h:dateOf s with
 | none =>
   rw [h] at hp;refine .det (De Tryz.func199 [] [] ?_)
   repeat' first|refine S0 ?_;conv=>whnf|exact T0|(refine M0 hp ?_)|(refine Br.d (fun h=>?_) fun h=>?_)|refine Br.bnot ?_|refine T2 ?_ ?_|refine K0 ?_
 | some x =>
   rw [h] at hp;simp only [dt0,Option.isSome_some,ern] at hp ⊢;refine .det (De Tryz.func199 [] [] ?_)
   repeat' first|refine S0 ?_;conv=>whnf|exact T0|refine B1 ?_|(refine M0 hp ?_)|(refine M0 (format_ct x.1 x.2.1 x.2.2 (dateOf_valid h)) ?_)|refine Br.bnot ?_|refine T2 ?_ ?_|refine K0 ?_
end Kx
open Go Sx Go.Proofs
namespace Kx
theorem rdnum_ct (s:Str) (hs:s.length<=10):Cr 350 [.str s] (.tup [i64 (pk (s.all isDig) (dnum s)),.bool (s.all isDig)]):=by
 refine .det (De Tryz.func350 [] [] ?_)
 repeat' first|refine S0 ?_;conv=>whnf
 refine Lw [] [] (α:=Nat) (fun i=>[(0,.str s),(4,i64 (dnum (s.take i))),(5,i64 i)]) (fun i=>[]) 0 (fun i=>i<=s.length/\(s.take i).all isDig=true) (fun i=>s.length - i) ?_ ?_
 ·refine Again.by 0 ⟨zle _,rfl⟩ ?_
  repeat' first|refine S0 ?_;conv=>whnf|refine Vo ?_|exact T0|(rfl)|refine Vm ?_ ?_
 ·intro i ⟨hi,hd⟩;have hb:=dnum_take hs hd
  have hno:=fun (h:i<s.length) (hx:¬(48<=(s.getD i 0).toNat/\(s.getD i 0).toNat<=57))=>digs_no h (by rw [<-Bool.not_eq_true,isDig_is];exact hx)
  repeat' first|refine S0 ?_;conv=>whnf|refine Vo ?_|exact T0|refine W6 ?_|refine W8 ?_|(refine Br.d (fun h=>?_) fun h=>?_)|refine Br.swap ?_|refine T2 ?_ ?_
  all_goals try simp only [tnc] at *
  ·rw [Bool.eq_false_iff.2 (hno (by omega) (by omega))];rfl
  ·rw [Bool.eq_false_iff.2 (hno (by omega) (by omega))]
  ·rw [Bool.eq_false_iff.2 (hno (by omega) (by omega))];rfl
  ·rw [Bool.eq_false_iff.2 (hno (by omega) (by omega))]
  ·refine Again.by (i+1) ⟨⟨by omega,by rw [digs_step (by omega),hd,Bool.true_and,isDig_is];omega⟩,by omega⟩ ?_
   have hst:=dnum_step (s:=s) (i:=i) (by omega)
   repeat' first|refine S0 ?_;conv=>whnf|refine Vo ?_|exact T0
  all_goals
   have e:s.take i=s:=by rw [List.take_of_length_le (by omega)]
   rw [e] at hd;simp only [hd,e,pk]
theorem rlength_ct (y m:Int):Cr 354 [i64 y,i64 m] (i64 (daysM y m)):=by
 refine .det (De Tryz.func354 [] [] ?_)
 repeat' first|refine S0 ?_;conv=>whnf|refine Vo ?_|exact T0|refine B1 ?_|(refine Br.d (fun h=>?_) fun h=>?_)|refine Br.swap ?_|refine Br.bnot ?_|refine T2 ?_ ?_
 all_goals simp [daysM,leapB, *]
theorem rvalid_ct' (y m d:Int):Cr 329 [dtD y m d] (.bool (validD y m d)):=by
 refine .det (De Tryz.func329 ord329 [] ?_)
 repeat' first|refine S0 ?_;conv=>whnf|exact T0|(refine Br.d (fun h=>?_) fun h=>?_)|refine T2 ?_ ?_|refine K1 ?_|(refine M0 (g:=354) (rlength_ct _ _) ?_)
 all_goals (simp [validD, *];try omega)
theorem rvalid_is (y m d:Int) (v:Bool) (h:validD y m d=v):Cr 329 [dtD y m d] (.bool v):=h ▸ rvalid_ct' y m d
theorem valid_pnum {a b c:Str}:validD (pnum a) (pnum b) (pnum c)=(a.all isDig && b.all isDig && c.all isDig && validD (dnum a) (dnum b) (dnum c)):=by
 unfold pnum
 cases ha:a.all isDig
 ·simp [validD]
 ·cases hb:b.all isDig
  ·simp [validD]
  ·cases hc:c.all isDig
   ·simp [validD]
   ·simp
theorem rmade_ct (a b c:Str) (ha:a.length<=10) (hb:b.length<=10) (hc:c.length<=10) (v:Bool) (hv:validD (pnum a) (pnum b) (pnum c)=v):Cr 320 [.str a,.str b,.str c] (.tup [dtD (pk v (pnum a)) (pk v (pnum b)) (pk v (pnum c)),i64 (ern v 4)]):=by
 have hw:=hv;rw [valid_pnum] at hw;have ra:=rdnum_ct a ha;have rb:=rdnum_ct b hb;have rc:=rdnum_ct c hc;unfold pnum
 cases ea:a.all isDig
 all_goals cases eb:b.all isDig
 all_goals cases ec:c.all isDig
 all_goals cases ev:validD (dnum a) (dnum b) (dnum c)
 all_goals
  rw [ea,eb,ec,ev] at hw;rw [ea] at ra;rw [eb] at rb;rw [ec] at rc;subst hw;simp only [pk] at ra rb rc;have hq:=rvalid_is _ _ _ _ ev;refine .det (De Tryz.func320 [] [] ?_)
  repeat' first|refine S0 ?_;conv=>whnf|exact T0|with_reducible refine Br.tt ?_|with_reducible refine Br.ff ?_|(refine M0 ra ?_)|(refine M0 rb ?_)|(refine M0 rc ?_)|(refine M0 hq ?_)|refine Br.swap ?_|refine Br.bnot ?_|refine T2 ?_ ?_|refine K0 ?_
 all_goals rfl
theorem rparse_ct (s:Str):Cr 282 [.str s] (.tup [dtD (dt0 (dateOf s)).1 (dt0 (dateOf s)).2.1 (dt0 (dateOf s)).2.2,i64 (ern (dateOf s).isSome 4)]):=by
 rcases parse_cases s with ⟨hp,h⟩ | ⟨h,⟨⟨h1,h2⟩,hp⟩ | ⟨hn,⟨⟨h1,h2⟩,hp⟩ | ⟨⟨h1,h2⟩,hp⟩ | ⟨h1,h2,hp⟩⟩⟩
 ·have e:=dateOf_no hp;refine .det (De Tryz.func282 ord282 [] ?_)
  repeat' first|refine S0 ?_;conv=>whnf|exact T0|refine B0 ?_|refine Br.bnot ?_|refine T2 ?_ ?_
  all_goals first
   | exact e.1
   | exact e.2.1
   | exact e.2.2.1
   | exact e.2.2.2
 ·have e:=dateOf_fin hp;refine .det (De Tryz.func282 ord282 [] ?_)
  repeat' first|refine S0 ?_;conv=>whnf|refine Vo ?_|exact T0|refine B1 ?_|(refine M0 (rmade_ct _ _ _ (by simp;omega) (by simp;omega) (by simp;omega) _ rfl) ?_)|refine Br.bnot ?_|refine T2 ?_ ?_|refine K1 ?_
  all_goals first
   | exact e.1
   | exact e.2.1
   | exact e.2.2.1
   | exact e.2.2.2
 ·have e:=dateOf_fin hp;refine .det (De Tryz.func282 ord282 [] ?_)
  repeat' first|refine S0 ?_;conv=>whnf|refine Vo ?_|exact T0|refine B1 ?_|refine B0 ?_|(refine M0 (rmade_ct _ _ _ (by simp;omega) (by simp;omega) (by simp;omega) _ rfl) ?_)|(refine Br.d (fun h=>?_) fun h=>?_)|refine Br.bnot ?_|refine T2 ?_ ?_|refine K1 ?_
  all_goals first
   | exact e.1
   | exact e.2.1
   | exact e.2.2.1
   | exact e.2.2.2
 ·have e:=dateOf_fin hp;refine .det (De Tryz.func282 ord282 [] ?_)
  repeat' first|refine S0 ?_;conv=>whnf|refine Vo ?_|exact T0|refine B1 ?_|refine B0 ?_|(refine M0 (rmade_ct _ _ _ (by simp;omega) (by simp;omega) (by simp;omega) _ rfl) ?_)|(refine Br.d (fun h=>?_) fun h=>?_)|refine Br.bnot ?_|refine T2 ?_ ?_|refine K1 ?_
  all_goals first
   | exact e.1
   | exact e.2.1
   | exact e.2.2.1
   | exact e.2.2.2
 ·have e:=dateOf_no hp;refine .det (De Tryz.func282 ord282 [] ?_)
  repeat' first|refine S0 ?_;conv=>whnf|refine Vo ?_|exact T0|refine B1 ?_|refine B0 ?_|(refine Br.d (fun h=>?_) fun h=>?_)|refine Br.bnot ?_|refine T2 ?_ ?_
  all_goals first
   | exact e.1
   | exact e.2.1
   | exact e.2.2.1
   | exact e.2.2.2
theorem two_at (a b:Int) (n:Int) (h0:0<=n) (h1:n<=99) (ha:a=48+n / 10) (hb:b=48+n % 10):ByS 2 (fun i=>selC [[D.int .u8 a],[D.int .u8 b]] i) (putS n 2):=by
 refine ⟨putS_len 2 n,fun i hi=>?_⟩;have e:putS n 2 = [dg (n / 10 % 10),dg (n % 10)]:=rfl;rw [e];have d1:=dg_is (n / 10 % 10) (by omega) (by omega);have d2:=dg_is (n % 10) (by omega) (by omega)
 match i with
 | 0 =>
   show [D.int .u8 a] = [D.int .u8 ((dg (n / 10 % 10)).toNat:Int)]
   rw [d1,ha];congr 3;omega
 | 1 =>
   show [D.int .u8 b] = [D.int .u8 ((dg (n % 10)).toNat:Int)]
   rw [d2,hb]
 | n+2=>omega
theorem rtwo_ct (n:Int) (h0:0<=n) (h1:n<=99):Cr 330 [i64 n] (.str (putS n 2)):=by
 refine .det (De Tryz.func330 [] [] ?_)
 repeat' first|(rw [Int.tdiv_eq_ediv_of_nonneg (by omega)])|(rw [Int.tmod_eq_emod_of_nonneg (by omega)])|refine S0 ?_;conv=>whnf|refine Vo ?_|exact T0|refine W6 ?_|refine W8 ?_|(refine Lf.by _ (two_at _ _ n h0 h1 rfl rfl) ?_)|refine T2 ?_ ?_
theorem mtwo_ct (n:Int) (h0:0<=n) (h1:n<=99):Cr 226 [i64 n] (.str (putS n 2)):=by
 refine .det (De Tryz.func226 [] [] ?_)
 repeat' first|(rw [Int.tdiv_eq_ediv_of_nonneg (by omega)])|(rw [Int.tmod_eq_emod_of_nonneg (by omega)])|refine S0 ?_;conv=>whnf|refine Vo ?_|exact T0|refine W6 ?_|refine W8 ?_|(refine Lf.by _ (two_at _ _ n h0 h1 (by omega) rfl) ?_)|refine T2 ?_ ?_
theorem put4 (y:Int):putS y 4=putS (y / 100) 2 ++ putS (y % 100) 2:=by
 show [dg (y / 10 / 10 / 10 % 10),dg (y / 10 / 10 % 10),dg (y / 10 % 10),dg (y % 10)] = [dg (y / 100 / 10 % 10),dg (y / 100 % 10),dg (y % 100 / 10 % 10),dg (y % 100 % 10)]
 rw [show y / 10 / 10 / 10 % 10=y / 100 / 10 % 10 by omega,show y / 10 / 10 % 10=y / 100 % 10 by omega,show y / 10 % 10=y % 100 / 10 % 10 by omega,show y % 10=y % 100 % 10 by omega]
theorem rformat_ct (y m d:Int) (h:validD y m d=true):Cr 283 [dtD y m d] (.tup [.str (fmtD y m d),i64 0]):=by
 have hb:=validD_is h;have l:∀ n,(putS n 2).length=2:=putS_len 2
 have e:fmtD y m d=putS (y / 100) 2 ++ putS (y % 100) 2 ++ putS m 2 ++ putS d 2:=by rw [fmtD,put4]
 have l1:=l (y / 100);have l2:=l (y % 100);have l3:=l m;have l4:=l d;refine .det (De Tryz.func283 ord283 [] ?_)
 repeat' first|(rw [Int.tdiv_eq_ediv_of_nonneg (by omega)])|(rw [Int.tmod_eq_emod_of_nonneg (by omega)])|refine S0 ?_;conv=>whnf|refine Vo ?_|exact T0|refine W6 ?_|with_reducible refine Br.tt ?_|(refine M0 (rvalid_is _ _ _ _ h) ?_)|(refine Vc.om ?_ ?_;focus ((simp only [lap];omega);done))|refine Br.bnot ?_|refine T2 ?_ ?_|refine K0 ?_|refine K1 ?_|(refine M0 (g:=330) (rtwo_ct _ (by omega) (by omega)) ?_)
 exact e.symm
end Kx
open Go Sx Go.Proofs
namespace Kx
abbrev Fd:=Str × Int
def fdF (x:Fd):List D:=[.str x.1,i64 x.2]
def fdsN (l:List Fd) (n:Nat):D:=.tab 2 n fun i=>fdF (l.getD i ([],0))
structure Sc where
 f:List Fd
 r:Ru
def Sc.l (s:Sc):List D:=[fdsN s.f s.f.length,strs s.r.t,prs s.r.n,prs s.r.s]
def Sc.d (s:Sc):D:=.agg s.l
def wordB (s:Str):Bool:=decide (s≠[]) && (decide (s.length<=12) && decide (lettersS s=s))
structure Sc.ok (s:Sc):Prop where
 n1:1<=s.f.length
 n5:s.f.length<=5
 w:∀ x ∈ s.f,wordB x.1=true
 nd:∀ i j,i<j->j<s.f.length->(s.f.getD i ([],0)).1≠(s.f.getD j ([],0)).1
 k:∀ x ∈ s.f,1<=x.2/\x.2<=4
 ro:Ru.ok s.r
 re:checkE s.r=0
def Sc.kind (s:Sc) (i:Nat):Int:=(s.f.getD i ([],0)).2
theorem Sc.ok.kd {s:Sc} (h:s.ok) {i:Nat} (hi:i<s.f.length):1<=s.kind i/\s.kind i<=4:=h.k _ (getD_in hi)
theorem sword_ct (s:Str):Cr 53 [.str s] (.bool (wordB s)):=by
 refine .det (De Tryz.func53 [] [] ?_)
 repeat' first|refine S0 ?_;conv=>whnf|exact T0|(refine Br.d (fun h=>?_) fun h=>?_)|refine Br.bnot ?_|refine T2 ?_ ?_|refine K0 ?_|(refine M0 (g:=89) (lettersS_ct _ (by first | omega | decide | (simp;done) | (simp;omega))) ?_)
 ·rw [wordB,decide_eq_false (show ¬s≠[] from fun e=>e h)];rfl
 ·rw [wordB,decide_eq_true (show s≠[] from ‹_›),decide_eq_true (show s.length<=12 by omega)];rfl
 ·rw [wordB,decide_eq_false (show ¬s.length<=12 by omega),Bool.false_and,Bool.and_false]
theorem named_ct (x y:Fd):Cr 52 [.agg (fdF x),.ref (fdF y)] (.bool (decide (x.1=y.1))):=by
 refine .det (De Tryz.func52 [] [] ?_)
 repeat' first|refine S0 ?_;conv=>whnf|exact T0|refine T2 ?_ ?_
theorem indexfd_ct (l:List Fd) (n:Nat) (hn:n<=1000) (y:Fd) (hno:∀ j,j<n->(l.getD j ([],0)).1≠y.1):Cr 88 [fdsN l n,.fn 52 [.ref (fdF y)]] (i64 (-1)):=by
 refine .det (De Tryz.func88 [] [] ?_)
 repeat' first|refine S0 ?_;conv=>whnf
 refine Lw [] [] (α:=Nat) (fun i=>[(0,fdsN l n),(1,.fn 52 [.ref (fdF y)]),(7,i64 n),(8,i64 i)]) (fun i=>[]) 0 (fun i=>i<=n) (fun i=>n - i) ?_ ?_
 ·refine Again.by 0 (zle _) ?_
  repeat' first|refine S0 ?_;conv=>whnf|refine Vo ?_|exact T0|refine Cho.r ?_
 ·intro i hi
  repeat' first|refine S0 ?_;conv=>whnf|refine Vo ?_|exact T0|refine W6 ?_|(refine M0 (named_ct _ _) ?_)|(refine Br.d (fun h=>?_) fun h=>?_)|refine T2 ?_ ?_|refine K0 ?_
  all_goals try simp only [tnc] at *
  ·exact absurd h (hno i (by omega))
  ·refine Again.by (i+1) ⟨by omega,by omega⟩ ?_
   repeat' first|refine S0 ?_;conv=>whnf|refine Vo ?_|exact T0|refine Cho.r ?_
theorem containsfd_ct (l:List Fd) (n:Nat) (hn:n<=1000) (y:Fd) (hno:∀ j,j<n->(l.getD j ([],0)).1≠y.1):Cr 51 [fdsN l n,.fn 52 [.ref (fdF y)]] (.bool false):=by
 refine .det (De Tryz.func51 [] [] ?_)
 repeat' first|refine S0 ?_;conv=>whnf|exact T0|(refine M0 (indexfd_ct l n hn y hno) ?_)|refine T2 ?_ ?_|refine K0 ?_
theorem containsfd_at (l:List Fd) (n:Nat) (hn:n<=1000) (m:Nat) (hm:m=n) (f:Nat->List D) (hf:∀ i,f i=fdF (l.getD i ([],0))) (y:Fd) (hno:∀ j,j<n->(l.getD j ([],0)).1≠y.1):Cr 51 [.tab 2 m f,.fn 52 [.ref (fdF y)]] (.bool false) :=
 (containsfd_ct l n hn y hno).arg ⟨rfl,⟨hm,fun i _=>hf i⟩,⟨rfl,⟨rfl,rfl,trivial⟩,trivial⟩,trivial⟩
theorem scheck_ct (s:Sc) (hs:s.ok):Cr 21 [s.d] (i64 0):=by
 have h1:=hs.n1;have h5:=hs.n5;have hro:=hs.ro;have hre:=hs.re;refine .det (De Tryz.func21 [] [] ?_)
 repeat' first|refine S0 ?_;conv=>whnf|refine B0 ?_|refine Br.swap ?_
 refine Lw [] [] (α:=Nat) (fun i=>[(1,.loc 0 0),(17,fdsN s.f s.f.length),(18,i64 s.f.length),(19,i64 i)]) (fun i=>[(0,.var s.l)]) 1 (fun i=>i<=s.f.length) (fun i=>s.f.length - i) ?_ ?_
 ·refine Again.by 0 (zle _) ?_
  repeat' first|refine S0 ?_;conv=>whnf|refine Vo ?_|exact T0
 ·intro i hi
  have hw:=fun hi:i<s.f.length=>hs.w _ (getD_in (z:=([],0)) hi)
  have hk:=fun hi:i<s.f.length=>hs.k _ (getD_in (z:=([],0)) hi)
  repeat' first|refine S0 ?_;conv=>whnf|refine Vo ?_|exact T0|exact noSh_bool _|refine W6 ?_|with_reducible refine Br.ff ?_|(refine M0 (containsfd_at s.f i (by omega) _ (by omega) _ (fun _=>congrArg (fun k=>fdF (s.f.getD k ([],0))) (Nat.zero_add _)) (s.f.getD i ([],0)) (fun j hj=>hs.nd j i hj (by omega))) ?_)|(refine Br.d (fun h=>?_) fun h=>?_)|refine Br.swap ?_|refine Br.bnot ?_|(refine Bm (fun h=>?_) fun h=>?_)|refine T2 ?_ ?_|refine K0 ?_|(refine M0 (g:=53) (sword_ct _) ?_)|(refine M0 (g:=54) (check_ct _ (by assumption)) ?_)|refine Vm ?_ ?_
  all_goals try simp only [tnc] at *
  ·have:=hk (by omega);omega
  ·have:=hk (by omega);omega
  ·refine Again.by (i+1) ⟨by omega,by omega⟩ ?_
   repeat' first|refine S0 ?_;conv=>whnf|refine Vo ?_|exact T0
  ·rw [hw (by omega)] at h;cases h
  all_goals exact hre
def kindF:Nat->List D
 | 1=>[.str [110,97,109,101],.fn 196 [],.fn 197 [],.fn 198 []]| 2=>[.str [100,97,116,101],.fn 199 [],.fn 200 [],.fn 202 []]| 3=>[.str [99,111,100,101],.fn 203 [],.fn 205 [],.fn 207 []]| 4=>[.str [97,100,100,114,101,115,115],.fn 208 [],.fn 209 [],.fn 198 []]| _=>[.str [],.nilfn,.nilfn,.nilfn]
def kc (j i:Nat):D:=(kindF i).getD j .any
def kindL (i:Nat):List D:=[kc 0 i,kc 1 i,kc 2 i,kc 3 i]
def kindsL:List D:=kindL 0 ++ kindL 1 ++ kindL 2 ++ kindL 3 ++ kindL 4
theorem kinds_ct:Cr 136 [] (.agg kindsL):=by
 refine .det (De Tryz.func136 [] [] ?_)
 repeat' first|refine S0 ?_;conv=>whnf|refine Vo ?_|exact T0|refine T2 ?_ ?_
 all_goals rfl
theorem find_kind (s:Sc) (hs:s.ok) (i:Nat) (hi:i<s.f.length) (k:Nat) (hk:s.kind i=(k:Int)):Cr 81 [s.d,i64 i] (.tup [.agg (kindL k),i64 0]):=by
 have h4:=hs.kd hi
 have hk4:k=1\/k=2\/k=3\/k=4:=by omega
 have hk' : (s.f.getD (i:Int).toNat ([],0)).2=(k:Int):=hk
 rcases hk4 with rfl | rfl | rfl | rfl
 all_goals
  refine .det (De Tryz.func81 ord81 [] ?_)
  repeat' first|refine S0 ?_;conv=>whnf|refine Vo ?_|exact T0|refine B1 ?_|refine B0 ?_|(refine Lf.by _ hk' ?_)|refine Br.swap ?_|refine Br.bnot ?_|refine T2 ?_ ?_|refine K0 ?_|refine K1 ?_|(refine M0 (g:=21) (scheck_ct _ (by assumption)) ?_)|(refine M0 (g:=136) (kinds_ct) ?_)
theorem code2_ct (r:Ru) (x:Str) (hx:x.length<=10000):Cr 203 [ruD r,.str x] (.tup [.str (codeO x),i64 (codeE x)]):=by
 refine .det (De Tryz.func203 [] [] ?_)
 repeat' first|refine S0 ?_;conv=>whnf|exact T0|(refine M0 (code_ct x hx) ?_)|refine T2 ?_ ?_|refine K0 ?_
theorem normed3_ct (r:Ru) (x:Str) (hx:x.length<=10000):Cr 205 [ruD r,.str x] (.bool (codeB x)):=by
 refine .det (De Tryz.func205 [] [] ?_)
 repeat' first|refine S0 ?_;conv=>whnf|exact T0|(refine M0 (normed_ct x hx) ?_)|refine T2 ?_ ?_|refine K0 ?_
def nrmO (r:Ru) (k:Nat) (x:Str):Str:=match k with
 | 1=>normO r x| 2=>dayO x| 3=>codeO x| _=>addrO r x
def nrmE (r:Ru) (k:Nat) (x:Str):Int:=match k with
 | 1=>normE r x| 2=>dayE x| 3=>codeE x| _=>addrE r x
def nrmB (r:Ru) (k:Nat) (x:Str):Bool:=match k with
 | 1=>normB r x| 2=>rdB x| 3=>codeB x| _=>addrB r x
theorem snorm_ct (s:Sc) (hs:s.ok) (i:Nat) (hi:i<s.f.length) (k:Nat) (hk:s.kind i=(k:Int)) (x:Str) (hx:x.length<=10000) (h0:x≠[]):Ct Tryz.prog 45 [s.d,i64 i,.str x] fun r outs=>r = .tup [.str (nrmO s.r k x),i64 (nrmE s.r k x)]/\outs = []:=by
 have h4:=hs.kd hi;have hro:=hs.ro;have hf:=find_kind s hs i hi k hk
 have hk4:k=1\/k=2\/k=3\/k=4:=by omega
 rcases hk4 with rfl | rfl | rfl | rfl
 all_goals
  refine .det (De Tryz.func45 [] [] ?_)
  repeat' first|refine S0 ?_;conv=>whnf|exact T0|refine B1 ?_|refine B0 ?_|(refine M0 hf ?_)|(refine M0 (norm_ct s.r x hro hx) ?_)|(refine M0 (day_ct s.r x) ?_)|(refine M0 (code2_ct s.r x hx) ?_)|(refine M0 (anorm_ct s.r x hro hx) ?_)|refine Br.swap ?_|refine Br.bnot ?_|refine T2 ?_ ?_|refine K0 ?_
 all_goals rfl
theorem snorm0_ct (s:Sc) (hs:s.ok) (i:Nat) (hi:i<s.f.length) (k:Nat) (hk:s.kind i=(k:Int)):Cr 45 [s.d,i64 i,.str []] (.tup [.str [],i64 0]):=by
 have hf:=find_kind s hs i hi k hk;have h4:=hs.kd hi
 have hk4:k=1\/k=2\/k=3\/k=4:=by omega
 rcases hk4 with rfl | rfl | rfl | rfl
 all_goals
  refine .det (De Tryz.func45 [] [] ?_)
  repeat' first|refine S0 ?_;conv=>whnf|exact T0|refine B1 ?_|(refine M0 hf ?_)|(refine Br.dT rfl ?_)|refine Br.swap ?_|refine Br.bnot ?_|refine T2 ?_ ?_|refine K0 ?_
 all_goals rfl
theorem snormal_ct (s:Sc) (hs:s.ok) (i:Nat) (hi:i<s.f.length) (k:Nat) (hk:s.kind i=(k:Int)) (x:Str) (hx:x.length<=10000) (h0:x≠[]):Ct Tryz.prog 103 [s.d,i64 i,.str x] fun r outs=>r = .bool (nrmB s.r k x)/\outs = []:=by
 have h4:=hs.kd hi;have hro:=hs.ro;have hf:=find_kind s hs i hi k hk
 have hk4:k=1\/k=2\/k=3\/k=4:=by omega
 rcases hk4 with rfl | rfl | rfl | rfl
 all_goals
  refine .det (De Tryz.func103 [] [] ?_)
  repeat' first|refine S0 ?_;conv=>whnf|exact T0|refine B1 ?_|refine B0 ?_|(refine M0 hf ?_)|(refine M0 (normal_ct s.r x hro hx) ?_)|(refine M0 (isdate_ct s.r x) ?_)|(refine M0 (normed3_ct s.r x hx) ?_)|(refine M0 (anormal_ct s.r x hro hx) ?_)|refine Br.swap ?_|refine T2 ?_ ?_|refine K0 ?_
 all_goals rfl
theorem snormal0_ct (s:Sc) (hs:s.ok) (i:Nat) (hi:i<s.f.length) (k:Nat) (hk:s.kind i=(k:Int)):Cr 103 [s.d,i64 i,.str []] (.bool true):=by
 have hf:=find_kind s hs i hi k hk;have h4:=hs.kd hi
 have hk4:k=1\/k=2\/k=3\/k=4:=by omega
 rcases hk4 with rfl | rfl | rfl | rfl
 all_goals
  refine .det (De Tryz.func103 [] [] ?_)
  repeat' first|refine S0 ?_;conv=>whnf|exact T0|refine B1 ?_|(refine M0 hf ?_)|(refine Br.dT rfl ?_)|refine Br.swap ?_|refine T2 ?_ ?_|refine K0 ?_
 all_goals rfl
end Kx
open Go Sx Go.Proofs
namespace Kx
theorem rsword_ct (s:Str):Cr 272 [.str s] (.bool (wordB s)):=by
 refine .det (De Tryz.func272 [] [] ?_)
 repeat' first|refine S0 ?_;conv=>whnf|exact T0|(refine Br.d (fun h=>?_) fun h=>?_)|refine Br.bnot ?_|refine T2 ?_ ?_|refine K0 ?_|(refine M0 (g:=314) (rlettersS_ct _ (by first | omega | decide | (simp;done) | (simp;omega))) ?_)
 ·rw [wordB,decide_eq_false (show ¬s≠[] from fun e=>e h)];rfl
 ·rw [wordB,decide_eq_true (show s≠[] from ‹_›),decide_eq_true (show s.length<=12 by omega)];rfl
 ·rw [wordB,decide_eq_false (show ¬s.length<=12 by omega),Bool.false_and,Bool.and_false]
theorem rscheck_ct (s:Sc) (hs:s.ok):Cr 213 [s.d] (i64 0):=by
 have h1:=hs.n1;have h5:=hs.n5;have hro:=hs.ro;have hre:=hs.re;refine .det (De Tryz.func213 ord213 [] ?_)
 repeat' first|refine S0 ?_;conv=>whnf|refine B0 ?_|refine Br.swap ?_
 refine Lw ord213 [] (α:=Nat) (fun i=>[(1,.loc 0 0),(3,i64 i)]) (fun i=>[(0,.var s.l)]) 1 (fun i=>i<=s.f.length) (fun i=>s.f.length - i) ?_ ?_
 ·refine Again.by 0 (zle _) ?_
  repeat' first|refine S0 ?_;conv=>whnf|refine Vo ?_|exact T0
 ·intro i hi
  have hw:=fun hi:i<s.f.length=>hs.w _ (getD_in (z:=([],0)) hi)
  have hk:=fun hi:i<s.f.length=>hs.k _ (getD_in (z:=([],0)) hi)
  repeat' first|refine S0 ?_;conv=>whnf|refine Vo ?_|exact T0|(refine Br.d (fun h=>?_) fun h=>?_)|refine Br.swap ?_|refine Br.bnot ?_|(refine Bm (fun h=>?_) fun h=>?_)|refine T2 ?_ ?_|refine K0 ?_|(refine M0 (g:=272) (rsword_ct _) ?_)|(refine M0 (g:=273) (rcheck_ct _ (by assumption)) ?_)
  all_goals try simp only [tnc] at *
  ·have:=hk (by omega);omega
  ·have:=hk (by omega);omega
  ·refine Lw ord213 [] (α:=Nat) (fun j=>[(1,.loc 0 0),(3,i64 i),(4,.loc 1 0),(5,i64 j)]) (fun j=>[(0,.var s.l),(1,.var (fdF (s.f.getD i ([],0))))]) 2 (fun j=>j<=i) (fun j=>i - j) ?_ ?_
   ·refine Again.by 0 (zle _) ?_
    repeat' first|refine S0 ?_;conv=>whnf|refine Vo ?_|exact T0
   ·intro j hj
    repeat' first|refine S0 ?_;conv=>whnf|refine Vo ?_|exact T0|refine W6 ?_|(refine Br.d (fun h=>?_) fun h=>?_)|refine T2 ?_ ?_
    all_goals try simp only [tnc] at *
    ·exact absurd h (hs.nd j i (by omega) (by omega))
    ·refine Again.by (j+1) ⟨by omega,by omega⟩ ?_
     repeat' first|refine S0 ?_;conv=>whnf|refine Vo ?_|exact T0
    ·refine Again.by (i+1) ⟨by omega,by omega⟩ ?_
     repeat' first|refine S0 ?_;conv=>whnf|refine Vo ?_|exact T0
  ·rw [hw (by omega)] at h;cases h
  all_goals exact hre
theorem rsnorm_ct (s:Sc) (hs:s.ok) (i:Nat) (hi:i<s.f.length) (k:Nat) (hk:s.kind i=(k:Int)) (x:Str) (hx:x.length<=10000) (h0:x≠[]):Ct Tryz.prog 222 [s.d,i64 i,.str x] fun r outs=>r = .tup [.str (nrmO s.r k x),i64 (nrmE s.r k x)]/\outs = []:=by
 have h4:=hs.kd hi;have hro:=hs.ro;have hk' : (s.f.getD (i:Int).toNat ([],0)).2=(k:Int):=hk;have hp:=rparse_ct x
 have hdo:dayO x=match dateOf x with | some x=>fmtD x.1 x.2.1 x.2.2 | none=>[]:=rfl
 have hde:dayE x=ern (dateOf x).isSome 4:=rfl
 have hk4:k=1\/k=2\/k=3\/k=4:=by omega
 rcases hk4 with rfl | rfl | rfl | rfl
 case inr.inl =>
  unfold nrmO nrmE;rw [hdo,hde]
  cases hd:dateOf x with
  | none =>
    rw [hd] at hp;simp only [dt0,Option.isSome_none,ern] at hp ⊢;refine .det (De Tryz.func222 [] [] ?_)
    repeat' first|refine S0 ?_;conv=>whnf|refine Vo ?_|exact T0|refine B1 ?_|refine B0 ?_|(refine M0 hp ?_)|refine Br.swap ?_|refine Br.bnot ?_|refine T2 ?_ ?_|refine K0 ?_|(refine M0 (g:=213) (rscheck_ct _ (by assumption)) ?_)
  | some y =>
    rw [hd] at hp;simp only [dt0,Option.isSome_some,ern] at hp ⊢;refine .det (De Tryz.func222 [] [] ?_)
    repeat' first|refine S0 ?_;conv=>whnf|refine Vo ?_|exact T0|refine B1 ?_|refine B0 ?_|(refine M0 hp ?_)|(refine M0 (rformat_ct y.1 y.2.1 y.2.2 (dateOf_valid hd)) ?_)|refine Br.swap ?_|refine Br.bnot ?_|refine T2 ?_ ?_|refine K0 ?_|(refine M0 (g:=213) (rscheck_ct _ (by assumption)) ?_)
 all_goals
  refine .det (De Tryz.func222 [] [] ?_)
  repeat' first|refine S0 ?_;conv=>whnf|refine Vo ?_|exact T0|refine B1 ?_|refine B0 ?_|(refine M0 (rnorm_ct s.r x hro hx) ?_)|(refine M0 (rcode_ct x hx) ?_)|(refine M0 (arnorm_ct s.r x hro hx) ?_)|refine Br.swap ?_|refine Br.bnot ?_|refine T2 ?_ ?_|refine K0 ?_|(refine M0 (g:=213) (rscheck_ct _ (by assumption)) ?_)
 all_goals first
  | rfl
end Kx
open Go Sx Go.Proofs
namespace Kx
def nO (s:Sc) (i:Nat) (x:Str):Str:=if x = [] then [] else nrmO s.r (s.kind i).toNat x
def nE (s:Sc) (i:Nat) (x:Str):Int:=if x = [] then 0 else nrmE s.r (s.kind i).toNat x
def nB (s:Sc) (i:Nat) (x:Str):Bool:=if x = [] then true else nrmB s.r (s.kind i).toNat x
theorem kind_nat {s:Sc} (hs:s.ok) {i:Nat} (hi:i<s.f.length):s.kind i=((s.kind i).toNat:Int):=by
 have:=hs.kd hi;omega
theorem nX_ct (s:Sc) (hs:s.ok) (i:Nat) (hi:i<s.f.length) (x:Str) (hx:x.length<=10000):Cr 45 [s.d,i64 i,.str x] (.tup [.str (nO s i x),i64 (nE s i x)]):=by
 by_cases h:x = []
 ·subst h;exact snorm0_ct s hs i hi _ (kind_nat hs hi)
 ·rw [nO,nE,if_neg h,if_neg h];exact snorm_ct s hs i hi _ (kind_nat hs hi) x hx h
theorem rsnorm0_ct (s:Sc) (hs:s.ok) (i:Nat) (hi:i<s.f.length):Cr 222 [s.d,i64 i,.str []] (.tup [.str [],i64 0]):=by
 refine .det (De Tryz.func222 [] [] ?_)
 repeat' first|refine S0 ?_;conv=>whnf|exact T0|refine B1 ?_|refine B0 ?_|(refine Br.dT rfl ?_)|refine Br.swap ?_|refine Br.bnot ?_|refine T2 ?_ ?_|refine K0 ?_|(refine M0 (g:=213) (rscheck_ct _ (by assumption)) ?_)
 all_goals rfl
theorem rnX_ct (s:Sc) (hs:s.ok) (i:Nat) (hi:i<s.f.length) (x:Str) (hx:x.length<=10000):Cr 222 [s.d,i64 i,.str x] (.tup [.str (nO s i x),i64 (nE s i x)]):=by
 by_cases h:x = []
 ·subst h;exact rsnorm0_ct s hs i hi
 ·rw [nO,nE,if_neg h,if_neg h];exact rsnorm_ct s hs i hi _ (kind_nat hs hi) x hx h
theorem nBX_ct (s:Sc) (hs:s.ok) (i:Nat) (hi:i<s.f.length) (x:Str) (hx:x.length<=10000):Cr 103 [s.d,i64 i,.str x] (.bool (nB s i x)):=by
 by_cases h:x = []
 ·subst h;exact snormal0_ct s hs i hi _ (kind_nat hs hi)
 ·rw [nB,if_neg h];exact snormal_ct s hs i hi _ (kind_nat hs hi) x hx h
structure Rc where
 id:Int
 ver:Int
 v:List Str
def Rc.l (r:Rc):List D:=[i64 r.id,i64 r.ver,strs r.v]
def Rc.d (r:Rc):D:=.agg r.l
structure VOk (s:Sc) (i:Nat) (x:Str):Prop where
 b:nB s i x=true
 le:x.length<=64
 an:∀ c ∈ x,isAn c=true\/c=32
structure Rc.ok (s:Sc) (r:Rc):Prop where
 i1:1<=r.id
 i2:r.id<=1048576
 v1:1<=r.ver
 v2:r.ver<=1048576
 n:r.v.length=s.f.length
 v:∀ i,i<s.f.length->VOk s i (r.v.getD i [])
theorem numbered_ct (a b:Int) (h:1<=a/\a<=1048576/\1<=b/\b<=1048576):Cr 44 [i64 a,i64 b] (.bool true):=by
 refine .det (De Tryz.func44 [] [] ?_)
 repeat' first|refine S0 ?_;conv=>whnf|exact T0|refine B1 ?_|refine T2 ?_ ?_
 exact decide_eq_true (by omega)
theorem rcheck1_ct (s:Sc) (hs:s.ok) (r:Rc) (hr:r.ok s):Cr 62 [s.d,r.d] (i64 0):=by
 have i1:=hr.i1;have i2:=hr.i2;have v1:=hr.v1;have v2:=hr.v2;have hn:=hr.n;have n5:=hs.n5;refine .det (De Tryz.func62 [] [] ?_)
 repeat' first|refine S0 ?_;conv=>whnf|with_reducible refine Br.tt ?_|refine B1 ?_|refine Br.swap ?_|refine Br.bnot ?_|refine K0 ?_|(refine M0 (g:=44) (numbered_ct _ _ (by omega)) ?_)
 refine Lw [] [] (α:=Nat) (fun i=>[(2,.loc 0 0),(23,strs r.v),(24,i64 r.v.length),(25,i64 i)]) (fun i=>[(0,.var s.l)]) 1 (fun i=>i<=r.v.length) (fun i=>r.v.length - i) ?_ ?_
 ·refine Again.by 0 (zle _) ?_
  repeat' first|refine S0 ?_;conv=>whnf|refine Vo ?_|exact T0
 ·intro i hi
  have hv:=fun h:(i:Int)<r.v.length=>hr.v i (by omega)
  have hc:=fun h:(i:Int)<r.v.length=>nBX_ct s hs i (by omega) (r.v.getD i []) (by have:=(hv h).le;omega)
  have hb:=fun h:(i:Int)<r.v.length=>(hv h).b
  repeat' first|refine S0 ?_;conv=>whnf|refine Vo ?_|exact T0|refine W6 ?_|(refine M0 (hc (by omega)) ?_)|(refine Br.d (fun h=>?_) fun h=>?_)|refine Br.bnot ?_|(refine Bm (fun h=>?_) fun h=>?_)|refine T2 ?_ ?_|refine K0 ?_
  ·refine Again.by (i+1) ⟨by omega,by omega⟩ ?_
   repeat' first|refine S0 ?_;conv=>whnf|refine Vo ?_|exact T0
  ·rw [hb (by omega)] at h;cases h
theorem rCheck_ct (s:Sc) (hs:s.ok) (r:Rc) (hr:r.ok s):Cr 46 [s.d,r.d] (i64 0):=by
 refine .det (De Tryz.func46 [] [] ?_)
 repeat' first|refine S0 ?_;conv=>whnf|exact T0|refine B1 ?_|(refine M0 (rcheck1_ct s hs r hr) ?_)|refine Br.bnot ?_|refine T2 ?_ ?_|refine K0 ?_|(refine M0 (g:=21) (scheck_ct _ (by assumption)) ?_)
def Rc.z:Rc:=⟨0,0,[]⟩
def rcs (l:List Rc):D:=.tab 3 l.length fun i=>(l.getD i Rc.z).l
structure RsOk (s:Sc) (l:List Rc):Prop where
 n:l.length<=64
 ok:∀ r ∈ l,r.ok s
 asc:∀ i,i+1<l.length->(l.getD i Rc.z).id<(l.getD (i+1) Rc.z).id
theorem rAll_ct (s:Sc) (hs:s.ok) (l:List Rc) (hl:RsOk s l):Cr 33 [s.d,rcs l] (i64 0):=by
 have hn:=hl.n;refine .det (De Tryz.func33 ord33 [] ?_)
 repeat' first|refine S0 ?_;conv=>whnf|refine B1 ?_|refine B0 ?_|refine Br.bnot ?_|refine K0 ?_|(refine M0 (g:=21) (scheck_ct _ (by assumption)) ?_)
 refine Lw ord33 [] (α:=Nat) (fun i=>[(1,rcs l),(2,.loc 0 0),(17,rcs l),(18,i64 l.length),(19,i64 i)]) (fun i=>[(0,.var s.l)]) 1 (fun i=>i<=l.length) (fun i=>l.length - i) ?_ ?_
 ·refine Again.by 0 (zle _) ?_
  repeat' first|refine S0 ?_;conv=>whnf|refine Vo ?_|exact T0
 ·intro i hi
  have hr:=fun h:(i:Int)<l.length=>hl.ok (l.getD (i:Int).toNat Rc.z) (getD_in (by omega))
  have ha:=fun (h:(i:Int)<l.length) (h0:0<(i:Int))=>hl.asc (i - 1) (by omega)
  repeat' first|refine S0 ?_;conv=>whnf|refine Vo ?_|exact T0|refine W6 ?_|refine B1 ?_|(refine M0 (rcheck1_ct s hs (l.getD (i:Int).toNat Rc.z) (hr (by omega))) ?_)|(refine Br.d (fun h=>?_) fun h=>?_)|refine Br.bnot ?_|refine T2 ?_ ?_|refine K0 ?_
  all_goals try simp only [tnc] at *
  ·have:=ha (by omega) (by omega);rw [show i - 1+1=i by omega] at this;rw [show ((i:Int) - 1).toNat=i - 1 by omega] at h;omega
  ·refine Again.by (i+1) ⟨by omega,by omega⟩ ?_
   repeat' first|refine S0 ?_;conv=>whnf|refine Vo ?_|exact T0
  ·refine Again.by (i+1) ⟨by omega,by omega⟩ ?_
   repeat' first|refine S0 ?_;conv=>whnf|refine Vo ?_|exact T0
def mkL (s:Sc) (raws:List Str) (n:Nat):List Str:=(List.range n).map fun i=>nO s i (raws.getD i [])
theorem mkL_len (s:Sc) (raws:List Str) (n:Nat):(mkL s raws n).length=n:=by simp [mkL]
theorem mkL_at (s:Sc) (raws:List Str) (n i:Nat) (h:i<n):(mkL s raws n).getD i []=nO s i (raws.getD i []):=by
 simp [mkL,List.getD,h]
theorem mkL_succ (s:Sc) (raws:List Str) (n:Nat):mkL s raws (n+1)=mkL s raws n ++ [nO s n (raws.getD n [])]:=by
 simp [mkL,List.range_succ]
theorem mk_set (F:Nat->Str->Str) (raws:List Str) (i:Nat) (k:Nat) (hk:k=i) (hj:True) {n:Nat}:∀ j,j<n->iteL (j=k) [D.str (F i (raws.getD i []))] [D.str (if j<i then F j (raws.getD j []) else [])] = [D.str (if j<i+1 then F j (raws.getD j []) else [])]:=fun j _=>by
 subst hk;rw [iteL_same rfl];by_cases e:j=k
 ·subst e;rw [if_pos rfl,if_pos (by omega)]
 ·rw [if_neg e];by_cases h:j<k
  ·rw [if_pos h,if_pos (by omega)]
  ·rw [if_neg h,if_neg (by omega)]
theorem make_ct (s:Sc) (hs:s.ok) (a b:Int) (h:1<=a/\a<=1048576/\1<=b/\b<=1048576) (raws:List Str) (hn:raws.length=s.f.length) (hx:∀ x ∈ raws,x.length<=10000) (he:∀ i,i<s.f.length->nE s i (raws.getD i [])=0) :
 Cr 17 [s.d,i64 a,i64 b,strs raws] (.tup [Rc.d ⟨a,b,mkL s raws s.f.length⟩,i64 0]):=by
 have n5:=hs.n5;refine .det (De Tryz.func17 [] [] ?_)
 repeat' first|refine S0 ?_;conv=>whnf|refine Vb ?_|with_reducible refine Br.tt ?_|refine B1 ?_|refine Br.bnot ?_|refine K0 ?_|(refine M0 (g:=21) (scheck_ct _ (by assumption)) ?_)|(refine M0 (g:=44) (numbered_ct _ _ (by omega)) ?_)
 refine Lw [] [] (α:=Nat) (fun i=>[(4,.loc 0 0),(8,.loc 1 0),(11,.loc 2 0),(42,strs raws),(43,i64 raws.length),(44,i64 i)]) (fun i=>[(0,.var s.l),(1,.var Rc.z.l),(2,.var [i64 a,i64 b,.own 3]),(3,.arr 9 1 raws.length fun j=>[.str (if j<i then nO s j (raws.getD j []) else [])])]) 4 (fun i=>i<=s.f.length) (fun i=>s.f.length - i) ?_ ?_
 ·refine Again.by 0 (zle _) ?_
  repeat' first|refine S0 ?_;conv=>whnf|refine Vo ?_|exact T0|(exact ⟨rfl,fun _ _=>rfl⟩)|refine Vm ?_ ?_
 ·intro i hi
  have hc:=fun h:(i:Int)<raws.length=>nX_ct s hs i (by omega) (raws.getD (i:Int).toNat []) (hx _ (getD_in (by omega)))
  have hE:=fun h:(i:Int)<raws.length=>he i (by omega)
  repeat' first|refine S0 ?_;conv=>whnf|refine Vo ?_|exact T0|refine W6 ?_|(refine M0 (hc (by omega)) ?_)|(refine Br.dT (hE (by omega)) ?_)|(refine Br.d (fun h=>?_) fun h=>?_)|refine Br.bnot ?_|refine T2 ?_ ?_|refine K0 ?_
  ·refine Again.by (i+1) ⟨by omega,by omega⟩ ?_
   repeat' first|refine S0 ?_;conv=>whnf|refine Vo ?_|exact T0|(exact ⟨rfl,mk_set (nO s) raws i _ (tnc i) trivial⟩)|refine Vm ?_ ?_
  ·exact ⟨by rw [mkL_len];exact hn,fun j hj=>by
    rw [mkL_len] at hj;dsimp only
    rw [if_pos (by omega),mkL_at _ _ _ _ hj]⟩
theorem rmake_ct' (s:Sc) (hs:s.ok) (a b:Int) (hab:1<=a/\a<=1048576/\1<=b/\b<=1048576) (raws:List Str) (hn:raws.length=s.f.length) (hx:∀ x ∈ raws,x.length<=10000) :
 Ct Tryz.prog 157 [s.d,i64 a,i64 b,strs raws] fun q outs=>∃ (x:Rc) (e:Int),(e=0->x=⟨a,b,mkL s raws s.f.length⟩/\∀ i,i<s.f.length->nE s i (raws.getD i [])=0)/\q = .tup [x.d,i64 e]/\outs = []:=by
 have n5:=hs.n5;refine .some2 (De Tryz.func157 ord157 [] ?_)
 repeat' first|refine S0 ?_;conv=>whnf|refine B1 ?_|refine B0 ?_|refine Br.swap ?_|refine Br.bnot ?_|refine K0 ?_|(refine M0 (g:=213) (rscheck_ct _ (by assumption)) ?_)
 refine Lw ord157 [] (α:=Nat) (fun i=>[(3,strs raws),(4,.loc 0 0),(8,.loc 1 0),(11,.loc 2 0),(12,i64 i)]) (fun i=>[(0,.var s.l),(1,.var Rc.z.l),(2,.var [i64 a,i64 b,.own 3]),(3,.arr 9 1 (mkL s raws i).length fun j=>[.str ((mkL s raws i).getD j [])])]) 4 (fun i=>i<=s.f.length/\∀ j,j<i->nE s j (raws.getD j [])=0) (fun i=>s.f.length - i) ?_ ?_
 ·refine Again.by 0 ⟨zle _,fun _ h=>absurd h (Nat.not_lt_zero _)⟩ ?_
  repeat' first|refine S0 ?_;conv=>whnf|refine Vo ?_|exact T0|(rfl)|refine Vm ?_ ?_
 ·intro i ⟨hi,hp⟩;have hl:=mkL_len s raws i
  have hc:=fun h:(i:Int)<raws.length=>rnX_ct s hs i (by omega) (raws.getD (i:Int).toNat []) (hx _ (getD_in (by omega)))
  repeat' first|refine S0 ?_;conv=>whnf|refine Vo ?_|refine Vb ?_|refine W6 ?_|(refine M0 (hc (by omega)) ?_)|(refine Br.d (fun h=>?_) fun h=>?_)|refine Br.bnot ?_|refine K1 ?_
  ·refine Again.by (i+1) ⟨⟨by omega,fun j hj=>by
    rcases Nat.lt_or_eq_of_le (Nat.le_of_lt_succ hj) with h1 | rfl
    ·exact hp j h1
    ·exact h⟩,by omega⟩ ?_
   rw [mkL_succ]
   repeat' first|refine S0 ?_;conv=>whnf|refine Vo ?_|exact T0|(exact str_app _ _ rfl)|refine Vm ?_ ?_
  ·rename_i hne
   refine Lf2.by Rc.z _ (fun e=>absurd e h) ?_
   repeat' first|refine S0 ?_;conv=>whnf|exact T0|refine T2 ?_ ?_
  ·refine Lf2.by ⟨a,b,mkL s raws s.f.length⟩ 0 (fun _=>⟨rfl,fun j hj=>hp j (by omega)⟩) ?_
   rw [show i=s.f.length by omega]
   repeat' first|refine S0 ?_;conv=>whnf|exact T0|exact T1|refine T2 ?_ ?_
end Kx
