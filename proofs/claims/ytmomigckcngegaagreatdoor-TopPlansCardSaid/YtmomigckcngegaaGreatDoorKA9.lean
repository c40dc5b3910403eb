/-
  Schemas: the reference's functions.
  No condition beyond those written in each theorem.
-/
import Derived.Test.YtmomigckcngegaaGreatDoorKA8
import Derived.Test.YtmomigckcngegaaGreatDoorFD
set_option linter.unusedSimpArgs false
set_option linter.unusedVariables false
set_option maxRecDepth 4000
open Go Sx Go.Proofs
namespace Kx
theorem rsword_ct (s:Str):Ct Tryz.prog 152 [.str s] fun r outs=>r = .bool (wordB s)∧outs = []:=by
 refine .det (De Tryz.func152 [] [] ?_)
 repeat' first|(refine S0 ?_;conv=>whnf)|exact T0|(refine Br.d (fun h=>?_) fun h=>?_)|(refine Br.bnot ?_)|(refine T2 ?_ ?_)|(refine K0 ?_)|(refine Met.by (g:=191) (rlettersS_ct _ (by first | omega | decide | (simp;done) | (simp;omega))) ?_;rintro q outs ⟨rfl,rfl⟩)
 ·rw [wordB,decide_eq_false (show ¬s≠[] from fun e=>e h)];rfl
 ·rw [wordB,decide_eq_true (show s≠[] from ‹_›),decide_eq_true (show s.length≤12 by omega)];rfl
 ·rw [wordB,decide_eq_false (show ¬s.length≤12 by omega),Bool.false_and,Bool.and_false]
theorem rscheck_ct (s:Sc) (hs:s.ok):Ct Tryz.prog 116 [s.d] fun r outs=>r=i64 0∧outs = []:=by
 have h1:=hs.n1;have h5:=hs.n5
 have hro:=hs.ro;have hre:=hs.re
 refine .det (De Tryz.func116 ord116 [] ?_)
 repeat' first|(refine S0 ?_;conv=>whnf)|(refine B0 ?_)|(refine Br.swap ?_)
 refine CodeOK.loopW hΓ hm ord116 [] (by kernel_rfl) (α:=Nat) (fun i=>[(1,.loc 0 0),(3,i64 i)]) (fun i=>[(0,.var s.l)]) 1 (fun i=>i≤s.f.length) (fun i=>s.f.length - i) ?_ ?_
 ·refine Again.by 0 (Nat.zero_le _) ?_
  repeat' first|(refine S0 ?_;conv=>whnf)|(refine Vo ?_)|exact T0
 ·intro i hi
  have hw:=fun hi:i<s.f.length=>hs.w _ (getD_in (z:=([],0)) hi)
  have hk:=fun hi:i<s.f.length=>hs.k _ (getD_in (z:=([],0)) hi)
  repeat' first|(refine S0 ?_;conv=>whnf)|(refine Vo ?_)|exact T0|(refine Br.d (fun h=>?_) fun h=>?_)|(refine Br.swap ?_)|(refine Br.bnot ?_)|(refine Bm (fun h=>?_) fun h=>?_)|(refine T2 ?_ ?_)|(refine K0 ?_)|(refine Met.by (g:=152) (rsword_ct _) ?_;rintro q outs ⟨rfl,rfl⟩)|(refine Met.by (g:=153) (rcheck_ct _ (by assumption)) ?_;rintro q outs ⟨rfl,rfl⟩)
  all_goals try simp only [Int.toNat_natCast] at *
  ·have:=hk (by omega);omega
  ·have:=hk (by omega);omega
  ·refine CodeOK.loopW hΓ hm ord116 [] (by kernel_rfl) (α:=Nat) (fun j=>[(1,.loc 0 0),(3,i64 i),(4,.loc 1 0),(5,i64 j)]) (fun j=>[(0,.var s.l),(1,.var (fdF (s.f.getD i ([],0))))]) 2 (fun j=>j≤i) (fun j=>i - j) ?_ ?_
   ·refine Again.by 0 (Nat.zero_le _) ?_
    repeat' first|(refine S0 ?_;conv=>whnf)|(refine Vo ?_)|exact T0
   ·intro j hj
    repeat' first|(refine S0 ?_;conv=>whnf)|(refine Vo ?_)|exact T0|(refine W6 ?_)|(refine Br.d (fun h=>?_) fun h=>?_)|(refine T2 ?_ ?_)
    all_goals try simp only [Int.toNat_natCast] at *
    ·exact absurd h (hs.nd j i (by omega) (by omega))
    ·refine Again.by (j+1) ⟨by omega,by omega⟩ ?_
     repeat' first|(refine S0 ?_;conv=>whnf)|(refine Vo ?_)|exact T0
    ·refine Again.by (i+1) ⟨by omega,by omega⟩ ?_
     repeat' first|(refine S0 ?_;conv=>whnf)|(refine Vo ?_)|exact T0
  ·rw [hw (by omega)] at h;cases h
  all_goals exact hre
theorem rsnorm_ct (s:Sc) (hs:s.ok) (i:Nat) (hi:i<s.f.length) (k:Nat) (hk:s.kind i=(k:Int)) (x:Str) (hx:x.length≤10000) (h0:x≠[]):Ct Tryz.prog 117 [s.d,i64 i,.str x] fun r outs=>r = .tup [.str (nrmO s.r k x),i64 (nrmE s.r k x)]∧outs = []:=by
 have h4:=hs.kd hi
 have hro:=hs.ro
 have hk' : (s.f.getD (i:Int).toNat ([],0)).2=(k:Int):=hk
 have hp:=rparse_ct x
 have hdo:dayO x=match dateOf x with | some x=>fmtD x.1 x.2.1 x.2.2 | none=>[]:=rfl
 have hde:dayE x=ern (dateOf x).isSome 4:=rfl
 have hk4:k=1∨k=2∨k=3∨k=4:=by omega
 rcases hk4 with rfl | rfl | rfl | rfl
 case inr.inl =>
  unfold nrmO nrmE
  rw [hdo,hde]
  cases hd:dateOf x with
  | none =>
    rw [hd] at hp
    simp only [dt0,Option.isSome_none,ern] at hp ⊢
    refine .det (De Tryz.func117 [] [] ?_)
    repeat' first|(refine S0 ?_;conv=>whnf)|(refine Vo ?_)|exact T0|(refine B1 ?_)|(refine B0 ?_)|(refine Met.by hp ?_;rintro q outs ⟨rfl,rfl⟩)|(refine Br.swap ?_)|(refine Br.bnot ?_)|(refine T2 ?_ ?_)|(refine K0 ?_)|(refine Met.by (g:=116) (rscheck_ct _ (by assumption)) ?_;rintro q outs ⟨rfl,rfl⟩)
  | some y =>
    rw [hd] at hp
    simp only [dt0,Option.isSome_some,ern] at hp ⊢
    refine .det (De Tryz.func117 [] [] ?_)
    repeat' first|(refine S0 ?_;conv=>whnf)|(refine Vo ?_)|exact T0|(refine B1 ?_)|(refine B0 ?_)|(refine Met.by hp ?_;rintro q outs ⟨rfl,rfl⟩)|(refine Met.by (rformat_ct y.1 y.2.1 y.2.2 (dateOf_valid hd)) ?_;rintro q outs ⟨rfl,rfl⟩)|(refine Br.swap ?_)|(refine Br.bnot ?_)|(refine T2 ?_ ?_)|(refine K0 ?_)|(refine Met.by (g:=116) (rscheck_ct _ (by assumption)) ?_;rintro q outs ⟨rfl,rfl⟩)
 all_goals
  refine .det (De Tryz.func117 [] [] ?_)
  repeat' first|(refine S0 ?_;conv=>whnf)|(refine Vo ?_)|exact T0|(refine B1 ?_)|(refine B0 ?_)|(refine Met.by (rnorm_ct s.r x hro hx) ?_;rintro q outs ⟨rfl,rfl⟩)|(refine Met.by (rcode_ct x hx) ?_;rintro q outs ⟨rfl,rfl⟩)|(refine Met.by (arnorm_ct s.r x hro hx) ?_;rintro q outs ⟨rfl,rfl⟩)|(refine Br.swap ?_)|(refine Br.bnot ?_)|(refine T2 ?_ ?_)|(refine K0 ?_)|(refine Met.by (g:=116) (rscheck_ct _ (by assumption)) ?_;rintro q outs ⟨rfl,rfl⟩)
 all_goals first
  | rfl
end Kx
open Go Sx Go.Proofs
namespace Kx
def nO (s:Sc) (i:Nat) (x:Str):Str:=if x = [] then [] else nrmO s.r (s.kind i).toNat x
def nE (s:Sc) (i:Nat) (x:Str):Int:=if x = [] then 0 else nrmE s.r (s.kind i).toNat x
def nB (s:Sc) (i:Nat) (x:Str):Bool:=if x = [] then true else nrmB s.r (s.kind i).toNat x
theorem kind_nat {s:Sc} (hs:s.ok) {i:Nat} (hi:i<s.f.length):s.kind i=((s.kind i).toNat:Int):=by
 have:=hs.kd hi;omega
theorem nX_ct (s:Sc) (hs:s.ok) (i:Nat) (hi:i<s.f.length) (x:Str) (hx:x.length≤10000):Ct Tryz.prog 47 [s.d,i64 i,.str x] fun r outs=>r = .tup [.str (nO s i x),i64 (nE s i x)]∧outs = []:=by
 by_cases h:x = []
 ·subst h
  exact snorm0_ct s hs i hi _ (kind_nat hs hi)
 ·rw [nO,nE,if_neg h,if_neg h]
  exact snorm_ct s hs i hi _ (kind_nat hs hi) x hx h
theorem rsnorm0_ct (s:Sc) (hs:s.ok) (i:Nat) (hi:i<s.f.length):Ct Tryz.prog 117 [s.d,i64 i,.str []] fun r outs=>r = .tup [.str [],i64 0]∧outs = []:=by
 refine .det (De Tryz.func117 [] [] ?_)
 repeat' first|(refine S0 ?_;conv=>whnf)|exact T0|(refine B1 ?_)|(refine B0 ?_)|(refine Br.dT rfl ?_)|(refine Br.swap ?_)|(refine Br.bnot ?_)|(refine T2 ?_ ?_)|(refine K0 ?_)|(refine Met.by (g:=116) (rscheck_ct _ (by assumption)) ?_;rintro q outs ⟨rfl,rfl⟩)
 all_goals rfl
theorem rnX_ct (s:Sc) (hs:s.ok) (i:Nat) (hi:i<s.f.length) (x:Str) (hx:x.length≤10000):Ct Tryz.prog 117 [s.d,i64 i,.str x] fun r outs=>r = .tup [.str (nO s i x),i64 (nE s i x)]∧outs = []:=by
 by_cases h:x = []
 ·subst h
  exact rsnorm0_ct s hs i hi
 ·rw [nO,nE,if_neg h,if_neg h]
  exact rsnorm_ct s hs i hi _ (kind_nat hs hi) x hx h
theorem nBX_ct (s:Sc) (hs:s.ok) (i:Nat) (hi:i<s.f.length) (x:Str) (hx:x.length≤10000):Ct Tryz.prog 104 [s.d,i64 i,.str x] fun r outs=>r = .bool (nB s i x)∧outs = []:=by
 by_cases h:x = []
 ·subst h
  exact snormal0_ct s hs i hi _ (kind_nat hs hi)
 ·rw [nB,if_neg h]
  exact snormal_ct s hs i hi _ (kind_nat hs hi) x hx h
structure Rc where
 id:Int
 ver:Int
 v:List Str
def Rc.l (r:Rc):List D:=[i64 r.id,i64 r.ver,strs r.v]
def Rc.d (r:Rc):D:=.agg r.l
structure VOk (s:Sc) (i:Nat) (x:Str):Prop where
 b:nB s i x=true
 le:x.length≤64
 an:∀ c ∈ x,isAn c=true∨c=32
structure Rc.ok (s:Sc) (r:Rc):Prop where
 i1:1≤r.id
 i2:r.id≤90
 v1:1≤r.ver
 v2:r.ver≤90
 n:r.v.length=s.f.length
 v:∀ i,i<s.f.length→VOk s i (r.v.getD i [])
theorem numbered_ct (a b:Int) (h:1≤a∧a≤90∧1≤b∧b≤90):Ct Tryz.prog 46 [i64 a,i64 b] fun r outs=>r = .bool true∧outs = []:=by
 refine .det (De Tryz.func46 [] [] ?_)
 repeat' first|(refine S0 ?_;conv=>whnf)|exact T0|(refine B1 ?_)|(refine T2 ?_ ?_)
 exact decide_eq_true (by omega)
theorem rcheck1_ct (s:Sc) (hs:s.ok) (r:Rc) (hr:r.ok s):Ct Tryz.prog 62 [s.d,r.d] fun q outs=>q=i64 0∧outs = []:=by
 have i1:=hr.i1;have i2:=hr.i2;have v1:=hr.v1;have v2:=hr.v2;have hn:=hr.n;have n5:=hs.n5
 refine .det (De Tryz.func62 [] [] ?_)
 repeat' first|(refine S0 ?_;conv=>whnf)|(with_reducible refine Br.tt ?_)|(refine B1 ?_)|(refine Br.swap ?_)|(refine Br.bnot ?_)|(refine K0 ?_)|(refine Met.by (g:=46) (numbered_ct _ _ (by omega)) ?_;rintro q outs ⟨rfl,rfl⟩)
 refine CodeOK.loopW hΓ hm [] [] (by kernel_rfl) (α:=Nat) (fun i=>[(2,.loc 0 0),(23,strs r.v),(24,i64 r.v.length),(25,i64 i)]) (fun i=>[(0,.var s.l)]) 1 (fun i=>i≤r.v.length) (fun i=>r.v.length - i) ?_ ?_
 ·refine Again.by 0 (Nat.zero_le _) ?_
  repeat' first|(refine S0 ?_;conv=>whnf)|(refine Vo ?_)|exact T0
 ·intro i hi
  have hv:=fun h:(i:Int)<r.v.length=>hr.v i (by omega)
  have hc:=fun h:(i:Int)<r.v.length=>nBX_ct s hs i (by omega) (r.v.getD i []) (by have:=(hv h).le;omega)
  have hb:=fun h:(i:Int)<r.v.length=>(hv h).b
  repeat' first|(refine S0 ?_;conv=>whnf)|(refine Vo ?_)|exact T0|(refine W6 ?_)|(refine Met.by (hc (by omega)) ?_;rintro q outs ⟨rfl,rfl⟩)|(refine Br.d (fun h=>?_) fun h=>?_)|(refine Br.bnot ?_)|(refine Bm (fun h=>?_) fun h=>?_)|(refine T2 ?_ ?_)|(refine K0 ?_)
  ·refine Again.by (i+1) ⟨by omega,by omega⟩ ?_
   repeat' first|(refine S0 ?_;conv=>whnf)|(refine Vo ?_)|exact T0
  ·rw [hb (by omega)] at h;cases h
theorem rCheck_ct (s:Sc) (hs:s.ok) (r:Rc) (hr:r.ok s):Ct Tryz.prog 49 [s.d,r.d] fun q outs=>q=i64 0∧outs = []:=by
 refine .det (De Tryz.func49 [] [] ?_)
 repeat' first|(refine S0 ?_;conv=>whnf)|exact T0|(refine B1 ?_)|(refine Met.by (rcheck1_ct s hs r hr) ?_;rintro q outs ⟨rfl,rfl⟩)|(refine Br.bnot ?_)|(refine T2 ?_ ?_)|(refine K0 ?_)|(refine Met.by (g:=23) (scheck_ct _ (by assumption)) ?_;rintro q outs ⟨rfl,rfl⟩)
def Rc.z:Rc:=⟨0,0,[]⟩
def rcs (l:List Rc):D:=.tab 3 l.length fun i=>(l.getD i Rc.z).l
structure RsOk (s:Sc) (l:List Rc):Prop where
 n:l.length≤64
 ok:∀ r ∈ l,r.ok s
 asc:∀ i,i+1<l.length→(l.getD i Rc.z).id<(l.getD (i+1) Rc.z).id
theorem rAll_ct (s:Sc) (hs:s.ok) (l:List Rc) (hl:RsOk s l):Ct Tryz.prog 33 [s.d,rcs l] fun q outs=>q=i64 0∧outs = []:=by
 have hn:=hl.n
 refine .det (De Tryz.func33 ord33 [] ?_)
 repeat' first|(refine S0 ?_;conv=>whnf)|(refine B1 ?_)|(refine B0 ?_)|(refine Br.bnot ?_)|(refine K0 ?_)|(refine Met.by (g:=23) (scheck_ct _ (by assumption)) ?_;rintro q outs ⟨rfl,rfl⟩)
 refine CodeOK.loopW hΓ hm ord33 [] (by kernel_rfl) (α:=Nat) (fun i=>[(1,rcs l),(2,.loc 0 0),(17,rcs l),(18,i64 l.length),(19,i64 i)]) (fun i=>[(0,.var s.l)]) 1 (fun i=>i≤l.length) (fun i=>l.length - i) ?_ ?_
 ·refine Again.by 0 (Nat.zero_le _) ?_
  repeat' first|(refine S0 ?_;conv=>whnf)|(refine Vo ?_)|exact T0
 ·intro i hi
  have hr:=fun h:(i:Int)<l.length=>hl.ok (l.getD (i:Int).toNat Rc.z) (getD_in (by omega))
  have ha:=fun (h:(i:Int)<l.length) (h0:0<(i:Int))=>hl.asc (i - 1) (by omega)
  repeat' first|(refine S0 ?_;conv=>whnf)|(refine Vo ?_)|exact T0|(refine W6 ?_)|(refine B1 ?_)|(refine Met.by (rcheck1_ct s hs (l.getD (i:Int).toNat Rc.z) (hr (by omega))) ?_;rintro q outs ⟨rfl,rfl⟩)|(refine Br.d (fun h=>?_) fun h=>?_)|(refine Br.bnot ?_)|(refine T2 ?_ ?_)|(refine K0 ?_)
  all_goals try simp only [Int.toNat_natCast] at *
  ·have:=ha (by omega) (by omega)
   rw [show i - 1+1=i by omega] at this
   rw [show ((i:Int) - 1).toNat=i - 1 by omega] at h
   omega
  ·refine Again.by (i+1) ⟨by omega,by omega⟩ ?_
   repeat' first|(refine S0 ?_;conv=>whnf)|(refine Vo ?_)|exact T0
  ·refine Again.by (i+1) ⟨by omega,by omega⟩ ?_
   repeat' first|(refine S0 ?_;conv=>whnf)|(refine Vo ?_)|exact T0
def mkL (s:Sc) (raws:List Str) (n:Nat):List Str:=(List.range n).map fun i=>nO s i (raws.getD i [])
theorem mkL_len (s:Sc) (raws:List Str) (n:Nat):(mkL s raws n).length=n:=by simp [mkL]
theorem mkL_at (s:Sc) (raws:List Str) (n i:Nat) (h:i<n):(mkL s raws n).getD i []=nO s i (raws.getD i []):=by
 simp [mkL,List.getD,h]
theorem mkL_succ (s:Sc) (raws:List Str) (n:Nat):mkL s raws (n+1)=mkL s raws n ++ [nO s n (raws.getD n [])]:=by
 simp [mkL,List.range_succ]
theorem mk_set (F:Nat→Str→Str) (raws:List Str) (i:Nat) (k:Nat) (hk:k=i) (hj:True) {n:Nat}:∀ j,j<n→iteL (j=k) [D.str (F i (raws.getD i []))] [D.str (if j<i then F j (raws.getD j []) else [])] = [D.str (if j<i+1 then F j (raws.getD j []) else [])]:=fun j _=>by
 subst hk
 rw [iteL_same rfl]
 by_cases e:j=k
 ·subst e;rw [if_pos rfl,if_pos (by omega)]
 ·rw [if_neg e]
  by_cases h:j<k
  ·rw [if_pos h,if_pos (by omega)]
  ·rw [if_neg h,if_neg (by omega)]
theorem make_ct (s:Sc) (hs:s.ok) (a b:Int) (h:1≤a∧a≤90∧1≤b∧b≤90) (raws:List Str) (hn:raws.length=s.f.length) (hx:∀ x ∈ raws,x.length≤10000) (he:∀ i,i<s.f.length→nE s i (raws.getD i [])=0) :
 Ct Tryz.prog 19 [s.d,i64 a,i64 b,strs raws] fun q outs=>q = .tup [Rc.d ⟨a,b,mkL s raws s.f.length⟩,i64 0]∧outs = []:=by
 have n5:=hs.n5
 refine .det (De Tryz.func19 [] [] ?_)
 repeat' first|(refine S0 ?_;conv=>whnf)|(refine Vb ?_)|(with_reducible refine Br.tt ?_)|(refine B1 ?_)|(refine Br.bnot ?_)|(refine K0 ?_)|(refine Met.by (g:=23) (scheck_ct _ (by assumption)) ?_;rintro q outs ⟨rfl,rfl⟩)|(refine Met.by (g:=46) (numbered_ct _ _ (by omega)) ?_;rintro q outs ⟨rfl,rfl⟩)
 refine CodeOK.loopW hΓ hm [] [] (by kernel_rfl) (α:=Nat) (fun i=>[(4,.loc 0 0),(8,.loc 1 0),(11,.loc 2 0),(42,strs raws),(43,i64 raws.length),(44,i64 i)]) (fun i=>[(0,.var s.l),(1,.var Rc.z.l),(2,.var [i64 a,i64 b,.own 3]),(3,.arr 9 1 raws.length fun j=>[.str (if j<i then nO s j (raws.getD j []) else [])])]) 4 (fun i=>i≤s.f.length) (fun i=>s.f.length - i) ?_ ?_
 ·refine Again.by 0 (Nat.zero_le _) ?_
  repeat' first|(refine S0 ?_;conv=>whnf)|(refine Vo ?_)|exact T0|(exact ⟨rfl,fun _ _=>rfl⟩)|(refine Vm ?_ ?_)
 ·intro i hi
  have hc:=fun h:(i:Int)<raws.length=>nX_ct s hs i (by omega) (raws.getD (i:Int).toNat []) (hx _ (getD_in (by omega)))
  have hE:=fun h:(i:Int)<raws.length=>he i (by omega)
  repeat' first|(refine S0 ?_;conv=>whnf)|(refine Vo ?_)|exact T0|(refine W6 ?_)|(refine Met.by (hc (by omega)) ?_;rintro q outs ⟨rfl,rfl⟩)|(refine Br.dT (hE (by omega)) ?_)|(refine Br.d (fun h=>?_) fun h=>?_)|(refine Br.bnot ?_)|(refine T2 ?_ ?_)|(refine K0 ?_)
  ·refine Again.by (i+1) ⟨by omega,by omega⟩ ?_
   repeat' first|(refine S0 ?_;conv=>whnf)|(refine Vo ?_)|exact T0|(exact ⟨rfl,mk_set (nO s) raws i _ (Int.toNat_natCast i) trivial⟩)|(refine Vm ?_ ?_)
  ·exact ⟨by rw [mkL_len];exact hn,fun j hj=>by
    rw [mkL_len] at hj
    dsimp only
    rw [if_pos (by omega),mkL_at _ _ _ _ hj]⟩
theorem rmake_ct' (s:Sc) (hs:s.ok) (a b:Int) (hab:1≤a∧a≤90∧1≤b∧b≤90) (raws:List Str) (hn:raws.length=s.f.length) (hx:∀ x ∈ raws,x.length≤10000) :
 Ct Tryz.prog 69 [s.d,i64 a,i64 b,strs raws] fun q outs=>∃ (x:Rc) (e:Int),(e=0→x=⟨a,b,mkL s raws s.f.length⟩∧∀ i,i<s.f.length→nE s i (raws.getD i [])=0)∧q = .tup [x.d,i64 e]∧outs = []:=by
 have n5:=hs.n5
 refine .some2 (De Tryz.func69 ord69 [] ?_)
 repeat' first|(refine S0 ?_;conv=>whnf)|(refine B1 ?_)|(refine B0 ?_)|(refine Br.swap ?_)|(refine Br.bnot ?_)|(refine K0 ?_)|(refine Met.by (g:=116) (rscheck_ct _ (by assumption)) ?_;rintro q outs ⟨rfl,rfl⟩)
 refine CodeOK.loopW hΓ hm ord69 [] (by kernel_rfl) (α:=Nat) (fun i=>[(3,strs raws),(4,.loc 0 0),(8,.loc 1 0),(11,.loc 2 0),(12,i64 i)]) (fun i=>[(0,.var s.l),(1,.var Rc.z.l),(2,.var [i64 a,i64 b,.own 3]),(3,.arr 9 1 (mkL s raws i).length fun j=>[.str ((mkL s raws i).getD j [])])]) 4 (fun i=>i≤s.f.length∧∀ j,j<i→nE s j (raws.getD j [])=0) (fun i=>s.f.length - i) ?_ ?_
 ·refine Again.by 0 ⟨Nat.zero_le _,fun _ h=>absurd h (Nat.not_lt_zero _)⟩ ?_
  repeat' first|(refine S0 ?_;conv=>whnf)|(refine Vo ?_)|exact T0|(rfl)|(refine Vm ?_ ?_)
 ·intro i ⟨hi,hp⟩
  have hl:=mkL_len s raws i
  have hc:=fun h:(i:Int)<raws.length=>rnX_ct s hs i (by omega) (raws.getD (i:Int).toNat []) (hx _ (getD_in (by omega)))
  repeat' first|(refine S0 ?_;conv=>whnf)|(refine Vo ?_)|(refine Vb ?_)|(refine W6 ?_)|(refine Met.by (hc (by omega)) ?_;rintro q outs ⟨rfl,rfl⟩)|(refine Br.d (fun h=>?_) fun h=>?_)|(refine Br.bnot ?_)|(refine K1 ?_)
  ·refine Again.by (i+1) ⟨⟨by omega,fun j hj=>by
    rcases Nat.lt_or_eq_of_le (Nat.le_of_lt_succ hj) with h1 | rfl
    ·exact hp j h1
    ·exact h⟩,by omega⟩ ?_
   rw [mkL_succ]
   repeat' first|(refine S0 ?_;conv=>whnf)|(refine Vo ?_)|exact T0|(exact str_app _ _ rfl)|(refine Vm ?_ ?_)
  ·rename_i hne
   refine Lf2.by Rc.z _ (fun e=>absurd e h) ?_
   repeat' first|(refine S0 ?_;conv=>whnf)|exact T0|(refine T2 ?_ ?_)
  ·refine Lf2.by ⟨a,b,mkL s raws s.f.length⟩ 0 (fun _=>⟨rfl,fun j hj=>hp j (by omega)⟩) ?_
   rw [show i=s.f.length by omega]
   repeat' first|(refine S0 ?_;conv=>whnf)|exact T0|exact T1|(refine T2 ?_ ?_)
end Kx
