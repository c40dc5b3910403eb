/-
  Records: what the program and the reference make of raw values.
  No condition beyond those written in each theorem.
-/
import Derived.Test.YtjommlbfjnifmaaGreatDoorKA5
import Derived.Test.YtjommlbfjnifmaaGreatDoorFD
set_option linter.unusedSimpArgs false
set_option linter.unusedVariables false
set_option maxRecDepth 4000
open Go Sx Go.Proofs
namespace Kx
def nO (s:Sc) (i:Nat) (x:Str):Str:=if x = [] then [] else nrmO s.r (s.kind i).toNat x
def nE (s:Sc) (i:Nat) (x:Str):Int:=if x = [] then 0 else nrmE s.r (s.kind i).toNat x
def nB (s:Sc) (i:Nat) (x:Str):Bool:=if x = [] then true else nrmB s.r (s.kind i).toNat x
theorem kind_nat {s:Sc} (hs:s.ok) {i:Nat} (hi:i<s.f.length):s.kind i=((s.kind i).toNat:Int):=by
 have:=hs.kd hi;omega
theorem nX_ct (s:Sc) (hs:s.ok) (i:Nat) (hi:i<s.f.length) (x:Str) (hx:x.length<=10000):Cr 55 [s.d,i64 i,.str x] (.tup [.str (nO s i x),i64 (nE s i x)]):=by
 by_cases h:x = []
 ·subst h;exact snorm0_ct s hs i hi _ (kind_nat hs hi)
 ·rw [nO,nE,if_neg h,if_neg h];exact snorm_ct s hs i hi _ (kind_nat hs hi) x hx h
theorem nBX_ct (s:Sc) (hs:s.ok) (i:Nat) (hi:i<s.f.length) (x:Str) (hx:x.length<=10000):Cr 155 [s.d,i64 i,.str x] (.bool (nB s i x)):=by
 by_cases h:x = []
 ·subst h;exact snormal0_ct s hs i hi _ (kind_nat hs hi)
 ·rw [nB,if_neg h];exact snormal_ct s hs i hi _ (kind_nat hs hi) x hx h
structure Rc where
 id:Int
 ver:Int
 v:List Str
def Rc.l (r:Rc):List D:=[i64 r.id,i64 r.ver,strs r.v]
def Rc.d (r:Rc):D:=.agg r.l
structure VOk (s:Sc) (i:Nat) (x:Str):Prop where
 b:nB s i x=true
 le:x.length<=64
 an:∀ c ∈ x,isAn c=true\/c=32
structure Rc.ok (s:Sc) (r:Rc):Prop where
 i1:1<=r.id
 i2:r.id<=90
 v1:1<=r.ver
 v2:r.ver<=90
 n:r.v.length=s.f.length
 v:∀ i,i<s.f.length->VOk s i (r.v.getD i [])
theorem numbered_ct (a b:Int) (h:1<=a/\a<=90/\1<=b/\b<=90):Cr 54 [i64 a,i64 b] (.bool true):=by
 refine .det (De Tryz.func54 [] [] ?_)
 repeat' first|refine S0 ?_;conv=>whnf|exact T0|refine B1 ?_|refine T2 ?_ ?_
 exact decide_eq_true (by omega)
theorem rcheck1_ct (s:Sc) (hs:s.ok) (r:Rc) (hr:r.ok s):Cr 102 [s.d,r.d] (i64 0):=by
 have i1:=hr.i1;have i2:=hr.i2;have v1:=hr.v1;have v2:=hr.v2;have hn:=hr.n;have n5:=hs.n5;refine .det (De Tryz.func102 [] [] ?_)
 repeat' first|refine S0 ?_;conv=>whnf|with_reducible refine Br.tt ?_|refine B1 ?_|refine Br.swap ?_|refine Br.bnot ?_|refine K0 ?_|(refine M0 (g:=54) (numbered_ct _ _ (by omega)) ?_)
 refine Lw [] [] (α:=Nat) (fun i=>[(2,.loc 0 0),(23,strs r.v),(24,i64 r.v.length),(25,i64 i)]) (fun i=>[(0,.var s.l)]) 1 (fun i=>i<=r.v.length) (fun i=>r.v.length - i) ?_ ?_
 ·refine Again.by 0 (zle _) ?_
  repeat' first|refine S0 ?_;conv=>whnf|refine Vo ?_|exact T0
 ·intro i hi
  have hv:=fun h:(i:Int)<r.v.length=>hr.v i (by omega)
  have hc:=fun h:(i:Int)<r.v.length=>nBX_ct s hs i (by omega) (r.v.getD i []) (by have:=(hv h).le;omega)
  have hb:=fun h:(i:Int)<r.v.length=>(hv h).b
  repeat' first|refine S0 ?_;conv=>whnf|refine Vo ?_|exact T0|refine W6 ?_|(refine M0 (hc (by omega)) ?_)|(refine Br.d (fun h=>?_) fun h=>?_)|refine Br.bnot ?_|(refine Bm (fun h=>?_) fun h=>?_)|refine T2 ?_ ?_|refine K0 ?_
  ·refine Again.by (i+1) ⟨by omega,by omega⟩ ?_
   repeat' first|refine S0 ?_;conv=>whnf|refine Vo ?_|exact T0
  ·rw [hb (by omega)] at h;cases h
theorem rCheck_ct (s:Sc) (hs:s.ok) (r:Rc) (hr:r.ok s):Cr 57 [s.d,r.d] (i64 0):=by
 refine .det (De Tryz.func57 [] [] ?_)
 repeat' first|refine S0 ?_;conv=>whnf|exact T0|refine B1 ?_|(refine M0 (rcheck1_ct s hs r hr) ?_)|refine Br.bnot ?_|refine T2 ?_ ?_|refine K0 ?_|(refine M0 (g:=26) (scheck_ct _ (by assumption)) ?_)
def Rc.z:Rc:=⟨0,0,[]⟩
def mkL (s:Sc) (raws:List Str) (n:Nat):List Str:=(List.range n).map fun i=>nO s i (raws.getD i [])
theorem mkL_len (s:Sc) (raws:List Str) (n:Nat):(mkL s raws n).length=n:=by simp [mkL]
theorem mkL_at (s:Sc) (raws:List Str) (n i:Nat) (h:i<n):(mkL s raws n).getD i []=nO s i (raws.getD i []):=by
 simp [mkL,List.getD,h]
theorem mk_set (F:Nat->Str->Str) (raws:List Str) (i:Nat) (k:Nat) (hk:k=i) (hj:True) {n:Nat}:∀ j,j<n->iteL (j=k) [D.str (F i (raws.getD i []))] [D.str (if j<i then F j (raws.getD j []) else [])] = [D.str (if j<i+1 then F j (raws.getD j []) else [])]:=fun j _=>by
 subst hk;rw [iteL_same rfl];by_cases e:j=k
 ·subst e;rw [if_pos rfl,if_pos (by omega)]
 ·rw [if_neg e];by_cases h:j<k
  ·rw [if_pos h,if_pos (by omega)]
  ·rw [if_neg h,if_neg (by omega)]
theorem make_ct (s:Sc) (hs:s.ok) (a b:Int) (h:1<=a/\a<=90/\1<=b/\b<=90) (raws:List Str) (hn:raws.length=s.f.length) (hx:∀ x ∈ raws,x.length<=10000) (he:∀ i,i<s.f.length->nE s i (raws.getD i [])=0) :
 Cr 22 [s.d,i64 a,i64 b,strs raws] (.tup [Rc.d ⟨a,b,mkL s raws s.f.length⟩,i64 0]):=by
 have n5:=hs.n5;refine .det (De Tryz.func22 [] [] ?_)
 repeat' first|refine S0 ?_;conv=>whnf|refine Vb ?_|with_reducible refine Br.tt ?_|refine B1 ?_|refine Br.bnot ?_|refine K0 ?_|(refine M0 (g:=26) (scheck_ct _ (by assumption)) ?_)|(refine M0 (g:=54) (numbered_ct _ _ (by omega)) ?_)
 refine Lw [] [] (α:=Nat) (fun i=>[(4,.loc 0 0),(8,.loc 1 0),(11,.loc 2 0),(42,strs raws),(43,i64 raws.length),(44,i64 i)]) (fun i=>[(0,.var s.l),(1,.var Rc.z.l),(2,.var [i64 a,i64 b,.own 3]),(3,.arr 9 1 raws.length fun j=>[.str (if j<i then nO s j (raws.getD j []) else [])])]) 4 (fun i=>i<=s.f.length) (fun i=>s.f.length - i) ?_ ?_
 ·refine Again.by 0 (zle _) ?_
  repeat' first|refine S0 ?_;conv=>whnf|refine Vo ?_|exact T0|(exact ⟨rfl,fun _ _=>rfl⟩)|refine Vm ?_ ?_
 ·intro i hi
  have hc:=fun h:(i:Int)<raws.length=>nX_ct s hs i (by omega) (raws.getD (i:Int).toNat []) (hx _ (getD_in (by omega)))
  have hE:=fun h:(i:Int)<raws.length=>he i (by omega)
  repeat' first|refine S0 ?_;conv=>whnf|refine Vo ?_|exact T0|refine W6 ?_|(refine M0 (hc (by omega)) ?_)|(refine Br.dT (hE (by omega)) ?_)|(refine Br.d (fun h=>?_) fun h=>?_)|refine Br.bnot ?_|refine T2 ?_ ?_|refine K0 ?_
  ·refine Again.by (i+1) ⟨by omega,by omega⟩ ?_
   repeat' first|refine S0 ?_;conv=>whnf|refine Vo ?_|exact T0|(exact ⟨rfl,mk_set (nO s) raws i _ (tnc i) trivial⟩)|refine Vm ?_ ?_
  ·exact ⟨by rw [mkL_len];exact hn,fun j hj=>by
    rw [mkL_len] at hj;dsimp only
    rw [if_pos (by omega),mkL_at _ _ _ _ hj]⟩
end Kx
open Go Sx Go.Proofs
namespace Kx
def u64s (l:List Int):D:=.tab 1 l.length fun i=>[u64 (l.getD i 0)]
def u64sO (l:List Int):D:=.ftab 80 1 l.length fun i=>[u64 (l.getD i 0)]
def LenOk (L:Int):Prop:=L=64\/L=128\/L=192
def rightB' (L:Int):Bool:=decide (64<=L/\L<=512/\L.tmod 64=0)
theorem right_of (L:Int) (h:LenOk L):rightB' L=true:=by
 rcases h with rfl | rfl | rfl<;>rfl
theorem bright_ct (L:Int):Cr 202 [i64 L] (.bool (rightB' L)):=by
 refine .det (De Tryz.func202 [] [] ?_)
 repeat' first|refine S0 ?_;conv=>whnf|refine Vo ?_|exact T0|(refine Br.d (fun h=>?_) fun h=>?_)|refine T2 ?_ ?_
 all_goals (simp [rightB', *];try omega)
theorem bright_is (L:Int) (v:Bool) (h:rightB' L=v):Cr 202 [i64 L] (.bool v):=h ▸ bright_ct L
theorem bnew_ct (L:Int) (h:LenOk L):Cr 154 [i64 L] (.tup [.agg [i64 L,u64sO (List.replicate (L / 64).toNat 0)],i64 0]):=by
 have hr:=right_of L h
 have hL:64<=L/\L<=192:=by rcases h with rfl | rfl | rfl<;>omega
 refine .det (De Tryz.func154 [] [] ?_)
 repeat' first|(rw [Int.tdiv_eq_ediv_of_nonneg (by omega)])|refine S0 ?_;conv=>whnf|refine Vo ?_|refine Vb ?_|exact T0|refine W6 ?_|with_reducible refine Br.tt ?_|(refine M0 (bright_is L _ hr) ?_)|refine Br.bnot ?_|refine T2 ?_ ?_|refine K0 ?_
 refine ⟨by simp,fun i hi=>?_⟩
 have:(List.replicate (L / 64).toNat (0:Int)).getD i 0=0:=by
  simp [List.getD,List.getElem?_replicate]
  split<;>rfl
 dsimp only;rw [this];rfl
structure Pm where
 L:Int
 h:Int
 s:Int
def Pm.l (p:Pm):List D:=[i64 p.L,i64 p.h,i64 p.s]
def Pm.d (p:Pm):D:=.agg p.l
structure Pm.ok (p:Pm):Prop where
 L:LenOk p.L
 h1:1<=p.h
 h2:p.h<=16
 s1 : -1<=p.s
 s2:p.s<5
theorem bcheck_ct (p:Pm) (hp:p.ok):Cr 101 [p.d] (i64 0):=by
 have hL:=hp.L;have h1:=hp.h1;have h2:=hp.h2;have s1:=hp.s1;have s2:=hp.s2;refine .det (De Tryz.func101 [] [] ?_)
 repeat' first|refine S0 ?_;conv=>whnf|exact T0|refine B1 ?_|refine B0 ?_|(refine M0 (bnew_ct _ hL) ?_)|refine Br.swap ?_|refine Br.bnot ?_|refine T2 ?_ ?_|refine K0 ?_
def posX (L:Int) (k:Int × Int) (g:Str):Int:=(sip k (partsB [[49],g])).tmod L
def posY (L:Int) (k:Int × Int) (g:Str):Int:=1+(sip k (partsB [[50],g])).tmod (L - 1)
def posN (L x y:Int):Nat->Int
 | 0=>x| i+1=>(posN L x y i+y).tmod L
def posL (L:Int) (k:Int × Int) (g:Str) (n:Nat):List Int:=(List.range n).map (posN L (posX L k g) (posY L k g))
theorem tmod_in {a L:Int} (h0:0<=a) (hL:0<L):0<=a.tmod L/\a.tmod L<L:=by
 rw [Int.tmod_eq_emod_of_nonneg h0];exact ⟨Int.emod_nonneg _ (by omega),Int.emod_lt_of_pos _ hL⟩
theorem posN_in {L x y:Int} (hL:0<L) (hx:0<=x/\x<L) (hy:0<=y):∀ i,0<=posN L x y i/\posN L x y i<L
 | 0=>hx| i+1=>tmod_in (by have:=posN_in hL hx hy i;omega) hL
theorem len_pos {L:Int} (h:LenOk L):64<=L/\L<=192:=by rcases h with rfl | rfl | rfl<;>omega
theorem drawn_ct (p:Pm) (hp:p.ok) (k:Int × Int) (g:Str) (hg:g.length<=1000):Cr 235 [p.d,.agg [u64 k.1,u64 k.2],.str g] (.fn 266 [.fbox [i64 (posX p.L k g)],.fbox [i64 (posY p.L k g)],.fbox p.l,.fbox [i64 (posX p.L k g)]]):=by
 have hL:=len_pos hp.L;have h1:=hp.h1;have h2:=hp.h2;have e1:=parts2_ct k [49] g (by decide) (by omega);have e2:=parts2_ct k [50] g (by decide) (by omega);have hx:0<=(sip k (partsB [[49],g])).tmod p.L/\(sip k (partsB [[49],g])).tmod p.L<p.L:=tmod_in (sip_in _ _).1 (by omega);have hy:0<=(sip k (partsB [[50],g])).tmod (p.L - 1)/\(sip k (partsB [[50],g])).tmod (p.L - 1)<p.L - 1:=tmod_in (sip_in _ _).1 (by omega);refine .det (De Tryz.func235 ord235 [] ?_)
 repeat' first|refine S0 ?_;conv=>whnf|refine Vo ?_|exact T0|exact noSh_int _ _|refine W6 ?_|(refine M0 e1 ?_)|(refine M0 e2 ?_)|(refine Wr.u64 ?_ ?_;omega)|refine T2 ?_ ?_|refine K1 ?_|refine Vm ?_ ?_
 all_goals rfl
theorem posL_len (L:Int) (k:Int × Int) (g:Str) (n:Nat):(posL L k g n).length=n:=by simp [posL]
theorem posL_at (L:Int) (k:Int × Int) (g:Str) (n i:Nat) (h:i<n):(posL L k g n).getD i 0=posN L (posX L k g) (posY L k g) i:=by simp [posL,List.getD,h]
theorem pos_set (F:Nat->Int) (i k:Nat) (hk:k=i) {n:Nat}:∀ j,j<n->iteL (j=k) [i64 (F i)] [i64 (if j<i then F j else 0)] = [i64 (if j<i+1 then F j else 0)]:=fun j _=>by
 subst hk;rw [iteL_same rfl];by_cases e:j=k
 ·subst e;rw [if_pos rfl,if_pos (by omega)]
 ·rw [if_neg e];by_cases h:j<k
  ·rw [if_pos h,if_pos (by omega)]
  ·rw [if_neg h,if_neg (by omega)]
set_option maxHeartbeats 1000000 in
theorem positions_ct (p:Pm) (hp:p.ok) (k:Int × Int) (g:Str) (hg:g.length<=1000):Cr 203 [p.d,.agg [u64 k.1,u64 k.2],.str g] (.tup [ints (posL p.L k g p.h.toNat),i64 0]):=by
 have hL:=len_pos hp.L;have h1:=hp.h1;have h2:=hp.h2;have hx:0<=posX p.L k g/\posX p.L k g<p.L:=tmod_in (sip_in _ _).1 (by omega);have hy:0<=(sip k (partsB [[50],g])).tmod (p.L - 1)/\(sip k (partsB [[50],g])).tmod (p.L - 1)<p.L - 1:=tmod_in (sip_in _ _).1 (by omega);have hy:1<=posY p.L k g/\posY p.L k g<p.L:=⟨by unfold posY;omega,by unfold posY;omega⟩;have hP:=posN_in (L:=p.L) (by omega) hx (y:=posY p.L k g) (by omega);have hA:=posL_at p.L k g p.h.toNat;have hl:=posL_len p.L k g p.h.toNat;have hd:=drawn_ct p hp k g hg;generalize posX p.L k g=x at *;generalize posY p.L k g=y at *;refine .det (De Tryz.func203 ord203 [4] ?_)
 repeat' first|refine S0 ?_;conv=>whnf|refine B1 ?_|refine Br.bnot ?_|refine K0 ?_|(refine M0 (g:=101) (bcheck_ct _ (by assumption)) ?_)
 refine Cw ord203 [] (α:=Unit) (fun u=>[(9,.own 4),(10,.fn 266 [.loc 0 0,.loc 1 0,.loc 2 0,.loc 3 0])]) (fun u=>[(0,.var [i64 x]),(1,.var [i64 y]),(2,.var p.l),(3,.var [i64 x]),(4,.arr 3 1 p.h.toNat fun j=>[i64 0])]) 5 (fun u=>True) ?_ ?_
 ·repeat' first|refine S0 ?_;conv=>whnf|refine Vb ?_|exact T0|(refine M0 hd ?_)|refine T2 ?_ ?_|refine K1 ?_
  all_goals refine Again.by () trivial ?_
  all_goals
   repeat' first|refine S0 ?_;conv=>whnf|refine Vo ?_|exact T0|refine Cho.r ?_|refine Vm ?_ ?_
  all_goals first
   | exact ⟨rfl,fun _ _=>rfl⟩
   | rfl
 ·intro _ _
  repeat' first|refine S0 ?_;conv=>whnf
  refine Lw ord203 [] (α:=Nat × Int) (fun z=>[(9,.own 4),(10,.fn 266 [.loc 0 0,.loc 1 0,.loc 2 0,.loc 3 0]),(25,i64 p.h.toNat),(26,i64 z.1)]) (fun z=>[(0,.var [i64 (posN p.L x y z.1)]),(1,.var [i64 y]),(2,.var p.l),(3,.var [i64 z.2]),(4,.arr 3 1 p.h.toNat fun j=>[i64 (if j<z.1 then posN p.L x y j else 0)])]) 5 (fun z=>z.1<=p.h.toNat) (fun z=>p.h.toNat - z.1) ?_ ?_
  ·refine Again.by (0,x) (zle _) ?_
   repeat' first|refine S0 ?_;conv=>whnf|refine Vo ?_|exact T0|refine Cho.r ?_|(exact ⟨rfl,fun _ _=>rfl⟩)|(rfl)|refine Vm ?_ ?_
  ·intro ⟨i,v⟩ hi;have hPi:=hP i;dsimp only at hi ⊢
   repeat' first|refine S0 ?_;conv=>whnf|refine Vo ?_|exact T0|refine W6 ?_|(refine CallOK.inl (f:=266) (fn:=Tryz.f266) hΓ hm Tryz.func266 ord266 [] (by kernel_rfl) (fun V=>?_))|(refine Br.d (fun h=>?_) fun h=>?_)|refine T2 ?_ ?_
   all_goals try refine Again.by (i+1,posN p.L x y i) ⟨by dsimp only;omega,by dsimp only;omega⟩ ?_
   all_goals
    repeat' first|refine S0 ?_;conv=>whnf|refine Vo ?_|exact T0|refine Cho.r ?_|(exact ⟨rfl,pos_set (posN p.L x y) i _ (tnc i)⟩)|(rfl)|refine Vm ?_ ?_
   exact ⟨hl.symm,fun j hj=>by rw [hl] at hj;dsimp only;rw [hA j hj,if_pos (by omega)]⟩
def setBit (w:List Int) (i:Int):List Int:=w.set (i / 64).toNat (bitI .or .u64 (w.getD (i / 64).toNat 0) (IntKind.u64.wrap (1*2 ^ (min (i % 64).toNat IntKind.u64.bits))))
theorem setBit_len (w:List Int) (i:Int):(setBit w i).length=w.length:=by simp [setBit]
theorem setBits_len:∀ (l w:List Int),(l.foldl setBit w).length=w.length
 | [],_=>rfl
 | i :: l,w=>by rw [List.foldl_cons,setBits_len l,setBit_len]
def encG (p:Pm) (k:Int × Int) (w:List Int) (g:Str):List Int:=(posL p.L k g p.h.toNat).foldl setBit w
def encW (p:Pm) (k:Int × Int) (gs:List Str):List Int:=gs.foldl (encG p k) (List.replicate (p.L / 64).toNat 0)
theorem encG_len (p:Pm) (k:Int × Int) (w:List Int) (g:Str):(encG p k w g).length=w.length:=setBits_len _ _
theorem encs_len (p:Pm) (k:Int × Int):∀ (gs:List Str) (w:List Int),(gs.foldl (encG p k) w).length=w.length
 | [],_=>rfl
 | g :: gs,w=>by rw [List.foldl_cons,encs_len p k gs,encG_len]
theorem encW_len (p:Pm) (k:Int × Int) (gs:List Str):(encW p k gs).length=(p.L / 64).toNat:=by rw [encW,encs_len,List.length_replicate]
theorem posL_in (p:Pm) (hp:p.ok) (k:Int × Int) (g:Str) (n j:Nat) (hj:j<(posL p.L k g n).length):0<=(posL p.L k g n).getD j 0/\(posL p.L k g n).getD j 0<p.L:=by
 have hL:=len_pos hp.L;rw [posL_len] at hj;rw [posL_at _ _ _ _ _ hj];have hx:0<=posX p.L k g/\posX p.L k g<p.L:=tmod_in (sip_in _ _).1 (by omega);have hy:0<=(sip k (partsB [[50],g])).tmod (p.L - 1)/\(sip k (partsB [[50],g])).tmod (p.L - 1)<p.L - 1:=tmod_in (sip_in _ _).1 (by omega);exact posN_in (by omega) hx (by unfold posY;omega) j
theorem foldl_take {α β:Type} (f:β->α->β) (z:α) (l:List α) (b:β) (j:Nat) (h:j<l.length):(l.take (j+1)).foldl f b=f ((l.take j).foldl f b) (l.getD j z):=by
 rw [take_step l z j h,List.foldl_append];rfl
theorem w_set (w:List Int) (q:Nat) (x:Int):w.length=(w.set q x).length/\∀ i,i<(w.set q x).length->iteL (i=q) [u64 x] [u64 (w.getD i 0)] = [u64 ((w.set q x).getD i 0)] :=
 set_one (fun x:Int=>[u64 x]) 0 (fun _ _=>rfl) w q x rfl
set_option maxHeartbeats 1000000 in
theorem bencode_ct (p:Pm) (hp:p.ok) (k:Int × Int) (gs:List Str) (h80:gs.length<=80) (hg:∀ g ∈ gs,g.length<=1000):Cr 157 [p.d,.agg [u64 k.1,u64 k.2],strs gs] (.tup [.agg [i64 p.L,u64s (encW p k gs)],i64 0]):=by
 have hLo:=hp.L;have hL:=len_pos hp.L;have h1:=hp.h1;have h2:=hp.h2;refine .det (De Tryz.func157 ord157 [] ?_)
 repeat' first|refine S0 ?_;conv=>whnf|refine B1 ?_|refine B0 ?_|(refine M0 (bnew_ct _ hLo) ?_)|refine Br.bnot ?_|refine K0 ?_|(refine M0 (g:=101) (bcheck_ct _ (by assumption)) ?_)
 all_goals
  refine Lw ord157 [] (α:=Nat) (fun i=>[(3,.loc 0 0),(4,.loc 1 0),(6,.loc 2 0),(9,.loc 3 0),(33,strs gs),(34,i64 gs.length),(35,i64 i)]) (fun i=>[(0,.var p.l),(1,.var [u64 k.1,u64 k.2]),(2,.var [i64 0,.nil]),(3,.var [i64 p.L,.own 4]),(4,.arr 80 1 (encW p k (gs.take i)).length fun j=>[u64 ((encW p k (gs.take i)).getD j 0)])]) 5 (fun i=>i<=gs.length) (fun i=>gs.length - i) ?_ ?_
  ·refine Again.by 0 (zle _) ?_
   repeat' first|refine S0 ?_;conv=>whnf|refine Vo ?_|exact T0|(exact ⟨rfl,fun _ _=>rfl⟩)|refine Vm ?_ ?_
  ·intro i hi;have hw:=encW_len p k (gs.take i)
   have hgi:=fun h:(i:Int)<gs.length=>hg (gs.getD (i:Int).toNat []) (getD_in (by omega))
   repeat' first|refine S0 ?_;conv=>whnf|refine Vo ?_|exact T0|(refine M0 (positions_ct p hp k _ (hgi (by omega))) ?_)|(refine Br.d (fun h=>?_) fun h=>?_)|refine T2 ?_ ?_|refine K0 ?_
   ·have hin:=posL_in p hp k (gs.getD (i:Int).toNat []) p.h.toNat
    have hst:i<gs.length->encW p k (gs.take (i+1))=(posL p.L k (gs.getD i []) p.h.toNat).foldl setBit (encW p k (gs.take i)):=fun h=>foldl_take (encG p k) [] gs _ i h
    have hLs:=posL_len p.L k (gs.getD i []) p.h.toNat;simp only [tnc] at hin ⊢;generalize encW p k (gs.take i)=w at *;generalize posL p.L k (gs.getD i []) p.h.toNat=Ls at *;refine Lw ord157 [] (α:=Nat) (fun j=>[(3,.loc 0 0),(4,.loc 1 0),(6,.loc 2 0),(9,.loc 3 0),(33,strs gs),(34,i64 gs.length),(35,i64 i),(46,ints Ls),(47,i64 Ls.length),(48,i64 j)]) (fun j=>[(0,.var p.l),(1,.var [u64 k.1,u64 k.2]),(2,.var [i64 0,.nil]),(3,.var [i64 p.L,.own 4]),(4,.arr 80 1 ((Ls.take j).foldl setBit w).length fun q=>[u64 (((Ls.take j).foldl setBit w).getD q 0)])]) 5 (fun j=>j<=Ls.length) (fun j=>Ls.length - j) ?_ ?_
    ·refine Again.by 0 (zle _) ?_
     repeat' first|refine S0 ?_;conv=>whnf|refine Vo ?_|exact T0|(exact ⟨rfl,fun _ _=>rfl⟩)|refine Vm ?_ ?_
    ·intro j hj;have hlw:=setBits_len (Ls.take j) w;have hji:=hin j
     have hs2:=fun h=>foldl_take setBit 0 Ls w j h
     generalize hve:(Ls.take j).foldl setBit w=v at *;by_cases hlt:j<Ls.length
     ·have hv:0<=Ls.getD (j:Int).toNat 0/\Ls.getD (j:Int).toNat 0<p.L:=hin j hlt
      have h64:p.L % 64=0:=by rcases hLo with e | e | e<;>rw [e]<;>rfl
      have hq:0<=Ls.getD (j:Int).toNat 0 / 64/\Ls.getD (j:Int).toNat 0 / 64<v.length:=by omega
      have hs3:(Ls.take (j+1)).foldl setBit w=setBit v (Ls.getD (j:Int).toNat 0):=hs2 hlt
      repeat' first|(rw [Int.tdiv_eq_ediv_of_nonneg (by omega)])|(rw [Int.tmod_eq_emod_of_nonneg (by omega)])|refine S0 ?_;conv=>whnf|refine Vo ?_|refine W6 ?_|refine B1 ?_|refine Wr.raw ?_
      all_goals refine Again.by (j+1) ⟨by omega,by omega⟩ ?_
      all_goals rw [hs3]
      all_goals
       repeat' first|refine S0 ?_;conv=>whnf|refine Vo ?_|exact T0|(exact w_set v _ _)|refine Vm ?_ ?_
     ·repeat' first|refine S0 ?_;conv=>whnf|refine W6 ?_|refine B0 ?_
      refine Again.by (i+1) ⟨by omega,by omega⟩ ?_
      have e:v=encW p k (gs.take (i+1)):=by rw [hst (by omega),<-hve,List.take_of_length_le (by omega)]
      rw [<-e]
      repeat' first|refine S0 ?_;conv=>whnf|refine Vo ?_|exact T0
   ·have e:gs.take i=gs:=List.take_of_length_le (by omega);rw [e];exact ⟨rfl,fun _ _=>rfl⟩
end Kx
open Go Sx Go.Proofs
namespace Kx
def aN (a b:Int):Int:=bitI .and .u64 a b
def shS (x n:Int):Int:=x.fdiv (2 ^ min n.toNat IntKind.u64.bits)
def popS (x:Int):Int :=
 let x1:=sA (aN (shS x 1) 6148914691236517205) (aN x 6148914691236517205)
 let x2:=sA (aN (shS x1 2) 3689348814741910323) (aN x1 3689348814741910323)
 let x3:=aN (sA (shS x2 4) x2) 1085102592571150095
 let x4:=sA x3 (shS x3 8)
 let x5:=sA x4 (shS x4 16)
 let x6:=sA x5 (shS x5 32)
 bitI .and .i64 (IntKind.i64.wrap x6) 127
theorem pop_ct (x:Int):Cr 162 [u64 x] (i64 (popS x)):=by
 refine .det (De Tryz.func162 [] [] ?_)
 repeat' first|refine S0 ?_;conv=>whnf|refine Vo ?_|exact T0|refine Wr.raw ?_|refine T2 ?_ ?_
 all_goals rfl
theorem and127 (a:Int):0<=bitI .and .i64 a 127/\bitI .and .i64 a 127<=127:=by
 have h:((BitVec.ofInt IntKind.i64.bits a &&& BitVec.ofInt IntKind.i64.bits 127).toNat)<=127:=by
  rw [BitVec.toNat_and];exact Nat.le_trans Nat.and_le_right (by decide)
 show 0<=IntKind.i64.wrap _/\IntKind.i64.wrap _<=127
 rw [wi _ (by omega)];omega
theorem pop_in (x:Int):0<=popS x/\popS x<=127:=by
 unfold popS;exact and127 _
structure Bs where
 L:Int
 w:List Int
def Bs.l (b:Bs):List D:=[i64 b.L,u64s b.w]
def Bs.d (b:Bs):D:=.agg b.l
structure Bs.ok (b:Bs):Prop where
 L:LenOk b.L
 n:b.w.length=(b.L / 64).toNat
theorem Bs.ok.le {b:Bs} (h:b.ok):b.w.length<=3:=by
 have:=len_pos h.L;have:=h.n;omega
theorem bvalid_ct (b:Bs) (hb:b.ok):Cr 161 [b.d] (.bool true):=by
 have hr:=right_of b.L hb.L;have hn:=hb.n;have hL:=len_pos hb.L;refine .det (De Tryz.func161 [] [] ?_)
 repeat' first|(rw [Int.tdiv_eq_ediv_of_nonneg (by omega)])|refine S0 ?_;conv=>whnf|refine Vo ?_|exact T0|refine W6 ?_|(refine M0 (bright_is b.L _ hr) ?_)|(refine Bm (fun h=>?_) fun h=>?_)|refine T2 ?_ ?_|refine K0 ?_
 exact decide_eq_true (by omega)
theorem bvalid0_ct:Cr 161 [.agg [i64 0,u64s []]] (.bool false):=by
 refine .det (De Tryz.func161 [] [] ?_)
 repeat' first|refine S0 ?_;conv=>whnf|refine Vo ?_|exact T0|(refine M0 (bright_is 0 false rfl) ?_)|(refine Bm (fun h=>?_) fun h=>?_)|refine T2 ?_ ?_|refine K0 ?_
def cntS (w:List Int):Int:=w.foldl (fun n x=>n+popS x) 0
theorem cnt_bd:∀ (w:List Int) (n:Int),0<=n->0<=w.foldl (fun n x=>n+popS x) n/\w.foldl (fun n x=>n+popS x) n<=n+127*w.length
 | [],n,h=>⟨h,by simp⟩
 | x :: w,n,h=>by
   have hp:=pop_in x;have:=cnt_bd w (n+popS x) (by omega);simp only [List.foldl_cons,List.length_cons];omega
theorem cnt_in (w:List Int):0<=cntS w/\cntS w<=127*w.length:=by
 have:=cnt_bd w 0 (by omega);unfold cntS;omega
theorem count_ct (b:Bs) (hb:b.ok):Cr 107 [b.d] (i64 (cntS b.w)):=by
 have hle:=hb.le;refine .det (De Tryz.func107 [] [] ?_)
 repeat' first|refine S0 ?_;conv=>whnf|with_reducible refine Br.tt ?_|(refine M0 (bvalid_ct b hb) ?_)|refine Br.bnot ?_|refine K0 ?_
 refine Lw [] [] (α:=Nat) (fun i=>[(3,i64 (cntS (b.w.take i))),(10,u64s b.w),(11,i64 b.w.length),(12,i64 i)]) (fun i=>[]) 0 (fun i=>i<=b.w.length) (fun i=>b.w.length - i) ?_ ?_
 ·refine Again.by 0 (zle _) ?_
  repeat' first|refine S0 ?_;conv=>whnf|refine Vo ?_|exact T0|(rfl)|refine Vm ?_ ?_
 ·intro i hi;have hc:=cnt_in (b.w.take i);rw [List.length_take] at hc;have hp:=pop_in (b.w.getD (i:Int).toNat 0)
  have hst:=fun h:i<b.w.length=>foldl_take (fun n x=>n+popS x) 0 b.w 0 i h
  repeat' first|refine S0 ?_;conv=>whnf|refine Vo ?_|exact T0|refine W6 ?_|(refine Br.d (fun h=>?_) fun h=>?_)|refine T2 ?_ ?_|refine K0 ?_|(refine M0 (g:=162) (pop_ct _) ?_)
  ·refine Again.by (i+1) ⟨by omega,by omega⟩ ?_
   have e:cntS (b.w.take (i+1))=cntS (b.w.take i)+popS (b.w.getD (i:Int).toNat 0):=hst (by omega);rw [e]
   repeat' first|refine S0 ?_;conv=>whnf|refine Vo ?_|exact T0
  ·rw [List.take_of_length_le (by omega)]
def andW (a b:List Int) (n:Nat):List Int:=(List.range n).map fun i=>aN (a.getD i 0) (b.getD i 0)
theorem and1_ct (x y:Int):Cr 160 [u64 x,u64 y] (u64 (aN x y)):=by
 refine .det (De Tryz.func160 [] [] ?_)
 repeat' first|refine S0 ?_;conv=>whnf|exact T0|refine T2 ?_ ?_
 all_goals rfl
theorem u_set (F:Nat->Int) (i k:Nat) (hk:k=i) {n:Nat}:∀ j,j<n->iteL (j=k) [u64 (F i)] [u64 (if j<i then F j else 0)] = [u64 (if j<i+1 then F j else 0)]:=fun j _=>by
 subst hk;rw [iteL_same rfl];by_cases e:j=k
 ·subst e;rw [if_pos rfl,if_pos (by omega)]
 ·rw [if_neg e];by_cases h:j<k
  ·rw [if_pos h,if_pos (by omega)]
  ·rw [if_neg h,if_neg (by omega)]
set_option maxHeartbeats 1000000 in
theorem both_ct (a b:Bs) (ha:a.ok) (hb:b.ok) (hl:a.L=b.L):Cr 159 [a.d,b.d,.fn 160 []] (.tup [.agg [i64 a.L,u64s (andW a.w b.w a.w.length)],i64 0]):=by
 have hle:=ha.le
 have hn:b.w.length=a.w.length:=by rw [ha.n,hb.n,hl]
 refine .det (De Tryz.func159 ord159 [] ?_)
 repeat' first|refine S0 ?_;conv=>whnf|refine Vb ?_|exact T0|with_reducible refine Br.tt ?_|refine B1 ?_|(refine M0 (bvalid_ct a ha) ?_)|(refine M0 (bvalid_ct b hb) ?_)|refine Br.swap ?_|refine Br.bnot ?_|refine T2 ?_ ?_|refine K0 ?_
 all_goals
  refine Lw ord159 [] (α:=Nat) (fun i=>[(2,.fn 160 []),(3,.loc 0 0),(4,.loc 1 0),(6,.loc 2 0),(8,.loc 3 0),(35,u64s a.w),(36,i64 a.w.length),(37,i64 i)]) (fun i=>[(0,.var a.l),(1,.var b.l),(2,.var [i64 0,.nil]),(3,.var [i64 a.L,.own 4]),(4,.arr 80 1 a.w.length fun j=>[u64 (if j<i then aN (a.w.getD j 0) (b.w.getD j 0) else 0)])]) 5 (fun i=>i<=a.w.length) (fun i=>a.w.length - i) ?_ ?_
  ·refine Again.by 0 (zle _) ?_
   repeat' first|refine S0 ?_;conv=>whnf|refine Vo ?_|exact T0|refine Cho.r ?_|(exact ⟨rfl,fun _ _=>rfl⟩)|refine Vm ?_ ?_
  ·intro i hi
   repeat' first|refine S0 ?_;conv=>whnf|refine Vo ?_|exact T0|refine W6 ?_|(refine M0 (and1_ct _ _) ?_)|(refine Br.d (fun h=>?_) fun h=>?_)|refine T2 ?_ ?_|refine K0 ?_
   all_goals try refine Again.by (i+1) ⟨by omega,by omega⟩ ?_
   all_goals
    repeat' first|refine S0 ?_;conv=>whnf|refine Vo ?_|exact T0|refine Cho.r ?_|(exact ⟨rfl,u_set (fun j=>aN (a.w.getD j 0) (b.w.getD j 0)) i _ (tnc i)⟩)|refine Vm ?_ ?_
   all_goals exact ⟨by simp [andW],fun j hj=>by
    have hj' : j<a.w.length:=by simpa [andW] using hj
    dsimp only
    rw [if_pos (by omega),show (andW a.w b.w a.w.length).getD j 0=aN (a.w.getD j 0) (b.w.getD j 0) by simp [andW,List.getD,hj']]⟩
theorem and_ct (a b:Bs) (ha:a.ok) (hb:b.ok) (hl:a.L=b.L):Cr 106 [a.d,b.d] (.tup [.agg [i64 a.L,u64s (andW a.w b.w a.w.length)],i64 0]):=by
 refine .det (De Tryz.func106 [] [] ?_)
 repeat' first|refine S0 ?_;conv=>whnf|exact T0|exact T1|(refine M0 (both_ct a b ha hb hl) ?_)|refine T2 ?_ ?_|refine K0 ?_
def dice (a b:Bs):Int :=
 let all:=cntS a.w+cntS b.w
 if all=0 then 0 else (4000*cntS (andW a.w b.w a.w.length)+all).tdiv (2*all)
theorem dice_ct (a b:Bs) (ha:a.ok) (hb:b.ok) (hl:a.L=b.L):Cr 60 [a.d,b.d] (i64 (dice a b)):=by
 have h3:=ha.le;have h3b:=hb.le;have ho:(⟨a.L,andW a.w b.w a.w.length⟩:Bs).ok:=⟨ha.L,by simp only [andW,List.length_map,List.length_range];exact ha.n⟩;have c1:=cnt_in a.w;have c2:=cnt_in b.w;have c3:=cnt_in (andW a.w b.w a.w.length)
 have hl3:(andW a.w b.w a.w.length).length=a.w.length:=by simp [andW]
 have e1:=count_ct a ha;have e2:=count_ct b hb;have e3:=count_ct _ ho;unfold dice;generalize cntS a.w=x at *;generalize cntS b.w=y at *;generalize cntS (andW a.w b.w a.w.length)=z at *
 have hq:0<=(4000*z+(x+y)).tdiv (2*(x+y))/\(4000*z+(x+y)).tdiv (2*(x+y))<=4000*z+(x+y):=by
  rw [Int.tdiv_eq_ediv_of_nonneg (by omega)];exact ⟨Int.ediv_nonneg (by omega) (by omega),Int.ediv_le_self _ (by omega)⟩
 refine .det (De Tryz.func60 ord60 [] ?_)
 repeat' first|refine S0 ?_;conv=>whnf|refine Vo ?_|exact T0|refine W6 ?_|refine B1 ?_|(refine M0 (and_ct a b ha hb hl) ?_)|(refine M0 e1 ?_)|(refine M0 e2 ?_)|(refine M0 e3 ?_)|(refine Br.d (fun h=>?_) fun h=>?_)|refine Br.bnot ?_|refine T2 ?_ ?_|refine K0 ?_|refine K1 ?_
 ·dsimp only;rw [if_pos h]
 ·dsimp only;rw [if_neg h]
end Kx
open Go Sx Go.Proofs
namespace Kx
structure En where
 id:Int
 ver:Int
 f:List Bs
def Bs.z:Bs:=⟨0,[]⟩
def bss (l:List Bs):D:=.tab 2 l.length fun i=>(l.getD i Bs.z).l
def En.l (e:En):List D:=[i64 e.id,i64 e.ver,bss e.f]
def En.d (e:En):D:=.agg e.l
theorem sfields_ct (n:Int) (h:1<=n/\n<=5):Cr 59 [i64 n] (.bool true):=by
 refine .det (De Tryz.func59 [] [] ?_)
 repeat' first|refine S0 ?_;conv=>whnf|exact T0|refine B1 ?_|refine T2 ?_ ?_
 all_goals exact decide_eq_true (by omega)
def dices (a b:List Bs) (n:Nat):List Int:=(List.range n).map fun i=>dice (a.getD i Bs.z) (b.getD i Bs.z)
theorem dices_succ (a b:List Bs) (n:Nat):dices a b (n+1)=dices a b n ++ [dice (a.getD n Bs.z) (b.getD n Bs.z)]:=by simp [dices,List.range_succ]
theorem dices_len (a b:List Bs) (n:Nat):(dices a b n).length=n:=by simp [dices]
theorem compare_ct' (a b:En) (h1:1<=a.f.length) (h5:a.f.length<=5) (hn:b.f.length=a.f.length) (ha:∀ i,i<a.f.length->(a.f.getD i Bs.z).ok) (hb:∀ i,i<a.f.length->(b.f.getD i Bs.z).ok) (hl:∀ i,i<a.f.length->(a.f.getD i Bs.z).L=(b.f.getD i Bs.z).L) :
 Cr 24 [a.d,b.d] (.tup [ints (dices a.f b.f a.f.length),i64 0]):=by
 refine .det (De Tryz.func24 ord24 [] ?_)
 repeat' first|refine S0 ?_;conv=>whnf|with_reducible refine Br.tt ?_|refine B1 ?_|refine Br.swap ?_|refine Br.bnot ?_|refine K0 ?_|(refine M0 (g:=59) (sfields_ct _ (by omega)) ?_)
 refine Lw ord24 [] (α:=Nat) (fun i=>[(2,.loc 0 0),(3,.loc 1 0),(6,.own 2),(24,bss a.f),(25,i64 a.f.length),(26,i64 i)]) (fun i=>[(0,.var a.l),(1,.var b.l),(2,.arr 3 1 (dices a.f b.f i).length fun j=>[i64 ((dices a.f b.f i).getD j 0)])]) 3 (fun i=>i<=a.f.length) (fun i=>a.f.length - i) ?_ ?_
 ·refine Again.by 0 (zle _) ?_
  repeat' first|refine S0 ?_;conv=>whnf|refine Vo ?_|exact T0|(rfl)|refine Vm ?_ ?_
 ·intro i hi
  have hd:=fun h:i<a.f.length=>dice_ct _ _ (ha i h) (hb i h) (hl i h)
  have hln:=dices_len a.f b.f i
  repeat' first|refine S0 ?_;conv=>whnf|refine Vo ?_|refine Vb ?_|exact T0|refine W6 ?_|(refine M0 (hd (by omega)) ?_)|(refine Br.d (fun h=>?_) fun h=>?_)|refine T2 ?_ ?_|refine K1 ?_
  ·refine Again.by (i+1) ⟨by omega,by omega⟩ ?_
   rw [dices_succ]
   repeat' first|refine S0 ?_;conv=>whnf|refine Vo ?_|exact T0|(exact app_one (fun x:Int=>[i64 x]) 0 (fun _ _=>rfl) _ _ rfl)|refine Vm ?_ ?_
  ·rw [show i=a.f.length by omega];exact ⟨rfl,fun _ _=>rfl⟩
theorem number2_ct:Cr 61 [.tab 1 2 fun _=>[i64 2]] (.tup [i64 8,i64 0]):=by
 refine .det (De Tryz.func61 [] [] ?_)
 repeat' first|refine S0 ?_;conv=>whnf|with_reducible refine Br.tt ?_|refine Br.bnot ?_|refine K0 ?_|(refine M0 (g:=59) (sfields_ct _ (by omega)) ?_)
 refine Lw [] [] (α:=Nat) (fun i=>[(4,i64 (if i=0 then 0 else if i=1 then 2 else 8)),(11,.tab 1 2 fun _=>[i64 2]),(12,i64 2),(13,i64 i)]) (fun i=>[]) 0 (fun i=>i<=2) (fun i=>2 - i) ?_ ?_
 ·refine Again.by 0 (zle _) ?_
  repeat' first|refine S0 ?_;conv=>whnf|refine Vo ?_|exact T0
 ·intro i hi
  have h3:i=0\/i=1\/i=2:=by omega
  rcases h3 with rfl | rfl | rfl
  ·repeat' first|refine S0 ?_;conv=>whnf|refine Vo ?_|exact T0|refine W6 ?_|refine B1 ?_|refine B0 ?_|refine Br.swap ?_|refine K0 ?_|(refine Met.inl (f:=108) (fn:=Tryz.f108) hΓ hm Tryz.func108 [] [] (by kernel_rfl) ?_)|refine Vm ?_ ?_
   refine Again.by 1 ⟨by omega,by omega⟩ ?_
   repeat' first|refine S0 ?_;conv=>whnf|refine Vo ?_|exact T0
  ·repeat' first|refine S0 ?_;conv=>whnf|refine Vo ?_|exact T0|refine W6 ?_|refine B1 ?_|refine B0 ?_|refine Br.swap ?_|refine K0 ?_|(refine Met.inl (f:=108) (fn:=Tryz.f108) hΓ hm Tryz.func108 [] [] (by kernel_rfl) ?_)|refine Vm ?_ ?_
   refine Again.by 2 ⟨by omega,by omega⟩ ?_
   repeat' first|refine S0 ?_;conv=>whnf|refine Vo ?_|exact T0
  ·repeat' first|refine S0 ?_;conv=>whnf|exact T0|refine B0 ?_|refine T2 ?_ ?_
   all_goals rfl
theorem number2_at {f:Nat->List D} (hf:∀ j,j<2->f j = [i64 2]):Cr 61 [.tab 1 2 f] (.tup [i64 8,i64 0]) :=
 number2_ct.arg ⟨rfl,⟨rfl,hf⟩,trivial⟩
theorem pattern2_ct:Cr 25 [.tab 1 2 fun _=>[i64 800],.tab 1 2 fun _=>[i64 1000]] (.tup [i64 8,i64 0]):=by
 refine .det (De Tryz.func25 [] [] ?_)
 repeat' first|refine S0 ?_;conv=>whnf|refine Vb ?_|with_reducible refine Br.tt ?_|refine B1 ?_|refine Br.swap ?_|refine Br.bnot ?_|refine K0 ?_|(refine M0 (g:=59) (sfields_ct _ (by omega)) ?_)
 refine Lw [] [] (α:=Nat) (fun i=>[(1,.tab 1 2 fun _=>[i64 1000]),(6,.own 0),(24,.tab 1 2 fun _=>[i64 800]),(25,i64 2),(26,i64 i)]) (fun i=>[(0,.arr 3 1 2 fun j=>[i64 (if j<i then 2 else 0)])]) 1 (fun i=>i<=2) (fun i=>2 - i) ?_ ?_
 ·refine Again.by 0 (zle _) ?_
  repeat' first|refine S0 ?_;conv=>whnf|refine Vo ?_|exact T0|(exact ⟨rfl,fun _ _=>rfl⟩)|refine Vm ?_ ?_
 ·intro i hi
  repeat' first|refine S0 ?_;conv=>whnf|refine Vo ?_|exact T0|refine W6 ?_|refine B0 ?_|(refine M0 (number2_at (fun j hj=>by show [i64 (if j<i then (2:Int) else 0)]=_;rw [if_pos (show j<i by omega)])) ?_)|(exact ⟨trivial,trivial,trivial⟩)|(refine Br.d (fun h=>?_) fun h=>?_)|refine Br.swap ?_|refine T2 ?_ ?_|refine K0 ?_|refine Vm ?_ ?_
  refine Again.by (i+1) ⟨by omega,by omega⟩ ?_
  repeat' first|refine S0 ?_;conv=>whnf|refine Vo ?_|exact T0|(exact ⟨rfl,pos_set (fun _=>2) i _ (tnc i)⟩)|refine Vm ?_ ?_
end Kx
