/-
  Arrays of bits, positions of grams.
  No condition beyond those written in each theorem.
-/
import Derived.Test.YtfinddimpfiohaaGreatDoorKA6
import Derived.Test.YtfinddimpfiohaaGreatDoorKA7
import Derived.Test.YtfinddimpfiohaaGreatDoorKA2
import Derived.Test.YtfinddimpfiohaaGreatDoorFD
import Derived.Lib.ItoaNum
set_option linter.unusedSimpArgs false
set_option linter.unusedVariables false
set_option maxRecDepth 4000
open Go Sx Go.Proofs
namespace Kx
def u64s (l:List Int):D:=.tab 1 l.length fun i=>[u64 (l.getD i 0)]
def u64sO (l:List Int):D:=.ftab 43 1 l.length fun i=>[u64 (l.getD i 0)]
def LenOk (L:Int):Prop:=L=64\/L=128\/L=192
def rightB' (L:Int):Bool:=decide (64<=L/\L<=512/\L.tmod 64=0)
theorem right_of (L:Int) (h:LenOk L):rightB' L=true:=by
 rcases h with rfl | rfl | rfl<;>rfl
theorem bright_ct (L:Int):Cr 165 [i64 L] (.bool (rightB' L)):=by
 refine .det (De Tryz.func165 [] [] ?_)
 repeat' first|refine S0 ?_;conv=>whnf|refine Vo ?_|exact T0|(refine Br.d (fun h=>?_) fun h=>?_)|refine T2 ?_ ?_
 all_goals (simp [rightB', *];try omega)
theorem bright_is (L:Int) (v:Bool) (h:rightB' L=v):Cr 165 [i64 L] (.bool v):=h ▸ bright_ct L
theorem bnew_ct (L:Int) (h:LenOk L):Cr 102 [i64 L] (.tup [.agg [i64 L,u64sO (List.replicate (L / 64).toNat 0)],i64 0]):=by
 have hr:=right_of L h
 have hL:64<=L/\L<=192:=by rcases h with rfl | rfl | rfl<;>omega
 refine .det (De Tryz.func102 [] [] ?_)
 repeat' first|(rw [Int.tdiv_eq_ediv_of_nonneg (by omega)])|refine S0 ?_;conv=>whnf|refine Vo ?_|refine Vb ?_|exact T0|refine W6 ?_|with_reducible refine Br.tt ?_|(refine M0 (bright_is L _ hr) ?_)|refine Br.bnot ?_|refine T2 ?_ ?_|refine K0 ?_
 refine ⟨by simp,fun i hi=>?_⟩
 have:(List.replicate (L / 64).toNat (0:Int)).getD i 0=0:=by
  simp [List.getD,List.getElem?_replicate]
  split<;>rfl
 dsimp only;rw [this];rfl
structure Pm where
 L:Int
 h:Int
 s:Int
def Pm.l (p:Pm):List D:=[i64 p.L,i64 p.h,i64 p.s]
def Pm.d (p:Pm):D:=.agg p.l
structure Pm.ok (p:Pm):Prop where
 L:LenOk p.L
 h1:1<=p.h
 h2:p.h<=16
 s1 : -1<=p.s
 s2:p.s<5
theorem bcheck_ct (p:Pm) (hp:p.ok):Cr 61 [p.d] (i64 0):=by
 have hL:=hp.L;have h1:=hp.h1;have h2:=hp.h2;have s1:=hp.s1;have s2:=hp.s2;refine .det (De Tryz.func61 [] [] ?_)
 repeat' first|refine S0 ?_;conv=>whnf|exact T0|refine B1 ?_|refine B0 ?_|(refine M0 (bnew_ct _ hL) ?_)|refine Br.swap ?_|refine Br.bnot ?_|refine T2 ?_ ?_|refine K0 ?_
def posX (L:Int) (k:Int × Int) (g:Str):Int:=(sip k (partsB [[49],g])).tmod L
def posY (L:Int) (k:Int × Int) (g:Str):Int:=1+(sip k (partsB [[50],g])).tmod (L - 1)
def posN (L x y:Int):Nat->Int
 | 0=>x| i+1=>(posN L x y i+y).tmod L
def posL (L:Int) (k:Int × Int) (g:Str) (n:Nat):List Int:=(List.range n).map (posN L (posX L k g) (posY L k g))
theorem tmod_in {a L:Int} (h0:0<=a) (hL:0<L):0<=a.tmod L/\a.tmod L<L:=by
 rw [Int.tmod_eq_emod_of_nonneg h0];exact ⟨Int.emod_nonneg _ (by omega),Int.emod_lt_of_pos _ hL⟩
theorem posN_in {L x y:Int} (hL:0<L) (hx:0<=x/\x<L) (hy:0<=y):∀ i,0<=posN L x y i/\posN L x y i<L
 | 0=>hx| i+1=>tmod_in (by have:=posN_in hL hx hy i;omega) hL
theorem len_pos {L:Int} (h:LenOk L):64<=L/\L<=192:=by rcases h with rfl | rfl | rfl<;>omega
theorem drawn_ct (p:Pm) (hp:p.ok) (k:Int × Int) (g:Str) (hg:g.length<=1000):Cr 271 [p.d,.agg [u64 k.1,u64 k.2],.str g] (.fn 313 [.fbox [i64 (posX p.L k g)],.fbox [i64 (posY p.L k g)],.fbox p.l,.fbox [i64 (posX p.L k g)]]):=by
 have hL:=len_pos hp.L;have h1:=hp.h1;have h2:=hp.h2;have e1:=parts2_ct k [49] g (by decide) (by omega);have e2:=parts2_ct k [50] g (by decide) (by omega);have hx:0<=(sip k (partsB [[49],g])).tmod p.L/\(sip k (partsB [[49],g])).tmod p.L<p.L:=tmod_in (sip_in _ _).1 (by omega);have hy:0<=(sip k (partsB [[50],g])).tmod (p.L - 1)/\(sip k (partsB [[50],g])).tmod (p.L - 1)<p.L - 1:=tmod_in (sip_in _ _).1 (by omega);refine .det (De Tryz.func271 ord271 [] ?_)
 repeat' first|refine S0 ?_;conv=>whnf|refine Vo ?_|exact T0|exact noSh_int _ _|refine W6 ?_|(refine M0 e1 ?_)|(refine M0 e2 ?_)|(refine Wr.u64 ?_ ?_;omega)|refine T2 ?_ ?_|refine K1 ?_|refine Vm ?_ ?_
 all_goals rfl
theorem posL_len (L:Int) (k:Int × Int) (g:Str) (n:Nat):(posL L k g n).length=n:=by simp [posL]
theorem posL_at (L:Int) (k:Int × Int) (g:Str) (n i:Nat) (h:i<n):(posL L k g n).getD i 0=posN L (posX L k g) (posY L k g) i:=by simp [posL,List.getD,h]
theorem pos_set (F:Nat->Int) (i k:Nat) (hk:k=i) {n:Nat}:∀ j,j<n->iteL (j=k) [i64 (F i)] [i64 (if j<i then F j else 0)] = [i64 (if j<i+1 then F j else 0)]:=fun j _=>by
 subst hk;rw [iteL_same rfl];by_cases e:j=k
 ·subst e;rw [if_pos rfl,if_pos (by omega)]
 ·rw [if_neg e];by_cases h:j<k
  ·rw [if_pos h,if_pos (by omega)]
  ·rw [if_neg h,if_neg (by omega)]
set_option maxHeartbeats 1000000 in
theorem positions_ct (p:Pm) (hp:p.ok) (k:Int × Int) (g:Str) (hg:g.length<=1000):Cr 210 [p.d,.agg [u64 k.1,u64 k.2],.str g] (.tup [ints (posL p.L k g p.h.toNat),i64 0]):=by
 have hL:=len_pos hp.L;have h1:=hp.h1;have h2:=hp.h2;have hx:0<=posX p.L k g/\posX p.L k g<p.L:=tmod_in (sip_in _ _).1 (by omega);have hy:0<=(sip k (partsB [[50],g])).tmod (p.L - 1)/\(sip k (partsB [[50],g])).tmod (p.L - 1)<p.L - 1:=tmod_in (sip_in _ _).1 (by omega);have hy:1<=posY p.L k g/\posY p.L k g<p.L:=⟨by unfold posY;omega,by unfold posY;omega⟩;have hP:=posN_in (L:=p.L) (by omega) hx (y:=posY p.L k g) (by omega);have hA:=posL_at p.L k g p.h.toNat;have hl:=posL_len p.L k g p.h.toNat;have hd:=drawn_ct p hp k g hg;generalize posX p.L k g=x at *;generalize posY p.L k g=y at *;refine .det (De Tryz.func210 ord210 [4] ?_)
 repeat' first|refine S0 ?_;conv=>whnf|refine B1 ?_|refine Br.bnot ?_|refine K0 ?_|(refine M0 (g:=61) (bcheck_ct _ (by assumption)) ?_)
 refine Cw ord210 [] (α:=Unit) (fun u=>[(9,.own 4),(10,.fn 313 [.loc 0 0,.loc 1 0,.loc 2 0,.loc 3 0])]) (fun u=>[(0,.var [i64 x]),(1,.var [i64 y]),(2,.var p.l),(3,.var [i64 x]),(4,.arr 3 1 p.h.toNat fun j=>[i64 0])]) 5 (fun u=>True) ?_ ?_
 ·repeat' first|refine S0 ?_;conv=>whnf|refine Vb ?_|exact T0|(refine M0 hd ?_)|refine T2 ?_ ?_|refine K1 ?_
  all_goals refine Again.by () trivial ?_
  all_goals
   repeat' first|refine S0 ?_;conv=>whnf|refine Vo ?_|exact T0|refine Cho.r ?_|refine Vm ?_ ?_
  all_goals first
   | exact ⟨rfl,fun _ _=>rfl⟩
   | rfl
 ·intro _ _
  repeat' first|refine S0 ?_;conv=>whnf
  refine Lw ord210 [] (α:=Nat × Int) (fun z=>[(9,.own 4),(10,.fn 313 [.loc 0 0,.loc 1 0,.loc 2 0,.loc 3 0]),(25,i64 p.h.toNat),(26,i64 z.1)]) (fun z=>[(0,.var [i64 (posN p.L x y z.1)]),(1,.var [i64 y]),(2,.var p.l),(3,.var [i64 z.2]),(4,.arr 3 1 p.h.toNat fun j=>[i64 (if j<z.1 then posN p.L x y j else 0)])]) 5 (fun z=>z.1<=p.h.toNat) (fun z=>p.h.toNat - z.1) ?_ ?_
  ·refine Again.by (0,x) (zle _) ?_
   repeat' first|refine S0 ?_;conv=>whnf|refine Vo ?_|exact T0|refine Cho.r ?_|(exact ⟨rfl,fun _ _=>rfl⟩)|(rfl)|refine Vm ?_ ?_
  ·intro ⟨i,v⟩ hi;have hPi:=hP i;dsimp only at hi ⊢
   repeat' first|refine S0 ?_;conv=>whnf|refine Vo ?_|exact T0|refine W6 ?_|(refine CallOK.inl (f:=313) (fn:=Tryz.f313) hΓ hm Tryz.func313 ord313 [] (by kernel_rfl) (fun V=>?_))|(refine Br.d (fun h=>?_) fun h=>?_)|refine T2 ?_ ?_
   all_goals try refine Again.by (i+1,posN p.L x y i) ⟨by dsimp only;omega,by dsimp only;omega⟩ ?_
   all_goals
    repeat' first|refine S0 ?_;conv=>whnf|refine Vo ?_|exact T0|refine Cho.r ?_|(exact ⟨rfl,pos_set (posN p.L x y) i _ (tnc i)⟩)|(rfl)|refine Vm ?_ ?_
   exact ⟨hl.symm,fun j hj=>by rw [hl] at hj;dsimp only;rw [hA j hj,if_pos (by omega)]⟩
def setBit (w:List Int) (i:Int):List Int:=w.set (i / 64).toNat (bitI .or .u64 (w.getD (i / 64).toNat 0) (IntKind.u64.wrap (1*2 ^ (min (i % 64).toNat IntKind.u64.bits))))
theorem setBit_len (w:List Int) (i:Int):(setBit w i).length=w.length:=by simp [setBit]
theorem setBits_len:∀ (l w:List Int),(l.foldl setBit w).length=w.length
 | [],_=>rfl
 | i :: l,w=>by rw [List.foldl_cons,setBits_len l,setBit_len]
def encG (p:Pm) (k:Int × Int) (w:List Int) (g:Str):List Int:=(posL p.L k g p.h.toNat).foldl setBit w
def encW (p:Pm) (k:Int × Int) (gs:List Str):List Int:=gs.foldl (encG p k) (List.replicate (p.L / 64).toNat 0)
theorem encG_len (p:Pm) (k:Int × Int) (w:List Int) (g:Str):(encG p k w g).length=w.length:=setBits_len _ _
theorem encs_len (p:Pm) (k:Int × Int):∀ (gs:List Str) (w:List Int),(gs.foldl (encG p k) w).length=w.length
 | [],_=>rfl
 | g :: gs,w=>by rw [List.foldl_cons,encs_len p k gs,encG_len]
theorem encW_len (p:Pm) (k:Int × Int) (gs:List Str):(encW p k gs).length=(p.L / 64).toNat:=by rw [encW,encs_len,List.length_replicate]
theorem posL_in (p:Pm) (hp:p.ok) (k:Int × Int) (g:Str) (n j:Nat) (hj:j<(posL p.L k g n).length):0<=(posL p.L k g n).getD j 0/\(posL p.L k g n).getD j 0<p.L:=by
 have hL:=len_pos hp.L;rw [posL_len] at hj;rw [posL_at _ _ _ _ _ hj];have hx:0<=posX p.L k g/\posX p.L k g<p.L:=tmod_in (sip_in _ _).1 (by omega);have hy:0<=(sip k (partsB [[50],g])).tmod (p.L - 1)/\(sip k (partsB [[50],g])).tmod (p.L - 1)<p.L - 1:=tmod_in (sip_in _ _).1 (by omega);exact posN_in (by omega) hx (by unfold posY;omega) j
theorem foldl_take {α β:Type} (f:β->α->β) (z:α) (l:List α) (b:β) (j:Nat) (h:j<l.length):(l.take (j+1)).foldl f b=f ((l.take j).foldl f b) (l.getD j z):=by
 rw [take_step l z j h,List.foldl_append];rfl
theorem w_set (w:List Int) (q:Nat) (x:Int):w.length=(w.set q x).length/\∀ i,i<(w.set q x).length->iteL (i=q) [u64 x] [u64 (w.getD i 0)] = [u64 ((w.set q x).getD i 0)] :=
 set_one (fun x:Int=>[u64 x]) 0 (fun _ _=>rfl) w q x rfl
set_option maxHeartbeats 1000000 in
theorem bencode_ct (p:Pm) (hp:p.ok) (k:Int × Int) (gs:List Str) (h80:gs.length<=80) (hg:∀ g ∈ gs,g.length<=1000):Cr 138 [p.d,.agg [u64 k.1,u64 k.2],strs gs] (.tup [.agg [i64 p.L,u64s (encW p k gs)],i64 0]):=by
 have hLo:=hp.L;have hL:=len_pos hp.L;have h1:=hp.h1;have h2:=hp.h2;refine .det (De Tryz.func138 ord138 [] ?_)
 repeat' first|refine S0 ?_;conv=>whnf|refine B1 ?_|refine B0 ?_|(refine M0 (bnew_ct _ hLo) ?_)|refine Br.bnot ?_|refine K0 ?_|(refine M0 (g:=61) (bcheck_ct _ (by assumption)) ?_)
 all_goals
  refine Lw ord138 [] (α:=Nat) (fun i=>[(3,.loc 0 0),(4,.loc 1 0),(6,.loc 2 0),(9,.loc 3 0),(33,strs gs),(34,i64 gs.length),(35,i64 i)]) (fun i=>[(0,.var p.l),(1,.var [u64 k.1,u64 k.2]),(2,.var [i64 0,.nil]),(3,.var [i64 p.L,.own 4]),(4,.arr 43 1 (encW p k (gs.take i)).length fun j=>[u64 ((encW p k (gs.take i)).getD j 0)])]) 5 (fun i=>i<=gs.length) (fun i=>gs.length - i) ?_ ?_
  ·refine Again.by 0 (zle _) ?_
   repeat' first|refine S0 ?_;conv=>whnf|refine Vo ?_|exact T0|(exact ⟨rfl,fun _ _=>rfl⟩)|refine Vm ?_ ?_
  ·intro i hi;have hw:=encW_len p k (gs.take i)
   have hgi:=fun h:(i:Int)<gs.length=>hg (gs.getD (i:Int).toNat []) (getD_in (by omega))
   repeat' first|refine S0 ?_;conv=>whnf|refine Vo ?_|exact T0|(refine M0 (positions_ct p hp k _ (hgi (by omega))) ?_)|(refine Br.d (fun h=>?_) fun h=>?_)|refine T2 ?_ ?_|refine K0 ?_
   ·have hin:=posL_in p hp k (gs.getD (i:Int).toNat []) p.h.toNat
    have hst:i<gs.length->encW p k (gs.take (i+1))=(posL p.L k (gs.getD i []) p.h.toNat).foldl setBit (encW p k (gs.take i)):=fun h=>foldl_take (encG p k) [] gs _ i h
    have hLs:=posL_len p.L k (gs.getD i []) p.h.toNat;simp only [tnc] at hin ⊢;generalize encW p k (gs.take i)=w at *;generalize posL p.L k (gs.getD i []) p.h.toNat=Ls at *;refine Lw ord138 [] (α:=Nat) (fun j=>[(3,.loc 0 0),(4,.loc 1 0),(6,.loc 2 0),(9,.loc 3 0),(33,strs gs),(34,i64 gs.length),(35,i64 i),(46,ints Ls),(47,i64 Ls.length),(48,i64 j)]) (fun j=>[(0,.var p.l),(1,.var [u64 k.1,u64 k.2]),(2,.var [i64 0,.nil]),(3,.var [i64 p.L,.own 4]),(4,.arr 43 1 ((Ls.take j).foldl setBit w).length fun q=>[u64 (((Ls.take j).foldl setBit w).getD q 0)])]) 5 (fun j=>j<=Ls.length) (fun j=>Ls.length - j) ?_ ?_
    ·refine Again.by 0 (zle _) ?_
     repeat' first|refine S0 ?_;conv=>whnf|refine Vo ?_|exact T0|(exact ⟨rfl,fun _ _=>rfl⟩)|refine Vm ?_ ?_
    ·intro j hj;have hlw:=setBits_len (Ls.take j) w;have hji:=hin j
     have hs2:=fun h=>foldl_take setBit 0 Ls w j h
     generalize hve:(Ls.take j).foldl setBit w=v at *;by_cases hlt:j<Ls.length
     ·have hv:0<=Ls.getD (j:Int).toNat 0/\Ls.getD (j:Int).toNat 0<p.L:=hin j hlt
      have h64:p.L % 64=0:=by rcases hLo with e | e | e<;>rw [e]<;>rfl
      have hq:0<=Ls.getD (j:Int).toNat 0 / 64/\Ls.getD (j:Int).toNat 0 / 64<v.length:=by omega
      have hs3:(Ls.take (j+1)).foldl setBit w=setBit v (Ls.getD (j:Int).toNat 0):=hs2 hlt
      repeat' first|(rw [Int.tdiv_eq_ediv_of_nonneg (by omega)])|(rw [Int.tmod_eq_emod_of_nonneg (by omega)])|refine S0 ?_;conv=>whnf|refine Vo ?_|refine W6 ?_|refine B1 ?_|refine Wr.raw ?_
      all_goals refine Again.by (j+1) ⟨by omega,by omega⟩ ?_
      all_goals rw [hs3]
      all_goals
       repeat' first|refine S0 ?_;conv=>whnf|refine Vo ?_|exact T0|(exact w_set v _ _)|refine Vm ?_ ?_
     ·repeat' first|refine S0 ?_;conv=>whnf|refine W6 ?_|refine B0 ?_
      refine Again.by (i+1) ⟨by omega,by omega⟩ ?_
      have e:v=encW p k (gs.take (i+1)):=by rw [hst (by omega),<-hve,List.take_of_length_le (by omega)]
      rw [<-e]
      repeat' first|refine S0 ?_;conv=>whnf|refine Vo ?_|exact T0
   ·have e:gs.take i=gs:=List.take_of_length_le (by omega);rw [e];exact ⟨rfl,fun _ _=>rfl⟩
end Kx
open Go Sx Go.Proofs
namespace Kx
def aN (a b:Int):Int:=bitI .and .u64 a b
def shS (x n:Int):Int:=x.fdiv (2 ^ min n.toNat IntKind.u64.bits)
def popS (x:Int):Int :=
 let x1:=sA (aN (shS x 1) 6148914691236517205) (aN x 6148914691236517205)
 let x2:=sA (aN (shS x1 2) 3689348814741910323) (aN x1 3689348814741910323)
 let x3:=aN (sA (shS x2 4) x2) 1085102592571150095
 let x4:=sA x3 (shS x3 8)
 let x5:=sA x4 (shS x4 16)
 let x6:=sA x5 (shS x5 32)
 bitI .and .i64 (IntKind.i64.wrap x6) 127
theorem pop_ct (x:Int):Cr 142 [u64 x] (i64 (popS x)):=by
 refine .det (De Tryz.func142 [] [] ?_)
 repeat' first|refine S0 ?_;conv=>whnf|refine Vo ?_|exact T0|refine Wr.raw ?_|refine T2 ?_ ?_
 all_goals rfl
theorem and127 (a:Int):0<=bitI .and .i64 a 127/\bitI .and .i64 a 127<=127:=by
 have h:((BitVec.ofInt IntKind.i64.bits a &&& BitVec.ofInt IntKind.i64.bits 127).toNat)<=127:=by
  rw [BitVec.toNat_and];exact Nat.le_trans Nat.and_le_right (by decide)
 show 0<=IntKind.i64.wrap _/\IntKind.i64.wrap _<=127
 rw [wi _ (by omega)];omega
theorem pop_in (x:Int):0<=popS x/\popS x<=127:=by
 unfold popS;exact and127 _
structure Bs where
 L:Int
 w:List Int
def Bs.l (b:Bs):List D:=[i64 b.L,u64s b.w]
def Bs.d (b:Bs):D:=.agg b.l
structure Bs.ok (b:Bs):Prop where
 L:LenOk b.L
 n:b.w.length=(b.L / 64).toNat
theorem Bs.ok.le {b:Bs} (h:b.ok):b.w.length<=3:=by
 have:=len_pos h.L;have:=h.n;omega
theorem bvalid_ct (b:Bs) (hb:b.ok):Cr 104 [b.d] (.bool true):=by
 have hr:=right_of b.L hb.L;have hn:=hb.n;have hL:=len_pos hb.L;refine .det (De Tryz.func104 [] [] ?_)
 repeat' first|(rw [Int.tdiv_eq_ediv_of_nonneg (by omega)])|refine S0 ?_;conv=>whnf|refine Vo ?_|exact T0|refine W6 ?_|(refine M0 (bright_is b.L _ hr) ?_)|(refine Bm (fun h=>?_) fun h=>?_)|refine T2 ?_ ?_|refine K0 ?_
 exact decide_eq_true (by omega)
theorem bvalid0_ct:Cr 104 [.agg [i64 0,u64s []]] (.bool false):=by
 refine .det (De Tryz.func104 [] [] ?_)
 repeat' first|refine S0 ?_;conv=>whnf|refine Vo ?_|exact T0|(refine M0 (bright_is 0 false rfl) ?_)|(refine Bm (fun h=>?_) fun h=>?_)|refine T2 ?_ ?_|refine K0 ?_
def cntS (w:List Int):Int:=w.foldl (fun n x=>n+popS x) 0
theorem cnt_bd:∀ (w:List Int) (n:Int),0<=n->0<=w.foldl (fun n x=>n+popS x) n/\w.foldl (fun n x=>n+popS x) n<=n+127*w.length
 | [],n,h=>⟨h,by simp⟩
 | x :: w,n,h=>by
   have hp:=pop_in x;have:=cnt_bd w (n+popS x) (by omega);simp only [List.foldl_cons,List.length_cons];omega
theorem cnt_in (w:List Int):0<=cntS w/\cntS w<=127*w.length:=by
 have:=cnt_bd w 0 (by omega);unfold cntS;omega
theorem count_ct (b:Bs) (hb:b.ok):Cr 86 [b.d] (i64 (cntS b.w)):=by
 have hle:=hb.le;refine .det (De Tryz.func86 [] [] ?_)
 repeat' first|refine S0 ?_;conv=>whnf|with_reducible refine Br.tt ?_|(refine M0 (bvalid_ct b hb) ?_)|refine Br.bnot ?_|refine K0 ?_
 refine Lw [] [] (α:=Nat) (fun i=>[(3,i64 (cntS (b.w.take i))),(10,u64s b.w),(11,i64 b.w.length),(12,i64 i)]) (fun i=>[]) 0 (fun i=>i<=b.w.length) (fun i=>b.w.length - i) ?_ ?_
 ·refine Again.by 0 (zle _) ?_
  repeat' first|refine S0 ?_;conv=>whnf|refine Vo ?_|exact T0|(rfl)|refine Vm ?_ ?_
 ·intro i hi;have hc:=cnt_in (b.w.take i);rw [List.length_take] at hc;have hp:=pop_in (b.w.getD (i:Int).toNat 0)
  have hst:=fun h:i<b.w.length=>foldl_take (fun n x=>n+popS x) 0 b.w 0 i h
  repeat' first|refine S0 ?_;conv=>whnf|refine Vo ?_|exact T0|refine W6 ?_|(refine Br.d (fun h=>?_) fun h=>?_)|refine T2 ?_ ?_|refine K0 ?_|(refine M0 (g:=142) (pop_ct _) ?_)
  ·refine Again.by (i+1) ⟨by omega,by omega⟩ ?_
   have e:cntS (b.w.take (i+1))=cntS (b.w.take i)+popS (b.w.getD (i:Int).toNat 0):=hst (by omega);rw [e]
   repeat' first|refine S0 ?_;conv=>whnf|refine Vo ?_|exact T0
  ·rw [List.take_of_length_le (by omega)]
def andW (a b:List Int) (n:Nat):List Int:=(List.range n).map fun i=>aN (a.getD i 0) (b.getD i 0)
theorem and1_ct (x y:Int):Cr 141 [u64 x,u64 y] (u64 (aN x y)):=by
 refine .det (De Tryz.func141 [] [] ?_)
 repeat' first|refine S0 ?_;conv=>whnf|exact T0|refine T2 ?_ ?_
 all_goals rfl
theorem u_set (F:Nat->Int) (i k:Nat) (hk:k=i) {n:Nat}:∀ j,j<n->iteL (j=k) [u64 (F i)] [u64 (if j<i then F j else 0)] = [u64 (if j<i+1 then F j else 0)]:=fun j _=>by
 subst hk;rw [iteL_same rfl];by_cases e:j=k
 ·subst e;rw [if_pos rfl,if_pos (by omega)]
 ·rw [if_neg e];by_cases h:j<k
  ·rw [if_pos h,if_pos (by omega)]
  ·rw [if_neg h,if_neg (by omega)]
set_option maxHeartbeats 1000000 in
theorem both_ct (a b:Bs) (ha:a.ok) (hb:b.ok) (hl:a.L=b.L):Cr 140 [a.d,b.d,.fn 141 []] (.tup [.agg [i64 a.L,u64s (andW a.w b.w a.w.length)],i64 0]):=by
 have hle:=ha.le
 have hn:b.w.length=a.w.length:=by rw [ha.n,hb.n,hl]
 refine .det (De Tryz.func140 ord140 [] ?_)
 repeat' first|refine S0 ?_;conv=>whnf|refine Vb ?_|exact T0|with_reducible refine Br.tt ?_|refine B1 ?_|(refine M0 (bvalid_ct a ha) ?_)|(refine M0 (bvalid_ct b hb) ?_)|refine Br.swap ?_|refine Br.bnot ?_|refine T2 ?_ ?_|refine K0 ?_
 all_goals
  refine Lw ord140 [] (α:=Nat) (fun i=>[(2,.fn 141 []),(3,.loc 0 0),(4,.loc 1 0),(6,.loc 2 0),(8,.loc 3 0),(35,u64s a.w),(36,i64 a.w.length),(37,i64 i)]) (fun i=>[(0,.var a.l),(1,.var b.l),(2,.var [i64 0,.nil]),(3,.var [i64 a.L,.own 4]),(4,.arr 43 1 a.w.length fun j=>[u64 (if j<i then aN (a.w.getD j 0) (b.w.getD j 0) else 0)])]) 5 (fun i=>i<=a.w.length) (fun i=>a.w.length - i) ?_ ?_
  ·refine Again.by 0 (zle _) ?_
   repeat' first|refine S0 ?_;conv=>whnf|refine Vo ?_|exact T0|refine Cho.r ?_|(exact ⟨rfl,fun _ _=>rfl⟩)|refine Vm ?_ ?_
  ·intro i hi
   repeat' first|refine S0 ?_;conv=>whnf|refine Vo ?_|exact T0|refine W6 ?_|(refine M0 (and1_ct _ _) ?_)|(refine Br.d (fun h=>?_) fun h=>?_)|refine T2 ?_ ?_|refine K0 ?_
   all_goals try refine Again.by (i+1) ⟨by omega,by omega⟩ ?_
   all_goals
    repeat' first|refine S0 ?_;conv=>whnf|refine Vo ?_|exact T0|refine Cho.r ?_|(exact ⟨rfl,u_set (fun j=>aN (a.w.getD j 0) (b.w.getD j 0)) i _ (tnc i)⟩)|refine Vm ?_ ?_
   all_goals exact ⟨by simp [andW],fun j hj=>by
    have hj' : j<a.w.length:=by simpa [andW] using hj
    dsimp only
    rw [if_pos (by omega),show (andW a.w b.w a.w.length).getD j 0=aN (a.w.getD j 0) (b.w.getD j 0) by simp [andW,List.getD,hj']]⟩
theorem and_ct (a b:Bs) (ha:a.ok) (hb:b.ok) (hl:a.L=b.L):Cr 85 [a.d,b.d] (.tup [.agg [i64 a.L,u64s (andW a.w b.w a.w.length)],i64 0]):=by
 refine .det (De Tryz.func85 [] [] ?_)
 repeat' first|refine S0 ?_;conv=>whnf|exact T0|exact T1|(refine M0 (both_ct a b ha hb hl) ?_)|refine T2 ?_ ?_|refine K0 ?_
def dice (a b:Bs):Int :=
 let all:=cntS a.w+cntS b.w
 if all=0 then 0 else (4000*cntS (andW a.w b.w a.w.length)+all).tdiv (2*all)
theorem dice_ct (a b:Bs) (ha:a.ok) (hb:b.ok) (hl:a.L=b.L):Cr 49 [a.d,b.d] (i64 (dice a b)):=by
 have h3:=ha.le;have h3b:=hb.le;have ho:(⟨a.L,andW a.w b.w a.w.length⟩:Bs).ok:=⟨ha.L,by simp only [andW,List.length_map,List.length_range];exact ha.n⟩;have c1:=cnt_in a.w;have c2:=cnt_in b.w;have c3:=cnt_in (andW a.w b.w a.w.length)
 have hl3:(andW a.w b.w a.w.length).length=a.w.length:=by simp [andW]
 have e1:=count_ct a ha;have e2:=count_ct b hb;have e3:=count_ct _ ho;unfold dice;generalize cntS a.w=x at *;generalize cntS b.w=y at *;generalize cntS (andW a.w b.w a.w.length)=z at *
 have hq:0<=(4000*z+(x+y)).tdiv (2*(x+y))/\(4000*z+(x+y)).tdiv (2*(x+y))<=4000*z+(x+y):=by
  rw [Int.tdiv_eq_ediv_of_nonneg (by omega)];exact ⟨Int.ediv_nonneg (by omega) (by omega),Int.ediv_le_self _ (by omega)⟩
 refine .det (De Tryz.func49 ord49 [] ?_)
 repeat' first|refine S0 ?_;conv=>whnf|refine Vo ?_|exact T0|refine W6 ?_|refine B1 ?_|(refine M0 (and_ct a b ha hb hl) ?_)|(refine M0 e1 ?_)|(refine M0 e2 ?_)|(refine M0 e3 ?_)|(refine Br.d (fun h=>?_) fun h=>?_)|refine Br.bnot ?_|refine T2 ?_ ?_|refine K0 ?_|refine K1 ?_
 ·dsimp only;rw [if_pos h]
 ·dsimp only;rw [if_neg h]
end Kx
open Go Sx Go.Proofs
namespace Kx
structure En where
 id:Int
 ver:Int
 f:List Bs
def Bs.z:Bs:=⟨0,[]⟩
def bss (l:List Bs):D:=.tab 2 l.length fun i=>(l.getD i Bs.z).l
def En.l (e:En):List D:=[i64 e.id,i64 e.ver,bss e.f]
def En.d (e:En):D:=.agg e.l
theorem sfields_ct (n:Int) (h:1<=n/\n<=5):Cr 48 [i64 n] (.bool true):=by
 refine .det (De Tryz.func48 [] [] ?_)
 repeat' first|refine S0 ?_;conv=>whnf|exact T0|refine B1 ?_|refine T2 ?_ ?_
 all_goals exact decide_eq_true (by omega)
def dices (a b:List Bs) (n:Nat):List Int:=(List.range n).map fun i=>dice (a.getD i Bs.z) (b.getD i Bs.z)
theorem dices_succ (a b:List Bs) (n:Nat):dices a b (n+1)=dices a b n ++ [dice (a.getD n Bs.z) (b.getD n Bs.z)]:=by simp [dices,List.range_succ]
theorem dices_len (a b:List Bs) (n:Nat):(dices a b n).length=n:=by simp [dices]
theorem compare_ct' (a b:En) (h1:1<=a.f.length) (h5:a.f.length<=5) (hn:b.f.length=a.f.length) (ha:∀ i,i<a.f.length->(a.f.getD i Bs.z).ok) (hb:∀ i,i<a.f.length->(b.f.getD i Bs.z).ok) (hl:∀ i,i<a.f.length->(a.f.getD i Bs.z).L=(b.f.getD i Bs.z).L) :
 Cr 19 [a.d,b.d] (.tup [ints (dices a.f b.f a.f.length),i64 0]):=by
 refine .det (De Tryz.func19 ord19 [] ?_)
 repeat' first|refine S0 ?_;conv=>whnf|with_reducible refine Br.tt ?_|refine B1 ?_|refine Br.swap ?_|refine Br.bnot ?_|refine K0 ?_|(refine M0 (g:=48) (sfields_ct _ (by omega)) ?_)
 refine Lw ord19 [] (α:=Nat) (fun i=>[(2,.loc 0 0),(3,.loc 1 0),(6,.own 2),(24,bss a.f),(25,i64 a.f.length),(26,i64 i)]) (fun i=>[(0,.var a.l),(1,.var b.l),(2,.arr 3 1 (dices a.f b.f i).length fun j=>[i64 ((dices a.f b.f i).getD j 0)])]) 3 (fun i=>i<=a.f.length) (fun i=>a.f.length - i) ?_ ?_
 ·refine Again.by 0 (zle _) ?_
  repeat' first|refine S0 ?_;conv=>whnf|refine Vo ?_|exact T0|(rfl)|refine Vm ?_ ?_
 ·intro i hi
  have hd:=fun h:i<a.f.length=>dice_ct _ _ (ha i h) (hb i h) (hl i h)
  have hln:=dices_len a.f b.f i
  repeat' first|refine S0 ?_;conv=>whnf|refine Vo ?_|refine Vb ?_|exact T0|refine W6 ?_|(refine M0 (hd (by omega)) ?_)|(refine Br.d (fun h=>?_) fun h=>?_)|refine T2 ?_ ?_|refine K1 ?_
  ·refine Again.by (i+1) ⟨by omega,by omega⟩ ?_
   rw [dices_succ]
   repeat' first|refine S0 ?_;conv=>whnf|refine Vo ?_|exact T0|(exact app_one (fun x:Int=>[i64 x]) 0 (fun _ _=>rfl) _ _ rfl)|refine Vm ?_ ?_
  ·rw [show i=a.f.length by omega];exact ⟨rfl,fun _ _=>rfl⟩
theorem number2_ct:Cr 50 [.tab 1 2 fun _=>[i64 2]] (.tup [i64 8,i64 0]):=by
 refine .det (De Tryz.func50 [] [] ?_)
 repeat' first|refine S0 ?_;conv=>whnf|with_reducible refine Br.tt ?_|refine Br.bnot ?_|refine K0 ?_|(refine M0 (g:=48) (sfields_ct _ (by omega)) ?_)
 refine Lw [] [] (α:=Nat) (fun i=>[(4,i64 (if i=0 then 0 else if i=1 then 2 else 8)),(11,.tab 1 2 fun _=>[i64 2]),(12,i64 2),(13,i64 i)]) (fun i=>[]) 0 (fun i=>i<=2) (fun i=>2 - i) ?_ ?_
 ·refine Again.by 0 (zle _) ?_
  repeat' first|refine S0 ?_;conv=>whnf|refine Vo ?_|exact T0
 ·intro i hi
  have h3:i=0\/i=1\/i=2:=by omega
  rcases h3 with rfl | rfl | rfl
  ·repeat' first|refine S0 ?_;conv=>whnf|refine Vo ?_|exact T0|refine W6 ?_|refine B1 ?_|refine B0 ?_|refine Br.swap ?_|refine K0 ?_|(refine Met.inl (f:=87) (fn:=Tryz.f87) hΓ hm Tryz.func87 [] [] (by kernel_rfl) ?_)|refine Vm ?_ ?_
   refine Again.by 1 ⟨by omega,by omega⟩ ?_
   repeat' first|refine S0 ?_;conv=>whnf|refine Vo ?_|exact T0
  ·repeat' first|refine S0 ?_;conv=>whnf|refine Vo ?_|exact T0|refine W6 ?_|refine B1 ?_|refine B0 ?_|refine Br.swap ?_|refine K0 ?_|(refine Met.inl (f:=87) (fn:=Tryz.f87) hΓ hm Tryz.func87 [] [] (by kernel_rfl) ?_)|refine Vm ?_ ?_
   refine Again.by 2 ⟨by omega,by omega⟩ ?_
   repeat' first|refine S0 ?_;conv=>whnf|refine Vo ?_|exact T0
  ·repeat' first|refine S0 ?_;conv=>whnf|exact T0|refine B0 ?_|refine T2 ?_ ?_
   all_goals rfl
theorem number2_at {f:Nat->List D} (hf:∀ j,j<2->f j = [i64 2]):Cr 50 [.tab 1 2 f] (.tup [i64 8,i64 0]) :=
 number2_ct.arg ⟨rfl,⟨rfl,hf⟩,trivial⟩
theorem pattern2_ct:Cr 20 [.tab 1 2 fun _=>[i64 800],.tab 1 2 fun _=>[i64 1000]] (.tup [i64 8,i64 0]):=by
 refine .det (De Tryz.func20 [] [] ?_)
 repeat' first|refine S0 ?_;conv=>whnf|refine Vb ?_|with_reducible refine Br.tt ?_|refine B1 ?_|refine Br.swap ?_|refine Br.bnot ?_|refine K0 ?_|(refine M0 (g:=48) (sfields_ct _ (by omega)) ?_)
 refine Lw [] [] (α:=Nat) (fun i=>[(1,.tab 1 2 fun _=>[i64 1000]),(6,.own 0),(24,.tab 1 2 fun _=>[i64 800]),(25,i64 2),(26,i64 i)]) (fun i=>[(0,.arr 3 1 2 fun j=>[i64 (if j<i then 2 else 0)])]) 1 (fun i=>i<=2) (fun i=>2 - i) ?_ ?_
 ·refine Again.by 0 (zle _) ?_
  repeat' first|refine S0 ?_;conv=>whnf|refine Vo ?_|exact T0|(exact ⟨rfl,fun _ _=>rfl⟩)|refine Vm ?_ ?_
 ·intro i hi
  repeat' first|refine S0 ?_;conv=>whnf|refine Vo ?_|exact T0|refine W6 ?_|refine B0 ?_|(refine M0 (number2_at (fun j hj=>by show [i64 (if j<i then (2:Int) else 0)]=_;rw [if_pos (show j<i by omega)])) ?_)|(exact ⟨trivial,trivial,trivial⟩)|(refine Br.d (fun h=>?_) fun h=>?_)|refine Br.swap ?_|refine T2 ?_ ?_|refine K0 ?_|refine Vm ?_ ?_
  refine Again.by (i+1) ⟨by omega,by omega⟩ ?_
  repeat' first|refine S0 ?_;conv=>whnf|refine Vo ?_|exact T0|(exact ⟨rfl,pos_set (fun _=>2) i _ (tnc i)⟩)|refine Vm ?_ ?_
end Kx
open Go Sx Go.Proofs
namespace Kx
def pgram (s:Str) (i:Nat):Str:=[UInt8.ofNat (97+i),s.getD i 0]
def posS (s:Str) (n:Nat):List Str:=(List.range n).map (pgram s)
theorem posS_succ (s:Str) (n:Nat):posS s (n+1)=posS s n ++ [pgram s n]:=by simp [posS,List.range_succ]
theorem posS_len (s:Str) (n:Nat):(posS s n).length=n:=by simp [posS]
theorem pgram_by (s:Str) (i:Nat) (hi:i<27) (x y:Int) (hx:x=97+(i:Int)) (hy:y=((s.getD i 0).toNat:Int)):ByS 2 (fun j=>selC [[D.int .u8 x],[D.int .u8 y]] j) (pgram s i):=by
 refine ⟨rfl,fun j hj=>?_⟩
 have e:((UInt8.ofNat (97+i)).toNat:Int)=97+(i:Int):=by rw [UInt8.toNat_ofNat'];omega
 match j with
 | 0 =>
   show [D.int .u8 x] = [D.int .u8 ((UInt8.ofNat (97+i)).toNat:Int)]
   rw [e,hx]
 | 1 =>
   show [D.int .u8 y] = [D.int .u8 ((s.getD i 0).toNat:Int)]
   rw [hy]
 | n+2=>omega
theorem positional_ct (s:Str) (hs:s.length<=26):Cr 202 [.str s] (strs (posS s s.length)):=by
 refine .det (De Tryz.func202 [] [] ?_)
 repeat' first|refine S0 ?_;conv=>whnf|refine B0 ?_
 refine Lw [] [] (α:=Nat) (fun i=>[(0,.str s),(3,.own 0),(9,i64 s.length),(10,i64 i)]) (fun i=>[(0,.arr 9 1 (posS s i).length fun j=>[.str ((posS s i).getD j [])])]) 1 (fun i=>i<=s.length) (fun i=>s.length - i) ?_ ?_
 ·refine Again.by 0 (zle _) ?_
  repeat' first|refine S0 ?_;conv=>whnf|refine Vo ?_|exact T0|(rfl)|refine Vm ?_ ?_
 ·intro i hi;have hl:=posS_len s i
  repeat' first|refine S0 ?_;conv=>whnf|refine Vo ?_|refine Vb ?_|exact T0|refine W6 ?_|refine W8 ?_|(refine Lf.by _ (pgram_by s i (by omega) _ _ rfl (by rw [tnc])) ?_)|(refine Br.d (fun h=>?_) fun h=>?_)|refine T2 ?_ ?_
  ·refine Again.by (i+1) ⟨by omega,by omega⟩ ?_
   rw [posS_succ]
   repeat' first|refine S0 ?_;conv=>whnf|refine Vo ?_|exact T0|(exact str_app _ _ rfl)|refine Vm ?_ ?_
  ·rw [show i=s.length by omega];exact ⟨rfl,fun _ _=>rfl⟩
theorem codegram_ct (s:Str) (hs:s.length<=10000):Cr 207 [.str s] (strs [61 :: s]):=by
 refine .det (De Tryz.func207 [] [] ?_)
 repeat' first|refine S0 ?_;conv=>whnf|exact T0|(refine Vc.om ?_ ?_;focus ((simp;omega);done))|refine T2 ?_ ?_
 exact ⟨rfl,selC_str [61 :: s]⟩
def bgr (u:Str) (i:Nat):Str:=(u.take (i+2)).drop i
def bgrs (u:Str) (n:Nat):List Str:=(List.range n).map (bgr u)
theorem bgrs_succ (u:Str) (n:Nat):bgrs u (n+1)=bgrs u n ++ [bgr u n]:=by simp [bgrs,List.range_succ]
theorem bgrs_len (u:Str) (n:Nat):(bgrs u n).length=n:=by simp [bgrs]
def tokG (t:Str):List Str:=bgrs ([95] ++ t ++ [95]) (t.length+1)
def gramsL (l:List Str):List Str:=l.flatMap tokG
theorem gramsL_succ {l:List Str} {i:Nat} (h:i<l.length):gramsL (l.take (i+1))=gramsL (l.take i) ++ tokG (l.getD i []):=by
 unfold gramsL;rw [take_step l [] i h,List.flatMap_append];simp
theorem gramsL_len (n:Nat):∀ (l:List Str),(∀ t ∈ l,t.length<=n)->(gramsL l).length<=(n+1)*l.length
 | [],_=>by simp [gramsL]
 | t :: l,h=>by
   have h1:=gramsL_len n l fun u hu=>h u (by simp [hu])
   have h2:=h t (by simp);have e:gramsL (t :: l)=tokG t ++ gramsL l:=rfl;rw [e];simp only [tokG,lap,bgrs_len,List.length_cons,Nat.mul_add,Nat.mul_one];omega
set_option maxHeartbeats 1000000 in
theorem grams_ct (s:Str) (hs:s.length<=64) (S:List Str) (hset:Cr 263 [strs (gramsL (toks s))] (strs S)):Cr 198 [.str s] (strs S):=by
 have htc:(toks s).length<=1+s.length:=toks_count s []
 have htl:∀ t ∈ toks s,t.length<=1000:=fun t ht=>by have:=toks_mem_len s t ht;omega
 refine .det (De Tryz.func198 [] [] ?_)
 repeat' first|refine S0 ?_;conv=>whnf|refine B0 ?_|refine K0 ?_|(refine M0 (g:=260) (tokens_ct _ (by first | omega | decide | (simp;done) | (simp;omega))) ?_)
 generalize toks s=T at *;refine Lw [] [] (α:=Nat) (fun i=>[(3,.own 1),(11,.own 0),(12,i64 T.length),(13,i64 i)]) (fun i=>[(0,.arr 9 1 T.length fun j=>[.str (T.getD j [])]),(1,.arr 9 1 (gramsL (T.take i)).length fun j=>[.str ((gramsL (T.take i)).getD j [])])]) 2 (fun i=>i<=T.length) (fun i=>T.length - i) ?_ ?_
 ·refine Again.by 0 (zle _) ?_
  repeat' first|refine S0 ?_;conv=>whnf|refine Vo ?_|exact T0|(rfl)|refine Vm ?_ ?_
 ·intro i hi
  have hg:=gramsL_len 1000 (T.take i) fun t ht=>htl t (List.mem_of_mem_take ht)
  rw [List.length_take] at hg
  have hti:=fun h:(i:Int)<T.length=>htl (T.getD (i:Int).toNat []) (getD_in (by omega))
  repeat' first|refine S0 ?_;conv=>whnf|refine Vo ?_|(refine Vc.om ?_ ?_;focus ((simp only [lap,List.length_cons,List.length_nil];have:=hti (by omega);omega);done))|(refine Wr.i64 ?_ ?_;focus ((simp only [lap,List.length_cons,List.length_nil];have:=hti (by omega);omega);done))|(refine CallOK.ctF (g:=263) (Step.out ?_))|(refine Br.d (fun h=>?_) fun h=>?_)
  ·have hu:([95] ++ T.getD (i:Int).toNat [] ++ [95]:Str).length=(T.getD (i:Int).toNat []).length+2:=by simp
   have ht:=hti (by omega);have hG:=gramsL_succ (l:=T) (i:=i) (by omega);simp only [tnc] at hu ht ⊢;generalize T.getD i []=t at *;generalize gramsL (T.take i)=G at *;refine Lw [] [] (α:=Nat) (fun j=>[(3,.own 1),(5,.str ([95] ++ t ++ [95])),(11,.own 0),(12,i64 T.length),(13,i64 i),(22,i64 ((t.length:Int)+1)),(23,i64 j)]) (fun j=>[(0,.arr 9 1 T.length fun j=>[.str (T.getD j [])]),(1,.arr 9 1 (G ++ bgrs ([95] ++ t ++ [95]) j).length fun q=>[.str ((G ++ bgrs ([95] ++ t ++ [95]) j).getD q [])])]) 2 (fun j=>j<=t.length+1) (fun j=>t.length+1 - j) ?_ ?_
   ·refine Again.by 0 (zle _) ?_
    rw [show G ++ bgrs ([95] ++ t ++ [95]) 0=G from List.append_nil G]
    repeat' first|refine S0 ?_;conv=>whnf|refine Vo ?_|exact T0
   ·intro j hj;generalize hw:([95] ++ t ++ [95]:Str)=u at *
    have hl:(G ++ bgrs u j).length=G.length+j:=by rw [lap,bgrs_len]
    have hS:G ++ bgrs u (j+1)=(G ++ bgrs u j) ++ [bgr u j]:=by rw [bgrs_succ,List.append_assoc]
    repeat' first|refine S0 ?_;conv=>whnf|refine Vo ?_|refine Vb ?_|refine W6 ?_|(refine Br.d (fun h=>?_) fun h=>?_)
    ·refine Again.by (j+1) ⟨by omega,by omega⟩ ?_
     rw [hS]
     repeat' first|refine S0 ?_;conv=>whnf|refine Vo ?_|exact T0|(exact str_app _ _ rfl)|refine Vm ?_ ?_
    ·refine Again.by (i+1) ⟨by omega,by omega⟩ ?_
     rw [hG,show tokG t=bgrs u j by rw [show j=t.length+1 by omega,<-hw];rfl]
     repeat' first|refine S0 ?_;conv=>whnf|refine Vo ?_|exact T0
  ·rw [show T.take i=T from List.take_of_length_le (by omega)] at *
   repeat' first|refine S0 ?_;conv=>whnf|exact T0|exact T1|(refine M0 hset ?_)|refine T2 ?_ ?_
end Kx
open Go Sx Go.Proofs
namespace Kx
def ltS:Str->Str->Bool
 | _,[]=>false| [],_ :: _=>true
 | x :: a,y :: b=>if x=y then ltS a b else decide (x.toNat<y.toNat)
def insS (t:Str):List Str->List Str
 | []=>[t]
 | u :: l=>if t=u then u :: l else if ltS t u then t :: u :: l else u :: insS t l
def setS:List Str->List Str
 | []=>[]| t :: l=>insS t (setS l)
def gramO (k:Nat) (x:Str):List Str:=match k with
 | 2=>posS x x.length| 3=>[61 :: x]| _=>setS (gramsL (toks x))
theorem sgram_ct (s:Sc) (hs:s.ok) (i:Nat) (hi:i<s.f.length) (k:Nat) (hk:s.kind i=(k:Int)) (x:Str) (hx:x.length<=64) (hd:x.length<=26\/k≠2) (h0:x≠[]) (hn:nrmB s.r k x=true) (hset:Cr 263 [strs (gramsL (toks x))] (strs (setS (gramsL (toks x))))):Cr 137 [s.d,i64 i,.str x] (.tup [strs (gramO k x),i64 0]):=by
 have h4:=hs.kd hi;have hf:=find_kind s hs i hi k hk;have hN:=snormal_ct s hs i hi k hk x (by omega) h0;rw [hn] at hN
 have hk4:k=1\/k=2\/k=3\/k=4:=by omega
 rcases hk4 with rfl | rfl | rfl | rfl
 all_goals
  refine .det (De Tryz.func137 [] [] ?_)
  repeat' first|refine S0 ?_;conv=>whnf|exact T0|with_reducible refine Br.tt ?_|refine B1 ?_|refine B0 ?_|(refine M0 hf ?_)|(refine M0 hN ?_)|(refine M0 (grams_ct x (by omega) _ hset) ?_)|(refine M0 (positional_ct x (by omega)) ?_)|(refine M0 (codegram_ct x (by omega)) ?_)|refine Br.bnot ?_|refine T2 ?_ ?_|refine K0 ?_
 all_goals exact ⟨rfl,fun _ _=>rfl⟩
end Kx
open Go Sx Go.Proofs
namespace Kx
def itS (i:Nat):Str:=Lib.decDigits i
theorem tabP (W:World) (hl:Laid Tryz.prog W.heap fun _=>False):Lib.TabIs Tryz.prog W "internal/strconv.uint64pow10" .u64 Lib.pow10Tab:=by
 have hs:(Tryz.prog.globalNamed "internal/strconv.uint64pow10").isSome=true:=by kernel_rfl
 obtain ⟨g,hg⟩:=Option.isSome_iff_exists.1 hs;obtain ⟨_,_,ty,p,h⟩:=hl _ (List.mem_cons_of_mem _ (List.mem_cons_self ..)) g hg;unfold Lib.TabIs World.var?;rw [hg];simp only [Option.bind_some];rw [h];rfl
theorem itoa_ct (i:Nat) (hi:i<2000000):Cr 37 [i64 i] (.str (itS i)):=by
 refine Ct.lib (vs:=[.int .i64 (i:Nat)]) (v:=.string ⟨(itS i).toArray⟩) ⟨Tryz.f37,Tryz.func37,by decide,by decide⟩ rfl (fun M=>?_) fun w hl=>?_
 ·simp [Od,Rd]
 ·refine (Kx.strconv_Itoa (i:Nat) (by omega) (by omega) w (tabP w hl)).mono ?_
  rintro e w' ⟨rfl,k,os,rfl⟩
  refine ⟨by rw [Lib.itoa,if_neg (by omega),tnc];rfl,?_⟩;exact below_grown w k os
theorem itS_len' : ∀ (k i:Nat),i<10 ^ (k+1)->(itS i).length<=k+1
 | 0,i,h=>by
   unfold itS;rw [Lib.decDigits,dif_pos (by omega)];simp
 | k+1,i,h=>by
   unfold itS;rw [Lib.decDigits];split
   ·simp
   ·have:=itS_len' k (i / 10) (by rw [Nat.pow_succ] at h;omega);unfold itS at this;simp;omega
theorem itS_len (i:Nat) (hi:i<2000000):(itS i).length<=7:=itS_len' 6 i (Nat.lt_of_lt_of_le hi (by decide))
def keyF (k:Int × Int) (i:Nat) (o:Bool) (salt:Str):Int × Int :=
 if o then keyD (keyD k ([102,105,101,108,100] ++ itS i)) ([115,97,108,116,61] ++ salt) else keyD k ([102,105,101,108,100] ++ itS i)
theorem fderive_ct (k:Int × Int) (i:Nat) (hi:i<100) (o:Bool) (salt:Str) (hs:salt.length<=1000):Cr 139 [.agg [i64 i,.bool o,.str salt],.agg [u64 k.1,u64 k.2]] (.agg [u64 (keyF k i o salt).1,u64 (keyF k i o salt).2]):=by
 have hl:=itS_len i (by omega);have h1:=derive_ct k ([102,105,101,108,100] ++ itS i) (by simp;omega);have h2:=derive_ct (keyD k ([102,105,101,108,100] ++ itS i)) ([115,97,108,116,61] ++ salt) (by simp;omega);unfold keyF;generalize keyD k _=k1 at *;generalize keyD k1 _=k2 at *;cases o
 all_goals
  refine .det (De Tryz.func139 ord139 [] ?_)
  repeat' first|refine S0 ?_;conv=>whnf|exact T0|with_reducible refine Br.tt ?_|with_reducible refine Br.ff ?_|(refine M0 h1 ?_)|(refine M0 h2 ?_)|(refine Vc.om ?_ ?_;focus ((simp;omega);done))|refine T2 ?_ ?_|refine K0 ?_|refine K1 ?_|(refine M0 (g:=37) (itoa_ct _ (by omega)) ?_)
 all_goals rfl
end Kx
