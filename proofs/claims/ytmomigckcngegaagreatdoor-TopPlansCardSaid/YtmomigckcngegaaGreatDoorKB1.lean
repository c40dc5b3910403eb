/-
  Arrays of bits, positions of grams.
  No condition beyond those written in each theorem.
-/
import Derived.Test.YtmomigckcngegaaGreatDoorKA8
set_option linter.unusedSimpArgs false
set_option linter.unusedVariables false
set_option maxRecDepth 4000
open Go Sx Go.Proofs
namespace Kx
def u64s (l:List Int):D:=.tab 1 l.length fun i=>[u64 (l.getD i 0)]
def u64sO (l:List Int):D:=.ftab 35 1 l.length fun i=>[u64 (l.getD i 0)]
def LenOk (L:Int):Prop:=L=64∨L=128∨L=192
def rightB' (L:Int):Bool:=decide (64≤L∧L≤512∧L.tmod 64=0)
theorem right_of (L:Int) (h:LenOk L):rightB' L=true:=by
 rcases h with rfl | rfl | rfl<;>rfl
theorem bright_ct (L:Int):Ct Tryz.prog 176 [i64 L] fun r outs=>r = .bool (rightB' L)∧outs = []:=by
 refine .det (De Tryz.func176 [] [] ?_)
 repeat' first|(refine S0 ?_;conv=>whnf)|(refine Vo ?_)|exact T0|(refine Br.d (fun h=>?_) fun h=>?_)|(refine T2 ?_ ?_)
 all_goals (simp [rightB', *];try omega)
theorem bright_is (L:Int) (v:Bool) (h:rightB' L=v):Ct Tryz.prog 176 [i64 L] fun r outs=>r = .bool v∧outs = []:=h ▸ bright_ct L
theorem bnew_ct (L:Int) (h:LenOk L):Ct Tryz.prog 127 [i64 L] fun r outs=>r = .tup [.agg [i64 L,u64sO (List.replicate (L / 64).toNat 0)],i64 0]∧outs = []:=by
 have hr:=right_of L h
 have hL:64≤L∧L≤192:=by rcases h with rfl | rfl | rfl<;>omega
 refine .det (De Tryz.func127 [] [] ?_)
 repeat' first|(rw [Int.tdiv_eq_ediv_of_nonneg (by omega)])|(refine S0 ?_;conv=>whnf)|(refine Vo ?_)|(refine Vb ?_)|exact T0|(refine W6 ?_)|(with_reducible refine Br.tt ?_)|(refine Met.by (bright_is L _ hr) ?_;rintro q outs ⟨rfl,rfl⟩)|(refine Br.bnot ?_)|(refine T2 ?_ ?_)|(refine K0 ?_)
 refine ⟨by simp,fun i hi=>?_⟩
 have:(List.replicate (L / 64).toNat (0:Int)).getD i 0=0:=by
  simp [List.getD,List.getElem?_replicate]
  split<;>rfl
 dsimp only
 rw [this];rfl
structure Pm where
 L:Int
 h:Int
 s:Int
def Pm.l (p:Pm):List D:=[i64 p.L,i64 p.h,i64 p.s]
def Pm.d (p:Pm):D:=.agg p.l
structure Pm.ok (p:Pm):Prop where
 L:LenOk p.L
 h1:1≤p.h
 h2:p.h≤16
 s1 : -1≤p.s
 s2:p.s<5
theorem bcheck_ct (p:Pm) (hp:p.ok):Ct Tryz.prog 78 [p.d] fun r outs=>r=i64 0∧outs = []:=by
 have hL:=hp.L;have h1:=hp.h1;have h2:=hp.h2;have s1:=hp.s1;have s2:=hp.s2
 refine .det (De Tryz.func78 [] [] ?_)
 repeat' first|(refine S0 ?_;conv=>whnf)|exact T0|(refine B1 ?_)|(refine B0 ?_)|(refine Met.by (bnew_ct _ hL) ?_;rintro q outs ⟨rfl,rfl⟩)|(refine Br.swap ?_)|(refine Br.bnot ?_)|(refine T2 ?_ ?_)|(refine K0 ?_)
def posX (L:Int) (k:Int × Int) (g:Str):Int:=(sip k (partsB [[49],g])).tmod L
def posY (L:Int) (k:Int × Int) (g:Str):Int:=1+(sip k (partsB [[50],g])).tmod (L - 1)
def posN (L x y:Int):Nat→Int
 | 0=>x
 | i+1=>(posN L x y i+y).tmod L
def posL (L:Int) (k:Int × Int) (g:Str) (n:Nat):List Int:=(List.range n).map (posN L (posX L k g) (posY L k g))
theorem tmod_in {a L:Int} (h0:0≤a) (hL:0<L):0≤a.tmod L∧a.tmod L<L:=by
 rw [Int.tmod_eq_emod_of_nonneg h0]
 exact ⟨Int.emod_nonneg _ (by omega),Int.emod_lt_of_pos _ hL⟩
theorem posN_in {L x y:Int} (hL:0<L) (hx:0≤x∧x<L) (hy:0≤y):∀ i,0≤posN L x y i∧posN L x y i<L
 | 0=>hx
 | i+1=>tmod_in (by have:=posN_in hL hx hy i;omega) hL
theorem len_pos {L:Int} (h:LenOk L):64≤L∧L≤192:=by rcases h with rfl | rfl | rfl<;>omega
theorem drawn_ct (p:Pm) (hp:p.ok) (k:Int × Int) (g:Str) (hg:g.length≤1000):Ct Tryz.prog 221 [p.d,.agg [u64 k.1,u64 k.2],.str g] fun r outs=>r = .fn 249 [.fbox [i64 (posX p.L k g)],.fbox [i64 (posY p.L k g)],.fbox p.l,.fbox [i64 (posX p.L k g)]]∧outs = []:=by
 have hL:=len_pos hp.L;have h1:=hp.h1;have h2:=hp.h2
 have e1:=parts2_ct k [49] g (by decide) (by omega)
 have e2:=parts2_ct k [50] g (by decide) (by omega)
 have hx:0≤(sip k (partsB [[49],g])).tmod p.L∧(sip k (partsB [[49],g])).tmod p.L<p.L:=tmod_in (sip_in _ _).1 (by omega)
 have hy:0≤(sip k (partsB [[50],g])).tmod (p.L - 1)∧(sip k (partsB [[50],g])).tmod (p.L - 1)<p.L - 1:=tmod_in (sip_in _ _).1 (by omega)
 refine .det (De Tryz.func221 ord221 [] ?_)
 repeat' first|(refine S0 ?_;conv=>whnf)|(refine Vo ?_)|exact T0|exact noSh_int _ _|(refine W6 ?_)|(refine Met.by e1 ?_;rintro q outs ⟨rfl,rfl⟩)|(refine Met.by e2 ?_;rintro q outs ⟨rfl,rfl⟩)|(refine Wr.u64 ?_ ?_;omega)|(refine T2 ?_ ?_)|(refine K1 ?_)|(refine Vm ?_ ?_)
 all_goals rfl
theorem posL_len (L:Int) (k:Int × Int) (g:Str) (n:Nat):(posL L k g n).length=n:=by simp [posL]
theorem posL_at (L:Int) (k:Int × Int) (g:Str) (n i:Nat) (h:i<n):(posL L k g n).getD i 0=posN L (posX L k g) (posY L k g) i:=by simp [posL,List.getD,h]
theorem pos_set (F:Nat→Int) (i k:Nat) (hk:k=i) {n:Nat}:∀ j,j<n→iteL (j=k) [i64 (F i)] [i64 (if j<i then F j else 0)] = [i64 (if j<i+1 then F j else 0)]:=fun j _=>by
 subst hk
 rw [iteL_same rfl]
 by_cases e:j=k
 ·subst e;rw [if_pos rfl,if_pos (by omega)]
 ·rw [if_neg e]
  by_cases h:j<k
  ·rw [if_pos h,if_pos (by omega)]
  ·rw [if_neg h,if_neg (by omega)]
set_option maxHeartbeats 1000000 in
theorem positions_ct (p:Pm) (hp:p.ok) (k:Int × Int) (g:Str) (hg:g.length≤1000):Ct Tryz.prog 177 [p.d,.agg [u64 k.1,u64 k.2],.str g] fun r outs=>r = .tup [ints (posL p.L k g p.h.toNat),i64 0]∧outs = []:=by
 have hL:=len_pos hp.L;have h1:=hp.h1;have h2:=hp.h2
 have hx:0≤posX p.L k g∧posX p.L k g<p.L:=tmod_in (sip_in _ _).1 (by omega)
 have hy:0≤(sip k (partsB [[50],g])).tmod (p.L - 1)∧(sip k (partsB [[50],g])).tmod (p.L - 1)<p.L - 1:=tmod_in (sip_in _ _).1 (by omega)
 have hy:1≤posY p.L k g∧posY p.L k g<p.L:=⟨by unfold posY;omega,by unfold posY;omega⟩
 have hP:=posN_in (L:=p.L) (by omega) hx (y:=posY p.L k g) (by omega)
 have hA:=posL_at p.L k g p.h.toNat
 have hl:=posL_len p.L k g p.h.toNat
 have hd:=drawn_ct p hp k g hg
 generalize posX p.L k g=x at *
 generalize posY p.L k g=y at *
 refine .det (De Tryz.func177 ord177 [4] ?_)
 repeat' first|(refine S0 ?_;conv=>whnf)|(refine B1 ?_)|(refine Br.bnot ?_)|(refine K0 ?_)|(refine Met.by (g:=78) (bcheck_ct _ (by assumption)) ?_;rintro q outs ⟨rfl,rfl⟩)
 refine CodeOK.cutW hΓ hm ord177 [] (by kernel_rfl) (α:=Unit) (fun u=>[(9,.own 4),(10,.fn 249 [.loc 0 0,.loc 1 0,.loc 2 0,.loc 3 0])]) (fun u=>[(0,.var [i64 x]),(1,.var [i64 y]),(2,.var p.l),(3,.var [i64 x]),(4,.arr 3 1 p.h.toNat fun j=>[i64 0])]) 5 (fun u=>True) ?_ ?_
 ·repeat' first|(refine S0 ?_;conv=>whnf)|(refine Vb ?_)|exact T0|(refine Met.by hd ?_;rintro q outs ⟨rfl,rfl⟩)|(refine T2 ?_ ?_)|(refine K1 ?_)
  all_goals refine Again.by () trivial ?_
  all_goals
   repeat' first|(refine S0 ?_;conv=>whnf)|(refine Vo ?_)|exact T0|(refine Cho.r ?_)|(refine Vm ?_ ?_)
  all_goals first
   | exact ⟨rfl,fun _ _=>rfl⟩
   | rfl
 ·intro _ _
  repeat' first|(refine S0 ?_;conv=>whnf)
  refine CodeOK.loopW hΓ hm ord177 [] (by kernel_rfl) (α:=Nat × Int) (fun z=>[(9,.own 4),(10,.fn 249 [.loc 0 0,.loc 1 0,.loc 2 0,.loc 3 0]),(25,i64 p.h.toNat),(26,i64 z.1)]) (fun z=>[(0,.var [i64 (posN p.L x y z.1)]),(1,.var [i64 y]),(2,.var p.l),(3,.var [i64 z.2]),(4,.arr 3 1 p.h.toNat fun j=>[i64 (if j<z.1 then posN p.L x y j else 0)])]) 5 (fun z=>z.1≤p.h.toNat) (fun z=>p.h.toNat - z.1) ?_ ?_
  ·refine Again.by (0,x) (Nat.zero_le _) ?_
   repeat' first|(refine S0 ?_;conv=>whnf)|(refine Vo ?_)|exact T0|(refine Cho.r ?_)|(exact ⟨rfl,fun _ _=>rfl⟩)|(rfl)|(refine Vm ?_ ?_)
  ·intro ⟨i,v⟩ hi
   have hPi:=hP i
   dsimp only at hi ⊢
   repeat' first|(refine S0 ?_;conv=>whnf)|(refine Vo ?_)|exact T0|(refine W6 ?_)|(refine CallOK.inl (f:=249) (fn:=Tryz.f249) hΓ hm Tryz.func249 ord249 [] (by kernel_rfl) (fun V=>?_))|(refine Br.d (fun h=>?_) fun h=>?_)|(refine T2 ?_ ?_)
   all_goals try refine Again.by (i+1,posN p.L x y i) ⟨by dsimp only;omega,by dsimp only;omega⟩ ?_
   all_goals
    repeat' first|(refine S0 ?_;conv=>whnf)|(refine Vo ?_)|exact T0|(refine Cho.r ?_)|(exact ⟨rfl,pos_set (posN p.L x y) i _ (Int.toNat_natCast i)⟩)|(rfl)|(refine Vm ?_ ?_)
   exact ⟨hl.symm,fun j hj=>by rw [hl] at hj;dsimp only;rw [hA j hj,if_pos (by omega)]⟩
def setBit (w:List Int) (i:Int):List Int:=w.set (i / 64).toNat (bitI .or .u64 (w.getD (i / 64).toNat 0) (IntKind.u64.wrap (1*2 ^ (min (i % 64).toNat IntKind.u64.bits))))
theorem setBit_len (w:List Int) (i:Int):(setBit w i).length=w.length:=by simp [setBit]
theorem setBits_len:∀ (l w:List Int),(l.foldl setBit w).length=w.length
 | [],_=>rfl
 | i :: l,w=>by rw [List.foldl_cons,setBits_len l,setBit_len]
def encG (p:Pm) (k:Int × Int) (w:List Int) (g:Str):List Int:=(posL p.L k g p.h.toNat).foldl setBit w
def encW (p:Pm) (k:Int × Int) (gs:List Str):List Int:=gs.foldl (encG p k) (List.replicate (p.L / 64).toNat 0)
theorem encG_len (p:Pm) (k:Int × Int) (w:List Int) (g:Str):(encG p k w g).length=w.length:=setBits_len _ _
theorem encs_len (p:Pm) (k:Int × Int):∀ (gs:List Str) (w:List Int),(gs.foldl (encG p k) w).length=w.length
 | [],_=>rfl
 | g :: gs,w=>by rw [List.foldl_cons,encs_len p k gs,encG_len]
theorem encW_len (p:Pm) (k:Int × Int) (gs:List Str):(encW p k gs).length=(p.L / 64).toNat:=by rw [encW,encs_len,List.length_replicate]
theorem posL_in (p:Pm) (hp:p.ok) (k:Int × Int) (g:Str) (n j:Nat) (hj:j<(posL p.L k g n).length):0≤(posL p.L k g n).getD j 0∧(posL p.L k g n).getD j 0<p.L:=by
 have hL:=len_pos hp.L
 rw [posL_len] at hj
 rw [posL_at _ _ _ _ _ hj]
 have hx:0≤posX p.L k g∧posX p.L k g<p.L:=tmod_in (sip_in _ _).1 (by omega)
 have hy:0≤(sip k (partsB [[50],g])).tmod (p.L - 1)∧(sip k (partsB [[50],g])).tmod (p.L - 1)<p.L - 1:=tmod_in (sip_in _ _).1 (by omega)
 exact posN_in (by omega) hx (by unfold posY;omega) j
theorem foldl_take {α β:Type} (f:β→α→β) (z:α) (l:List α) (b:β) (j:Nat) (h:j<l.length):(l.take (j+1)).foldl f b=f ((l.take j).foldl f b) (l.getD j z):=by
 rw [take_step l z j h,List.foldl_append];rfl
theorem w_set (w:List Int) (q:Nat) (x:Int):w.length=(w.set q x).length∧∀ i,i<(w.set q x).length→iteL (i=q) [u64 x] [u64 (w.getD i 0)] = [u64 ((w.set q x).getD i 0)] :=
 set_one (fun x:Int=>[u64 x]) 0 (fun _ _=>rfl) w q x rfl
set_option maxHeartbeats 1000000 in
theorem bencode_ct (p:Pm) (hp:p.ok) (k:Int × Int) (gs:List Str) (h80:gs.length≤80) (hg:∀ g ∈ gs,g.length≤1000):Ct Tryz.prog 129 [p.d,.agg [u64 k.1,u64 k.2],strs gs] fun r outs=>r = .tup [.agg [i64 p.L,u64s (encW p k gs)],i64 0]∧outs = []:=by
 have hLo:=hp.L
 have hL:=len_pos hp.L;have h1:=hp.h1;have h2:=hp.h2
 refine .det (De Tryz.func129 ord129 [] ?_)
 repeat' first|(refine S0 ?_;conv=>whnf)|(refine B1 ?_)|(refine B0 ?_)|(refine Met.by (bnew_ct _ hLo) ?_;rintro q outs ⟨rfl,rfl⟩)|(refine Br.bnot ?_)|(refine K0 ?_)|(refine Met.by (g:=78) (bcheck_ct _ (by assumption)) ?_;rintro q outs ⟨rfl,rfl⟩)
 all_goals
  refine CodeOK.loopW hΓ hm ord129 [] (by kernel_rfl) (α:=Nat) (fun i=>[(3,.loc 0 0),(4,.loc 1 0),(6,.loc 2 0),(9,.loc 3 0),(33,strs gs),(34,i64 gs.length),(35,i64 i)]) (fun i=>[(0,.var p.l),(1,.var [u64 k.1,u64 k.2]),(2,.var [i64 0,.nil]),(3,.var [i64 p.L,.own 4]),(4,.arr 35 1 (encW p k (gs.take i)).length fun j=>[u64 ((encW p k (gs.take i)).getD j 0)])]) 5 (fun i=>i≤gs.length) (fun i=>gs.length - i) ?_ ?_
  ·refine Again.by 0 (Nat.zero_le _) ?_
   repeat' first|(refine S0 ?_;conv=>whnf)|(refine Vo ?_)|exact T0|(exact ⟨rfl,fun _ _=>rfl⟩)|(refine Vm ?_ ?_)
  ·intro i hi
   have hw:=encW_len p k (gs.take i)
   have hgi:=fun h:(i:Int)<gs.length=>hg (gs.getD (i:Int).toNat []) (getD_in (by omega))
   repeat' first|(refine S0 ?_;conv=>whnf)|(refine Vo ?_)|exact T0|(refine Met.by (positions_ct p hp k _ (hgi (by omega))) ?_;rintro q outs ⟨rfl,rfl⟩)|(refine Br.d (fun h=>?_) fun h=>?_)|(refine T2 ?_ ?_)|(refine K0 ?_)
   ·have hin:=posL_in p hp k (gs.getD (i:Int).toNat []) p.h.toNat
    have hst:i<gs.length→encW p k (gs.take (i+1))=(posL p.L k (gs.getD i []) p.h.toNat).foldl setBit (encW p k (gs.take i)):=fun h=>foldl_take (encG p k) [] gs _ i h
    have hLs:=posL_len p.L k (gs.getD i []) p.h.toNat
    simp only [Int.toNat_natCast] at hin ⊢
    generalize encW p k (gs.take i)=w at *
    generalize posL p.L k (gs.getD i []) p.h.toNat=Ls at *
    refine CodeOK.loopW hΓ hm ord129 [] (by kernel_rfl) (α:=Nat) (fun j=>[(3,.loc 0 0),(4,.loc 1 0),(6,.loc 2 0),(9,.loc 3 0),(33,strs gs),(34,i64 gs.length),(35,i64 i),(46,ints Ls),(47,i64 Ls.length),(48,i64 j)]) (fun j=>[(0,.var p.l),(1,.var [u64 k.1,u64 k.2]),(2,.var [i64 0,.nil]),(3,.var [i64 p.L,.own 4]),(4,.arr 35 1 ((Ls.take j).foldl setBit w).length fun q=>[u64 (((Ls.take j).foldl setBit w).getD q 0)])]) 5 (fun j=>j≤Ls.length) (fun j=>Ls.length - j) ?_ ?_
    ·refine Again.by 0 (Nat.zero_le _) ?_
     repeat' first|(refine S0 ?_;conv=>whnf)|(refine Vo ?_)|exact T0|(exact ⟨rfl,fun _ _=>rfl⟩)|(refine Vm ?_ ?_)
    ·intro j hj
     have hlw:=setBits_len (Ls.take j) w
     have hji:=hin j
     have hs2:=fun h=>foldl_take setBit 0 Ls w j h
     generalize hve:(Ls.take j).foldl setBit w=v at *
     by_cases hlt:j<Ls.length
     ·have hv:0≤Ls.getD (j:Int).toNat 0∧Ls.getD (j:Int).toNat 0<p.L:=hin j hlt
      have h64:p.L % 64=0:=by rcases hLo with e | e | e<;>rw [e]<;>rfl
      have hq:0≤Ls.getD (j:Int).toNat 0 / 64∧Ls.getD (j:Int).toNat 0 / 64<v.length:=by omega
      have hs3:(Ls.take (j+1)).foldl setBit w=setBit v (Ls.getD (j:Int).toNat 0):=hs2 hlt
      repeat' first|(rw [Int.tdiv_eq_ediv_of_nonneg (by omega)])|(rw [Int.tmod_eq_emod_of_nonneg (by omega)])|(refine S0 ?_;conv=>whnf)|(refine Vo ?_)|(refine W6 ?_)|(refine B1 ?_)|(refine Wr.raw ?_)
      all_goals refine Again.by (j+1) ⟨by omega,by omega⟩ ?_
      all_goals rw [hs3]
      all_goals
       repeat' first|(refine S0 ?_;conv=>whnf)|(refine Vo ?_)|exact T0|(exact w_set v _ _)|(refine Vm ?_ ?_)
     ·repeat' first|(refine S0 ?_;conv=>whnf)|(refine W6 ?_)|(refine B0 ?_)
      refine Again.by (i+1) ⟨by omega,by omega⟩ ?_
      have e:v=encW p k (gs.take (i+1)):=by rw [hst (by omega),←hve,List.take_of_length_le (by omega)]
      rw [←e]
      repeat' first|(refine S0 ?_;conv=>whnf)|(refine Vo ?_)|exact T0
   ·have e:gs.take i=gs:=List.take_of_length_le (by omega)
    rw [e]
    exact ⟨rfl,fun _ _=>rfl⟩
end Kx
open Go Sx Go.Proofs
namespace Kx
def aN (a b:Int):Int:=bitI .and .u64 a b
def shS (x n:Int):Int:=x.fdiv (2 ^ min n.toNat IntKind.u64.bits)
def popS (x:Int):Int :=
 let x1:=sA (aN (shS x 1) 6148914691236517205) (aN x 6148914691236517205)
 let x2:=sA (aN (shS x1 2) 3689348814741910323) (aN x1 3689348814741910323)
 let x3:=aN (sA (shS x2 4) x2) 1085102592571150095
 let x4:=sA x3 (shS x3 8)
 let x5:=sA x4 (shS x4 16)
 let x6:=sA x5 (shS x5 32)
 bitI .and .i64 (IntKind.i64.wrap x6) 127
theorem pop_ct (x:Int):Ct Tryz.prog 134 [u64 x] fun r outs=>r=i64 (popS x)∧outs = []:=by
 refine .det (De Tryz.func134 [] [] ?_)
 repeat' first|(refine S0 ?_;conv=>whnf)|(refine Vo ?_)|exact T0|(refine Wr.raw ?_)|(refine T2 ?_ ?_)
 all_goals rfl
theorem and127 (a:Int):0≤bitI .and .i64 a 127∧bitI .and .i64 a 127≤127:=by
 have h:((BitVec.ofInt IntKind.i64.bits a &&& BitVec.ofInt IntKind.i64.bits 127).toNat)≤127:=by
  rw [BitVec.toNat_and]
  exact Nat.le_trans Nat.and_le_right (by decide)
 show 0≤IntKind.i64.wrap _∧IntKind.i64.wrap _≤127
 rw [wi _ (by omega)]
 omega
theorem pop_in (x:Int):0≤popS x∧popS x≤127:=by
 unfold popS
 exact and127 _
structure Bs where
 L:Int
 w:List Int
def Bs.l (b:Bs):List D:=[i64 b.L,u64s b.w]
def Bs.d (b:Bs):D:=.agg b.l
structure Bs.ok (b:Bs):Prop where
 L:LenOk b.L
 n:b.w.length=(b.L / 64).toNat
theorem Bs.ok.le {b:Bs} (h:b.ok):b.w.length≤3:=by
 have:=len_pos h.L;have:=h.n;omega
theorem bvalid_ct (b:Bs) (hb:b.ok):Ct Tryz.prog 133 [b.d] fun r outs=>r = .bool true∧outs = []:=by
 have hr:=right_of b.L hb.L
 have hn:=hb.n;have hL:=len_pos hb.L
 refine .det (De Tryz.func133 [] [] ?_)
 repeat' first|(rw [Int.tdiv_eq_ediv_of_nonneg (by omega)])|(refine S0 ?_;conv=>whnf)|(refine Vo ?_)|exact T0|(refine W6 ?_)|(refine Met.by (bright_is b.L _ hr) ?_;rintro q outs ⟨rfl,rfl⟩)|(refine Bm (fun h=>?_) fun h=>?_)|(refine T2 ?_ ?_)|(refine K0 ?_)
 exact decide_eq_true (by omega)
def cntS (w:List Int):Int:=w.foldl (fun n x=>n+popS x) 0
theorem cnt_bd:∀ (w:List Int) (n:Int),0≤n→0≤w.foldl (fun n x=>n+popS x) n∧w.foldl (fun n x=>n+popS x) n≤n+127*w.length
 | [],n,h=>⟨h,by simp⟩
 | x :: w,n,h=>by
   have hp:=pop_in x
   have:=cnt_bd w (n+popS x) (by omega)
   simp only [List.foldl_cons,List.length_cons]
   omega
theorem cnt_in (w:List Int):0≤cntS w∧cntS w≤127*w.length:=by
 have:=cnt_bd w 0 (by omega);unfold cntS;omega
theorem count_ct (b:Bs) (hb:b.ok):Ct Tryz.prog 83 [b.d] fun r outs=>r=i64 (cntS b.w)∧outs = []:=by
 have hle:=hb.le
 refine .det (De Tryz.func83 [] [] ?_)
 repeat' first|(refine S0 ?_;conv=>whnf)|(with_reducible refine Br.tt ?_)|(refine Met.by (bvalid_ct b hb) ?_;rintro q outs ⟨rfl,rfl⟩)|(refine Br.bnot ?_)|(refine K0 ?_)
 refine CodeOK.loopW hΓ hm [] [] (by kernel_rfl) (α:=Nat) (fun i=>[(3,i64 (cntS (b.w.take i))),(10,u64s b.w),(11,i64 b.w.length),(12,i64 i)]) (fun i=>[]) 0 (fun i=>i≤b.w.length) (fun i=>b.w.length - i) ?_ ?_
 ·refine Again.by 0 (Nat.zero_le _) ?_
  repeat' first|(refine S0 ?_;conv=>whnf)|(refine Vo ?_)|exact T0|(rfl)|(refine Vm ?_ ?_)
 ·intro i hi
  have hc:=cnt_in (b.w.take i)
  rw [List.length_take] at hc
  have hp:=pop_in (b.w.getD (i:Int).toNat 0)
  have hst:=fun h:i<b.w.length=>foldl_take (fun n x=>n+popS x) 0 b.w 0 i h
  repeat' first|(refine S0 ?_;conv=>whnf)|(refine Vo ?_)|exact T0|(refine W6 ?_)|(refine Br.d (fun h=>?_) fun h=>?_)|(refine T2 ?_ ?_)|(refine K0 ?_)|(refine Met.by (g:=134) (pop_ct _) ?_;rintro q outs ⟨rfl,rfl⟩)
  ·refine Again.by (i+1) ⟨by omega,by omega⟩ ?_
   have e:cntS (b.w.take (i+1))=cntS (b.w.take i)+popS (b.w.getD (i:Int).toNat 0):=hst (by omega)
   rw [e]
   repeat' first|(refine S0 ?_;conv=>whnf)|(refine Vo ?_)|exact T0
  ·rw [List.take_of_length_le (by omega)]
def andW (a b:List Int) (n:Nat):List Int:=(List.range n).map fun i=>aN (a.getD i 0) (b.getD i 0)
theorem and1_ct (x y:Int):Ct Tryz.prog 132 [u64 x,u64 y] fun r outs=>r=u64 (aN x y)∧outs = []:=by
 refine .det (De Tryz.func132 [] [] ?_)
 repeat' first|(refine S0 ?_;conv=>whnf)|exact T0|(refine T2 ?_ ?_)
 all_goals rfl
theorem u_set (F:Nat→Int) (i k:Nat) (hk:k=i) {n:Nat}:∀ j,j<n→iteL (j=k) [u64 (F i)] [u64 (if j<i then F j else 0)] = [u64 (if j<i+1 then F j else 0)]:=fun j _=>by
 subst hk
 rw [iteL_same rfl]
 by_cases e:j=k
 ·subst e;rw [if_pos rfl,if_pos (by omega)]
 ·rw [if_neg e]
  by_cases h:j<k
  ·rw [if_pos h,if_pos (by omega)]
  ·rw [if_neg h,if_neg (by omega)]
set_option maxHeartbeats 1000000 in
theorem both_ct (a b:Bs) (ha:a.ok) (hb:b.ok) (hl:a.L=b.L):Ct Tryz.prog 131 [a.d,b.d,.fn 132 []] fun r outs=>r = .tup [.agg [i64 a.L,u64s (andW a.w b.w a.w.length)],i64 0]∧outs = []:=by
 have hle:=ha.le
 have hn:b.w.length=a.w.length:=by rw [ha.n,hb.n,hl]
 refine .det (De Tryz.func131 ord131 [] ?_)
 repeat' first|(refine S0 ?_;conv=>whnf)|(refine Vb ?_)|exact T0|(with_reducible refine Br.tt ?_)|(refine B1 ?_)|(refine Met.by (bvalid_ct a ha) ?_;rintro q outs ⟨rfl,rfl⟩)|(refine Met.by (bvalid_ct b hb) ?_;rintro q outs ⟨rfl,rfl⟩)|(refine Br.swap ?_)|(refine Br.bnot ?_)|(refine T2 ?_ ?_)|(refine K0 ?_)
 all_goals
  refine CodeOK.loopW hΓ hm ord131 [] (by kernel_rfl) (α:=Nat) (fun i=>[(2,.fn 132 []),(3,.loc 0 0),(4,.loc 1 0),(6,.loc 2 0),(8,.loc 3 0),(35,u64s a.w),(36,i64 a.w.length),(37,i64 i)]) (fun i=>[(0,.var a.l),(1,.var b.l),(2,.var [i64 0,.nil]),(3,.var [i64 a.L,.own 4]),(4,.arr 35 1 a.w.length fun j=>[u64 (if j<i then aN (a.w.getD j 0) (b.w.getD j 0) else 0)])]) 5 (fun i=>i≤a.w.length) (fun i=>a.w.length - i) ?_ ?_
  ·refine Again.by 0 (Nat.zero_le _) ?_
   repeat' first|(refine S0 ?_;conv=>whnf)|(refine Vo ?_)|exact T0|(refine Cho.r ?_)|(exact ⟨rfl,fun _ _=>rfl⟩)|(refine Vm ?_ ?_)
  ·intro i hi
   repeat' first|(refine S0 ?_;conv=>whnf)|(refine Vo ?_)|exact T0|(refine W6 ?_)|(refine Met.by (and1_ct _ _) ?_;rintro q outs ⟨rfl,rfl⟩)|(refine Br.d (fun h=>?_) fun h=>?_)|(refine T2 ?_ ?_)|(refine K0 ?_)
   all_goals try refine Again.by (i+1) ⟨by omega,by omega⟩ ?_
   all_goals
    repeat' first|(refine S0 ?_;conv=>whnf)|(refine Vo ?_)|exact T0|(refine Cho.r ?_)|(exact ⟨rfl,u_set (fun j=>aN (a.w.getD j 0) (b.w.getD j 0)) i _ (Int.toNat_natCast i)⟩)|(refine Vm ?_ ?_)
   all_goals exact ⟨by simp [andW],fun j hj=>by
    have hj' : j<a.w.length:=by simpa [andW] using hj
    dsimp only
    rw [if_pos (by omega),show (andW a.w b.w a.w.length).getD j 0=aN (a.w.getD j 0) (b.w.getD j 0) by simp [andW,List.getD,hj']]⟩
theorem and_ct (a b:Bs) (ha:a.ok) (hb:b.ok) (hl:a.L=b.L):Ct Tryz.prog 82 [a.d,b.d] fun r outs=>r = .tup [.agg [i64 a.L,u64s (andW a.w b.w a.w.length)],i64 0]∧outs = []:=by
 refine .det (De Tryz.func82 [] [] ?_)
 repeat' first|(refine S0 ?_;conv=>whnf)|exact T0|exact T1|(refine Met.by (both_ct a b ha hb hl) ?_;rintro q outs ⟨rfl,rfl⟩)|(refine T2 ?_ ?_)|(refine K0 ?_)
def dice (a b:Bs):Int :=
 let all:=cntS a.w+cntS b.w
 if all=0 then 0 else (4000*cntS (andW a.w b.w a.w.length)+all).tdiv (2*all)
theorem dice_ct (a b:Bs) (ha:a.ok) (hb:b.ok) (hl:a.L=b.L):Ct Tryz.prog 52 [a.d,b.d] fun r outs=>r=i64 (dice a b)∧outs = []:=by
 have h3:=ha.le;have h3b:=hb.le
 have ho:(⟨a.L,andW a.w b.w a.w.length⟩:Bs).ok:=⟨ha.L,by simp only [andW,List.length_map,List.length_range];exact ha.n⟩
 have c1:=cnt_in a.w;have c2:=cnt_in b.w;have c3:=cnt_in (andW a.w b.w a.w.length)
 have hl3:(andW a.w b.w a.w.length).length=a.w.length:=by simp [andW]
 have e1:=count_ct a ha;have e2:=count_ct b hb;have e3:=count_ct _ ho
 unfold dice
 generalize cntS a.w=x at *
 generalize cntS b.w=y at *
 generalize cntS (andW a.w b.w a.w.length)=z at *
 have hq:0≤(4000*z+(x+y)).tdiv (2*(x+y))∧(4000*z+(x+y)).tdiv (2*(x+y))≤4000*z+(x+y):=by
  rw [Int.tdiv_eq_ediv_of_nonneg (by omega)]
  exact ⟨Int.ediv_nonneg (by omega) (by omega),Int.ediv_le_self _ (by omega)⟩
 refine .det (De Tryz.func52 ord52 [] ?_)
 repeat' first|(refine S0 ?_;conv=>whnf)|(refine Vo ?_)|exact T0|(refine W6 ?_)|(refine B1 ?_)|(refine Met.by (and_ct a b ha hb hl) ?_;rintro q outs ⟨rfl,rfl⟩)|(refine Met.by e1 ?_;rintro q outs ⟨rfl,rfl⟩)|(refine Met.by e2 ?_;rintro q outs ⟨rfl,rfl⟩)|(refine Met.by e3 ?_;rintro q outs ⟨rfl,rfl⟩)|(refine Br.d (fun h=>?_) fun h=>?_)|(refine Br.bnot ?_)|(refine T2 ?_ ?_)|(refine K0 ?_)|(refine K1 ?_)
 ·dsimp only;rw [if_pos h]
 ·dsimp only;rw [if_neg h]
end Kx
open Go Sx Go.Proofs
namespace Kx
structure En where
 id:Int
 ver:Int
 f:List Bs
def Bs.z:Bs:=⟨0,[]⟩
def bss (l:List Bs):D:=.tab 2 l.length fun i=>(l.getD i Bs.z).l
def En.l (e:En):List D:=[i64 e.id,i64 e.ver,bss e.f]
def En.d (e:En):D:=.agg e.l
theorem sfields_ct (n:Int) (h:1≤n∧n≤5):Ct Tryz.prog 51 [i64 n] fun r outs=>r = .bool true∧outs = []:=by
 refine .det (De Tryz.func51 [] [] ?_)
 repeat' first|(refine S0 ?_;conv=>whnf)|exact T0|(refine B1 ?_)|(refine T2 ?_ ?_)
 all_goals exact decide_eq_true (by omega)
def dices (a b:List Bs) (n:Nat):List Int:=(List.range n).map fun i=>dice (a.getD i Bs.z) (b.getD i Bs.z)
theorem dices_succ (a b:List Bs) (n:Nat):dices a b (n+1)=dices a b n ++ [dice (a.getD n Bs.z) (b.getD n Bs.z)]:=by simp [dices,List.range_succ]
theorem dices_len (a b:List Bs) (n:Nat):(dices a b n).length=n:=by simp [dices]
theorem compare_ct' (a b:En) (h1:1≤a.f.length) (h5:a.f.length≤5) (hn:b.f.length=a.f.length) (ha:∀ i,i<a.f.length→(a.f.getD i Bs.z).ok) (hb:∀ i,i<a.f.length→(b.f.getD i Bs.z).ok) (hl:∀ i,i<a.f.length→(a.f.getD i Bs.z).L=(b.f.getD i Bs.z).L) :
 Ct Tryz.prog 21 [a.d,b.d] fun r outs=>r = .tup [ints (dices a.f b.f a.f.length),i64 0]∧outs = []:=by
 refine .det (De Tryz.func21 ord21 [] ?_)
 repeat' first|(refine S0 ?_;conv=>whnf)|(with_reducible refine Br.tt ?_)|(refine B1 ?_)|(refine Br.swap ?_)|(refine Br.bnot ?_)|(refine K0 ?_)|(refine Met.by (g:=51) (sfields_ct _ (by omega)) ?_;rintro q outs ⟨rfl,rfl⟩)
 refine CodeOK.loopW hΓ hm ord21 [] (by kernel_rfl) (α:=Nat) (fun i=>[(2,.loc 0 0),(3,.loc 1 0),(6,.own 2),(24,bss a.f),(25,i64 a.f.length),(26,i64 i)]) (fun i=>[(0,.var a.l),(1,.var b.l),(2,.arr 3 1 (dices a.f b.f i).length fun j=>[i64 ((dices a.f b.f i).getD j 0)])]) 3 (fun i=>i≤a.f.length) (fun i=>a.f.length - i) ?_ ?_
 ·refine Again.by 0 (Nat.zero_le _) ?_
  repeat' first|(refine S0 ?_;conv=>whnf)|(refine Vo ?_)|exact T0|(rfl)|(refine Vm ?_ ?_)
 ·intro i hi
  have hd:=fun h:i<a.f.length=>dice_ct _ _ (ha i h) (hb i h) (hl i h)
  have hln:=dices_len a.f b.f i
  repeat' first|(refine S0 ?_;conv=>whnf)|(refine Vo ?_)|(refine Vb ?_)|exact T0|(refine W6 ?_)|(refine Met.by (hd (by omega)) ?_;rintro q outs ⟨rfl,rfl⟩)|(refine Br.d (fun h=>?_) fun h=>?_)|(refine T2 ?_ ?_)|(refine K1 ?_)
  ·refine Again.by (i+1) ⟨by omega,by omega⟩ ?_
   rw [dices_succ]
   repeat' first|(refine S0 ?_;conv=>whnf)|(refine Vo ?_)|exact T0|(exact app_one (fun x:Int=>[i64 x]) 0 (fun _ _=>rfl) _ _ rfl)|(refine Vm ?_ ?_)
  ·rw [show i=a.f.length by omega]
   exact ⟨rfl,fun _ _=>rfl⟩
theorem number2_ct:Ct Tryz.prog 53 [.tab 1 2 fun _=>[i64 2]] fun r outs=>r = .tup [i64 8,i64 0]∧outs = []:=by
 refine .det (De Tryz.func53 [] [] ?_)
 repeat' first|(refine S0 ?_;conv=>whnf)|(with_reducible refine Br.tt ?_)|(refine Br.bnot ?_)|(refine K0 ?_)|(refine Met.by (g:=51) (sfields_ct _ (by omega)) ?_;rintro q outs ⟨rfl,rfl⟩)
 refine CodeOK.loopW hΓ hm [] [] (by kernel_rfl) (α:=Nat) (fun i=>[(4,i64 (if i=0 then 0 else if i=1 then 2 else 8)),(11,.tab 1 2 fun _=>[i64 2]),(12,i64 2),(13,i64 i)]) (fun i=>[]) 0 (fun i=>i≤2) (fun i=>2 - i) ?_ ?_
 ·refine Again.by 0 (Nat.zero_le _) ?_
  repeat' first|(refine S0 ?_;conv=>whnf)|(refine Vo ?_)|exact T0
 ·intro i hi
  have h3:i=0∨i=1∨i=2:=by omega
  rcases h3 with rfl | rfl | rfl
  ·repeat' first|(refine S0 ?_;conv=>whnf)|(refine Vo ?_)|exact T0|(refine W6 ?_)|(refine B1 ?_)|(refine B0 ?_)|(refine Br.swap ?_)|(refine K0 ?_)|(refine Met.inl (f:=84) (fn:=Tryz.f84) hΓ hm Tryz.func84 [] [] (by kernel_rfl) ?_)|(refine Vm ?_ ?_)
   refine Again.by 1 ⟨by omega,by omega⟩ ?_
   repeat' first|(refine S0 ?_;conv=>whnf)|(refine Vo ?_)|exact T0
  ·repeat' first|(refine S0 ?_;conv=>whnf)|(refine Vo ?_)|exact T0|(refine W6 ?_)|(refine B1 ?_)|(refine B0 ?_)|(refine Br.swap ?_)|(refine K0 ?_)|(refine Met.inl (f:=84) (fn:=Tryz.f84) hΓ hm Tryz.func84 [] [] (by kernel_rfl) ?_)|(refine Vm ?_ ?_)
   refine Again.by 2 ⟨by omega,by omega⟩ ?_
   repeat' first|(refine S0 ?_;conv=>whnf)|(refine Vo ?_)|exact T0
  ·repeat' first|(refine S0 ?_;conv=>whnf)|exact T0|(refine B0 ?_)|(refine T2 ?_ ?_)
   all_goals rfl
theorem number2_at {f:Nat→List D} (hf:∀ j,j<2→f j = [i64 2]):Ct Tryz.prog 53 [.tab 1 2 f] fun r outs=>r = .tup [i64 8,i64 0]∧outs = [] :=
 number2_ct.arg ⟨rfl,⟨rfl,hf⟩,trivial⟩
theorem pattern2_ct:Ct Tryz.prog 22 [.tab 1 2 fun _=>[i64 800],.tab 1 2 fun _=>[i64 1000]] fun r outs=>r = .tup [i64 8,i64 0]∧outs = []:=by
 refine .det (De Tryz.func22 [] [] ?_)
 repeat' first|(refine S0 ?_;conv=>whnf)|(refine Vb ?_)|(with_reducible refine Br.tt ?_)|(refine B1 ?_)|(refine Br.swap ?_)|(refine Br.bnot ?_)|(refine K0 ?_)|(refine Met.by (g:=51) (sfields_ct _ (by omega)) ?_;rintro q outs ⟨rfl,rfl⟩)
 refine CodeOK.loopW hΓ hm [] [] (by kernel_rfl) (α:=Nat) (fun i=>[(1,.tab 1 2 fun _=>[i64 1000]),(6,.own 0),(24,.tab 1 2 fun _=>[i64 800]),(25,i64 2),(26,i64 i)]) (fun i=>[(0,.arr 3 1 2 fun j=>[i64 (if j<i then 2 else 0)])]) 1 (fun i=>i≤2) (fun i=>2 - i) ?_ ?_
 ·refine Again.by 0 (Nat.zero_le _) ?_
  repeat' first|(refine S0 ?_;conv=>whnf)|(refine Vo ?_)|exact T0|(exact ⟨rfl,fun _ _=>rfl⟩)|(refine Vm ?_ ?_)
 ·intro i hi
  repeat' first|(refine S0 ?_;conv=>whnf)|(refine Vo ?_)|exact T0|(refine W6 ?_)|(refine B0 ?_)|(refine Met.by (number2_at (fun j hj=>by show [i64 (if j<i then (2:Int) else 0)]=_;rw [if_pos (show j<i by omega)])) ?_;rintro q outs ⟨rfl,rfl⟩)|(exact ⟨trivial,trivial,trivial⟩)|(refine Br.d (fun h=>?_) fun h=>?_)|(refine Br.swap ?_)|(refine T2 ?_ ?_)|(refine K0 ?_)|(refine Vm ?_ ?_)
  refine Again.by (i+1) ⟨by omega,by omega⟩ ?_
  repeat' first|(refine S0 ?_;conv=>whnf)|(refine Vo ?_)|exact T0|(exact ⟨rfl,pos_set (fun _=>2) i _ (Int.toNat_natCast i)⟩)|(refine Vm ?_ ?_)
end Kx
